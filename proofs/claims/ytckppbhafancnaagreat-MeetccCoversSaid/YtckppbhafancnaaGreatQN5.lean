/- Texts B1, M1, R6, B2, C1, C2, D1, E1, E3, K1, K4, H1, V1, P1, H2, C3, TW, K3, E2, S1, S2, K5, K8, K9, K13, K2, K10, K7, K11, K14, K16, P4, K17, K18, P5, K20, LgS, LgT, LgU, LgV, LgW of this proof, joined. -/
import Derived.Test.YtckppbhafancnaaGreatQN4
set_option linter.unusedVariables false
set_option linter.unusedSimpArgs false
section
set_option linter.unusedVariables false
set_option linter.unusedSimpArgs false
set_option maxHeartbeats 8000000
set_option maxRecDepth 100000
attribute [local irreducible] Go.Lg.opsL Go.Lg.cx Go.Lg.nn Go.Lg.oB
namespace Go.Proofs.YtckppbhafancnaaGreat
open Go.Lg
end Go.Proofs.YtckppbhafancnaaGreat
namespace Go.Lg
open Go.Proofs.YtckppbhafancnaaGreat in
theorem aB.azb {P:Program} {H:bK} {ρ:Operand->LV} {T:TypeId} (hT:jV P T [(1,false),(1,false),(1,false)]) (hz:cU P T (.agg [.v (.bool false),.list 1 [],.list 1 []])):aB P H ρ (.build T #[]) (ae 0):=by
 rw [oa]
 exact aB.build (zs:=[.v (.bool false),.list 1 [],.list 1 []]) (ps:=#[]) hT hz (by intro p hp;cases hp)
end Go.Lg
namespace Go.Proofs.YtckppbhafancnaaGreat
open Go.Lg
theorem cy:(default:Rat)=0:=rfl
def iP (t:Rat):List Rat->List Rat
 | x :: y :: r=>((1-t)*x+t*y) :: iP t (y :: r)
 | _=>[]
theorem qk (t:Rat):∀ p:List Rat,(iP t p).length=p.length-1
 | []=>rfl
 | [_]=>rfl
 | x :: y :: r=>by simp [iP,qk t (y :: r)]
theorem adL (t:Rat):∀ (p:List Rat) (i:Nat),i+1<p.length->(iP t p).getD i 0=(1-t)*p.getD i 0+t*p.getD (i+1) 0
 | [],i,h=>by simp at h
 | [_],i,h=>by simp at h
 | x :: y :: r,0,_=>by simp [iP]
 | x :: y :: r,i+1,h=>by
   have:=adL t (y :: r) i lr
   simpa [iP] using this
theorem dg {p:List Rat} {i:Nat} (h:i<p.length):p.getD i 0∈p:=by
 rw [List.getD_eq_getElem?_getD,List.getElem?_eq_getElem h];exact List.getElem_mem h
theorem acd {p:List Rat} {x:Rat} (h:x∈p):∃ i,i<p.length/\p.getD i 0=x:=by
 obtain⟨i,hi,rfl⟩:=List.getElem_of_mem h
 exact⟨i,hi,by rw [List.getD_eq_getElem?_getD,List.getElem?_eq_getElem hi];rfl⟩
theorem azn {p q:List Rat} (hl:p.length=q.length) (h:∀ i,i<p.length->p.getD i 0=q.getD i 0):p=q:=by
 apply List.ext_getElem hl
 intro i h1 h2
 have:=h i h1
 rw [List.getD_eq_getElem?_getD,List.getD_eq_getElem?_getD,List.getElem?_eq_getElem h1,List.getElem?_eq_getElem h2] at this
 exact this
def uV (t:Rat):Nat->List Rat->List Rat
 | 0,_=>[]
 | k+1,p=>p.getD 0 0 :: uV t k (iP t p)
def rK (t:Rat):Nat->List Rat->List Rat->List Rat
 | 0,q,tl=>q++tl
 | k+1,q,tl=>rK t k (iP t q) (q.getD k 0 :: tl)
def nZ (p:List Rat) (t:Rat):List Rat:=uV t p.length p
def lD (p:List Rat) (t:Rat):List Rat:=rK t p.length p []
theorem ang (t:Rat):∀ (k:Nat) (p:List Rat),(uV t k p).length=k
 | 0,_=>rfl
 | k+1,p=>by simp [uV,ang t k]
theorem ak4 (t:Rat):∀ (k:Nat) (q tl:List Rat),q.length=k->(rK t k q tl).length=k+tl.length
 | 0,q,tl,h=>by simp [rK,h]
 | k+1,q,tl,h=>by rw [rK,ak4 t k _ _ (by rw [qk];omega)];simp;omega
theorem wG (p:List Rat) (t:Rat):(nZ p t).length=p.length:=ang t _ _
theorem wh (p:List Rat) (t:Rat):(lD p t).length=p.length:=by rw [lD,ak4 t _ _ _ rfl];simp
theorem aBt {α:Type} (A B:List α) (x v:α) {n:Nat} (h:n=A.length):(A++x :: B).set n v=A++v :: B:=by subst h;simp
theorem aeR {α:Type} (A B:List α) (d:α) {i:Nat} (h:i<A.length):(A++B).getD i d=A.getD i d:=by simp [List.getD_eq_getElem?_getD,List.getElem?_append_left h]
theorem ag1 {α:Type} (A B:List α) (d:α) {i:Nat} (h:A.length<=i):(A++B).getD i d=B.getD (i-A.length) d:=by simp [List.getD_eq_getElem?_getD,List.getElem?_append_right h]
theorem arn (l:List Rat) (k p:Nat):(l.drop k).getD p 0=l.getD (k+p) 0:=by
 rw [List.getD_eq_getElem?_getD,List.getD_eq_getElem?_getD,List.getElem?_drop]
theorem auB {t:Rat} {q tl:List Rat} {i:Nat} (h:i+1<q.length) :
  ((iP t q).take i++(q.drop i++tl)).getD i 0=q.getD i 0/\((iP t q).take i++(q.drop i++tl)).getD (i+1) 0=q.getD (i+1) 0:=by
 have hl:((iP t q).take i).length=i:=by rw [List.length_take,qk];omega
 constructor
 ·rw [ag1 _ _ _ J,hl,Nat.sub_self,aeR _ _ _ bm,arn,Nat.add_zero]
 ·rw [ag1 _ _ _ J,hl,aeR _ _ _ bm,arn];congr 1;omega
theorem av7 {t:Rat} {q tl:List Rat} {i:Nat} (h:i+1<q.length) :
  ((iP t q).take i++(q.drop i++tl)).set i ((1-t)*q.getD i 0+t*q.getD (i+1) 0)=(iP t q).take (i+1)++(q.drop (i+1)++tl):=by
 have hl:((iP t q).take i).length=i:=by rw [List.length_take,qk];omega
 rw [List.drop_eq_getElem_cons J,List.cons_append,aBt _ _ _ _ hl.symm,<-adL t q i h]
 have hs:i<(iP t q).length:=by rw [qk];omega
 rw [List.take_succ_eq_append_getElem hs,List.append_assoc]
 congr 1
 rw [List.getD_eq_getElem?_getD,List.getElem?_eq_getElem hs]
 simp
theorem aCm {t:Rat} {q tl:List Rat} {k:Nat} (h:q.length=k+1):(iP t q).take k++(q.drop k++tl)=iP t q++(q.getD k 0 :: tl):=by
 rw [List.take_of_length_le (by rw [qk];omega),List.drop_eq_getElem_cons J,List.drop_of_length_le J,List.getD_eq_getElem?_getD,List.getElem?_eq_getElem J]
 simp
theorem ajI {t:Rat} {q:List Rat} {C M k:Nat} (hC:rl (1-t)+rl t+1<=C) (h:∀ x∈q,(rl x+C)*2 ^ (k+1)<=M):∀ x∈iP t q,(rl x+C)*2 ^ k<=M:=by
 intro x hx
 obtain⟨i,hi,rfl⟩:=acd hx
 rw [qk] at hi
 rw [adL t q i J]
 have h1:=h _ (dg (p:=q) (i:=i) J)
 have h2:=h _ (dg (p:=q) (i:=i+1) J)
 have e1:=jx ((1-t)*q.getD i 0) (t*q.getD (i+1) 0)
 have e2:=cO (1-t) (q.getD i 0)
 have e3:=cO t (q.getD (i+1) 0)
 rw [Nat.pow_succ] at h1 h2
 have hle:rl ((1-t)*q.getD i 0+t*q.getD (i+1) 0)+C<=(rl (q.getD i 0)+C)+(rl (q.getD (i+1) 0)+C):=by omega
 have:=Nat.mul_le_mul_right (2 ^ k) hle
 have e6:=Nat.add_mul (rl (q.getD i 0)+C) (rl (q.getD (i+1) 0)+C) (2 ^ k)
 have e4:(rl (q.getD i 0)+C)*(2 ^ k*2)=(rl (q.getD i 0)+C)*2 ^ k*2:=by rw [Nat.mul_assoc]
 have e5:(rl (q.getD (i+1) 0)+C)*(2 ^ k*2)=(rl (q.getD (i+1) 0)+C)*2 ^ k*2:=by rw [Nat.mul_assoc]
 omega
theorem akO {o p:List Rat} {k:Nat} (hk:k<p.length) (cN:o.length=p.length) (ht:o.take k=p.take k):(o.set k (p.getD k 0)).take (k+1)=p.take (k+1):=by
 rw [List.take_succ_eq_append_getElem (by simpa [cN] using hk),List.take_succ_eq_append_getElem hk,List.take_set_of_le (Nat.le_refl _),ht]
 congr 1
 simp [List.getD_eq_getElem?_getD,List.getElem?_eq_getElem hk]
theorem r1r:((1:Int):Rat)=1:=rfl
theorem zK {x:Rat} {C M k:Nat} (h:(rl x+C)*2 ^ k<=M):rl x+C<=M:=by
 have:1<=2 ^ k:=Nat.pow_pos J
 exact Nat.le_trans (Nat.le_mul_of_pos_right _ this) h
theorem ao1 {p:List Rat} {C:Nat} (hC:1<=C) (h:∀ x∈p,(rl x+C)*2 ^ p.length<=1073741824):p.length<=30:=by
 cases p with
 | nil=>simp
 | cons x r =>
  have h1:=h x aO
  have h2:1*2 ^ (x :: r).length<=(rl x+C)*2 ^ (x :: r).length:=Nat.mul_le_mul_right _ J
  rcases Nat.lt_or_ge 30 (x :: r).length with h3 | h3
  ·have h4:2 ^ 31<=2 ^ (x :: r).length:=Nat.pow_le_pow_right J h3
   omega
  ·exact h3
theorem aAP {t:Rat} {q tl:List Rat} {i:Nat} (h:i<q.length):((iP t q).take i++(q.drop i++tl)).length=q.length+tl.length:=by
 simp [qk];omega
namespace ap9
theorem aH {p q:Prop} (k:q) (e:p=q:=by simp only [e1,e2,e3,e4,p1,p2,p3,q1,q2,q3,l1,t0,t1,r1,r2,r3,r4,Nat.zero_add,Nat.reduceMul,Nat.reduceAdd,b1,b2,b3,b4,b5,b6,i1,i2,i3,i4,i5,i6,Nat.reduceBEq,cy,Rat.add_zero,aP ao,cH,LV.kill,bN];exact rfl):p:=e.mpr k
end ap9
open ap9 in
theorem agM (p:List Rat) (hl:p.length<=1048576) (ma:∀ x∈p,rl x<=274877906944):nk Tryz.prog 178 [.list 3 (p.map ae)] (.ref 1 3 0 p.length) [⟨3,p.map ae,true⟩]:=by
 refine fnO Tryz.func178 ?_
 refine bq ?_
 refine eI rfl rfl (.kK (n:=p.length) (m:=p.length) ml ml om om om) ?_
 refine bu ?_
 refine jL (fun(k:Nat) (o:List Rat) L=>(((((St.mk L.slot (hp [(8,⟨3,o.map ae,true⟩)])).put (some 3) (.ref 8 3 0 p.length)).put (some 9) (.list 3 (p.map ae))).put (some 10) (ah p.length)).put (some 11) (ah k))) (fun k o=>k<=p.length/\o.length=p.length/\o.take k=p.take k) (fun k o=>p.length-k) 0 (List.replicate p.length 0) ⟨Nat.zero_le _,by simp,rfl⟩ ?_
 rintro k o L1 ⟨hk,cN,ht⟩
 refine az ?_
 refine aC rfl ?_ ?_<;>intro aaL h12
 ·have kT:k<p.length:=by omega
  have hrk:=ma _ (dg kT)
  refine mQ ?_
  refine ak rfl nQ ?_
  refine cp aq (iw (p.getD k 0) 0 (by rw [show rl 0=1 from rfl];omega)) ?_
  refine aZ ?_
  refine cq (aw.kill _ 5) ?_
  refine ax ?_
  exact fU (k+1) (o.set k (p.getD k 0)) ⟨J,by simp [cN],akO kT cN ht⟩
 ·obtain rfl:k=p.length:=by omega
  rw [List.take_length,<-cN,List.take_length] at ht
  refine bu ?_
  subst ht
  exact acA rfl rfl (aW ao _)
namespace aki
theorem aH {p q:Prop} (k:q) (e:p=q:=by simp only [e1,e2,e3,e4,p1,p2,p3,q1,q2,q3,l1,t0,t1,r1,r2,r3,r4,Nat.zero_add,Nat.reduceMul,Nat.reduceAdd,b1,b2,b3,b4,b5,b6,i1,i2,i3,i4,i5,i6,Nat.reduceBEq,abA,cy,Rat.add_zero,List.append_nil,List.length_append,r1r,ek,eq0,ahp,aiE,ems,eme,kZ,kW,kJ,iA,List.length_cons,List.length_nil,aP ao,cH,LV.kill,bN];exact rfl):p:=e.mpr k
end aki
open aki in
theorem aup (p:List Rat) (t:Rat) (cc:Nat) (hC:rl (1-t)+rl t+1<=cc) (sH:cc<=1073741824) (hs:∀ x∈p,(rl x+cc)*2 ^ p.length<=1073741824):av Tryz.prog 176 [.list 3 (p.map ae),ae t] (.a7 [.list 3 ((nZ p t).map ae),.list 3 ((lD p t).map ae)]):=by
 have hlen:=ao1 (Nat.le_trans (Nat.le_add_left 1 _) hC) hs
 have ma:∀ x∈p,rl x<=274877906944:=fun x hx=>by have:=zK (hs x hx);omega
 refine aN Tryz.func176 ?_
 have ek:True:=trivial
 have eq0:True:=trivial
 have ahp:True:=trivial
 have aiE:True:=trivial
 have ems:True:=trivial
 have eme:True:=trivial
 have kZ:True:=trivial
 refine bf ?_
 refine aY 4 an ?_
 refine cp aK (uk 1 ai ai) ?_
 refine ar ?_
 refine cp aq (p6 _ _ (by rw [show rl ((1:Int):Rat)=1 from rfl];omega)) ?_
 refine aR ?_
 refine yD [] rfl rfl (.cons (.pure (eB ao _ _)) .nil) (agM p J ma) (aW ao _) rfl ?_
 refine aR ?_
 refine eI rfl rfl (.ajn (n:=0) (m:=p.length) ao Tryz.underlying155 Z31 cJ kA rfl rfl J J J) ?_
 refine dp ?_
 refine ju (aw.mv (t:=8) (b:=18) 33 ai ai ai rfl rfl rfl) ?_
 refine lp4 (fun(k:Nat) (q tl lo:List Rat) L=>((((((St.mk L.slot (hp [(3,⟨3,[ae t],true⟩),(6,⟨3,[ae (1-t)],true⟩),(1000241,⟨3,(q++tl).map ae,true⟩),(33,⟨3,lo.map ae,true⟩)])).put (some 3) (.aA 3 3 0 0)).put (some 6) (.aA 6 3 0 0)).put (some 7) (.ref 1000241 3 0 p.length)).put (some 8) (.ref 33 3 0 lo.length)).put (some 9) (iL ((k:Int)-1)))) (fun k q tl lo=>q.length=k/\k+tl.length=p.length/\lo.length+k=p.length/\lo++uV t k q=nZ p t/\rK t k q tl=lD p t/\∀ x∈q,(rl x+cc)*2 ^ k<=1073741824) (fun k q tl lo=>k) p.length p ([]) ([]) ⟨rfl,by simp,by simp,by simp [nZ],rfl,hs⟩ ?_
 rintro k q tl lo L1 ⟨hq,yY,bX,hL,hH,bD⟩
 refine aR ?_
 refine aC rfl ?_ ?_<;>intro p7 oS
 ·obtain⟨j,rfl⟩:∃ j,k=j+1:=⟨k-1,J⟩
  have ek:(((j+1:Nat):Int)-1)=(j:Int):=by omega
  have eq0:(q++tl).getD 0 0=q.getD 0 0:=aeR _ _ _ J
  have ni:=zK (bD _ (dg (i:=0) J))
  refine bB ?_
  refine ak rfl nQ ?_
  simp only [wP,cy,Nat.zero_add,eq0]
  refine cp aq (iw _ 0 (by rw [show rl 0=1 from rfl];omega)) ?_
  refine ar ?_
  refine bI rfl (.app (news:=[ae (q.getD 0 0+0)]) rfl rfl rfl rfl rfl aO (.inl rfl) ai Tryz.underlying155 Tryz.underlying155 jY cJ rfl kA (.inl ⟨32,0,_,rfl,by decide,rfl,rfl,by simp,rfl,by simp [aG,ao.pure]⟩) bm bm ai) ?_
  refine ax ?_
  refine cq (aw.kill _ 32) ?_
  refine aZ ?_
  refine dG (fun(i:Nat) L=>((((((((St.mk L.slot (hp [(3,⟨3,[ae t],true⟩),(6,⟨3,[ae (1-t)],true⟩),(1000241,⟨3,((iP t q).take i++(q.drop i++tl)).map ae,true⟩),(33,⟨3,(lo++[q.getD 0 0]).map ae,true⟩)])).put (some 3) (.aA 3 3 0 0)).put (some 6) (.aA 6 3 0 0)).put (some 7) (.ref 1000241 3 0 p.length)).put (some 8) (.ref 33 3 0 (lo.length+1))).put (some 9) (ah j)).put (some 34) (ah j)).put (some 35) (ah i))) (fun i=>i<=j) (fun i=>j-i) 0 (Nat.zero_le _) ?_
  rintro i L2 hi
  refine az ?_
  refine aC rfl ?_ ?_<;>intro alF h36
  ·have qI:i<j:=by omega
   have kZ:((i:Int)+1).toNat=i+1:=by omega
   obtain⟨ahp,aiE⟩:=auB (t:=t) (q:=q) (tl:=tl) (i:=i) J
   have ems:=av7 (t:=t) (q:=q) (tl:=tl) (i:=i) J
   have ib:=zK (bD _ (dg (i:=i) J))
   have nv:=zK (bD _ (dg (i:=i+1) J))
   have iI:=cO (1-t) (q.getD i 0)
   have dY:=cO t (q.getD (i+1) 0)
   have tP:=aAP (t:=t) (q:=q) (tl:=tl) (i:=i) J
   refine bB ?_
   refine aY 17 an ?_
   refine aR ?_
   simp only [t1,cy,Nat.zero_add,ahp]
   refine cp aq (gf _ _ J) ?_
   refine az ?_
   simp only [kZ,cy,Nat.zero_add,aiE]
   refine cp aq (gf _ _ J) ?_
   refine cp aq (iw _ _ J) ?_
   refine bB ?_
   exact jS
  ·obtain rfl:j=i:=by omega
   have eme:=aCm (t:=t) (tl:=tl) hq
   refine bu ?_
   exact oP j (iP t q) (q.getD j 0 :: tl) (lo++[q.getD 0 0]) ⟨by rw [qk];omega,by simp;omega,by simp;omega,by rw [List.append_assoc];exact hL,hH,ajI hC bD⟩
 ·obtain rfl:k=0:=by omega
  obtain rfl:q=[]:=List.eq_nil_of_length_eq_zero hq
  rw [uV,List.append_nil] at hL
  rw [rK] at hH
  refine dj ?_
  rw [<-hL,<-hH]
  exact ahB [33,1000241] rfl rfl (eM ao rfl rfl rfl) rfl (eM ao rfl rfl (by simpa using yY.symm))
def ik (l:List Int) (k:Nat):LV:=.agg [.list 1 (l.map eW),.v (.int .i64 (k:Nat))]
theorem cY (l:List Int) (k:Nat):aG [ik l k]=true:=by simp [aG,ik,LV.pure,aW m8]
theorem aeP {a b:Int} (h:b≠0):dk .rem .i64 a b=some (.int .i64 (a.tmod b)):=by simp [dk,h]
theorem dfi:(default:Int)=0:=rfl
def dQ (l:List Int) (k:Nat) (n:Int):Int:=if k<l.length then l.getD k 0 % n else 0
def bz (l:List Int) (k:Nat):Nat:=if k<l.length then k+1 else k
theorem mZ {l:List Int} {k:Nat} {n:Int} (h:0<n):0<=dQ l k n/\dQ l k n<n:=by
 unfold dQ;split
 ·exact⟨Int.emod_nonneg _ J,Int.emod_lt_of_pos _ h⟩
 ·omega
theorem ati {a m:Int} (hm:0<m):a % m=if a.tmod m<0 then a.tmod m+m else a.tmod m:=by
 have h1:=Int.emod_nonneg a (show m≠0 by omega)
 have h2:=Int.emod_lt_of_pos a hm
 rw [Int.tmod_eq_emod]
 split<;>split<;>omega
theorem adW {P:Program} {L:St} {a:Nat} {T:TypeId} {b sz:Nat} {x y:LV} {m:Bool} {n:Nat} {ag:Bool} {blk:a8} (h:L.slot a=.aA b sz 0 0) (hb:L.heap b=some ⟨sz,[x],m⟩)
  (hx:x.au=sz) (bW:x.at 0 n ag=some x) (hT:bp P T n ag) (hi:cG L.heap x y) (h0:L.heap 0=some blk) (hm:blk.mt=true) (hp:aG blk.vals=true):u9 P [.cell a T] L y blk :=
 ⟨[x],[y],L.heap,.cons ⟨b,sz,0,0,_,x,n,ag,h,hb,rfl,rfl,hx,bW,hT⟩ .nil,bK.le_refl _,.cons (.cf hi) .nil,h0,hm,hp,rfl⟩
theorem aAG {P:Program} {L:St} {t:Nat} {x y:LV} {blk:a8} (bs:List Nat) (h0:bs.contains 0=false) (h:L.slot t=x) (hi:cG (L.bR bs).heap x y) (hb:(L.bR bs).heap 0=some blk) (hm:blk.mt=true) (hp:aG blk.vals=true):u9 P [.tmp t] L y blk :=
 ⟨[x],[y],(L.bR bs).heap,.cons h .nil,pv bs h0,.cons (.cf hi) .nil,hb,hm,hp,rfl⟩
def my (l:List Int) (k:Nat):Rat × Nat :=
 if dQ l (bz l k) 4=3 then(((dQ l k 13-6:Int):Rat)/((1+dQ l (bz l (bz l k)) 4:Int):Rat),bz l (bz l (bz l k))) else(((dQ l k 13-6:Int):Rat),bz l (bz l k))
theorem aa1 {n d:Int} (h1:n.natAbs<4294967296) (h2:d.natAbs<4294967296):rl ((n:Rat)/(d:Rat))<=1:=by
 rw [<-ac1]
 have:=zM (k:=1) (decide (n<0) != decide (d<0)) (by simpa using h1) (by simpa using h2)
 omega
theorem abN {n:Int} (h1:n.natAbs<4294967296):rl (n:Rat)<=1:=by
 have:=aa1 (n:=n) (d:=1) h1 ai
 rwa [show ((1:Int):Rat)=1 from rfl,Rat.div_def,show (1:Rat)⁻¹=1 by grind,Rat.mul_one] at this
theorem aA0 {P:Program} {L:St} {t b sz:Nat} {blk:a8} (h:L.slot t=.aA b sz 0 0) (hb:L.heap b=some blk) (hp:aG blk.vals=true):nt P [.tmp t] L (.aA 1 sz 0 0) [blk] :=
 ⟨[.aA b sz 0 0],[.aA 1 sz 0 0],L.heap,[b],.cons h .nil,bK.le_refl _,.cons (.ptr (k:=0) rfl) .nil,by simp,rfl,fun k c hk=>by
  cases k with
  | zero=>simp at hk;subst hk;exact⟨blk,hb,rfl,hp⟩
  | succ k=>simp at hk,rfl⟩
theorem l6 {l:List Int} {k:Nat} (hl:l.length<=500) (hk:k<=500):bz l k<=500:=by unfold bz;split<;>omega
theorem adr {l:List Int} {k:Nat} (hl:l.length<=500) (hk:k<=500):(my l k).2<=500:=by
 have h1:=l6 (l:=l) hl hk
 have h2:=l6 (l:=l) hl h1
 unfold my;split
 ·exact l6 hl h2
 ·exact h2
theorem acB (l:List Int) (k b:Nat):(ik l k).kill b=ik l k:=LV.kt b _ (by simp [ik,LV.pure,aG,aW m8])
open H0 in
theorem aat (n m:Int) (hm:0<m) (dY:m<=4611686018427387904):av Tryz.prog 12 [iL n,iL m] (iL (n % m)):=by
 have hE:=ati (a:=n) hm
 have hb:=Int.tmod_lt_of_pos n hm
 have tZ:=Int.lt_tmod_of_pos n hm
 refine aN Tryz.func12 ?_
 refine bq ?_
 refine ak rfl (.bin rfl rfl (aeP J)) ?_
 refine bB ?_
 refine fZ (fun L=>∃ (r:Int) (L1:St),(r=n % m)/\L=((St.mk L1.slot (hp [])).put (some 0) (iL r))) ?_ ?_
 ·refine aC rfl ?_ ?_<;>intro ta h9
  ·refine aJ ?_
   refine ak rfl v8 ?_
   refine aJ ?_
   exact⟨n.tmod m+m,_,by rw [hE,if_pos h9],((aj (bC cl) cl)).symm⟩
  ·refine aL ?_
   exact⟨n.tmod m,_,by rw [hE,if_neg h9],((aj (bC cl) cl)).symm⟩
 ·rintro _ ⟨r,LC9,hr,rfl⟩
  refine bf ?_
  rw [<-hr]
  exact dC
open H0 in
theorem ayb (l:List Int) (h:l.length<=9223372036854775807):av Tryz.prog 8 [.list 1 (l.map eW)] (bL (decide (l.length<=500))):=by
 refine aN Tryz.func8 ?_
 refine dj ?_
 refine dB (x:=.v (.bool (decide (((l.length:Nat):Int)<=500)))) rfl ?_
 rw [show decide (((l.length:Nat):Int)<=500)=decide (l.length<=500) by rw [decide_eq_decide];omega]
 exact .pure rfl
open H0 in
theorem aB2 (l:List Int):nk Tryz.prog 22 [.list 1 (l.map eW)] (.aA 1 2 0 0) [⟨2,[ik l 0],true⟩]:=by
 refine fnO Tryz.func22 ?_
 refine bf ?_
 refine ak rfl (.build (zs:=[.v (.slice none 0 0),.v (.int .i64 0)]) arx aBO (by simp only [List.forall_mem_cons];exact⟨⟨_,rfl,rfl,kH⟩,fun _ h=>by cases h⟩)) ?_
 refine eI rfl rfl (.box kH) ?_
 refine ax ?_
 exact aA0 rfl rfl (cY l 0)
namespace amA
theorem aH {p q:Prop} (k:q) (e:p=q:=by simp only [e1,e2,e3,e4,p1,p2,p3,q1,q2,q3,l1,t0,t1,r1,r2,r3,r4,Nat.zero_add,Nat.reduceMul,Nat.reduceAdd,b1,b2,b3,b4,b5,b6,i1,i2,i3,i4,i5,i6,Nat.reduceBEq,l1,ek1,dfi];exact rfl):p:=e.mpr k
end amA
open amA in
theorem oy (l:List Int) (k:Nat) (n:Int) (hl:l.length<=500) (hk:k<=500) (hn:0<n) (lI:n<=1000):lH Tryz.prog 31 ⟨2,[ik l k],true⟩ [.aA 0 2 0 0,iL n] (iL (dQ l k n)) ⟨2,[ik l (bz l k)],true⟩:=by
 refine ud Tryz.func31 ?_
 have ek1:True:=trivial
 refine aR ?_
 refine aY 10 an ?_
 refine bu ?_
 refine aC rfl ?_ ?_<;>intro oI kg
 ·have rX:¬ k<l.length:=by omega
  refine aR ?_
  rw [dQ,if_neg rX,bz,if_neg rX]
  exact sw rfl (.cf (.pure rfl)) rfl rfl (cY l _)
 ·have rX:k<l.length:=by omega
  have ek1:(((k+1:Nat):Int)-1).toNat=k:=by omega
  refine bo ?_
  refine bI rfl (.store (y:=ik l k) (y':=ik l (k+1)) rfl rfl rfl rfl rfl rfl rfl T3 kH) ?_
  refine aJ ?_
  refine aY 14 an ?_
  refine bf ?_
  refine ak rfl (.bin rfl rfl (xD (by first | omega | (simp;omega)) (by first | omega | (simp;omega)))) ?_
  refine aJ ?_
  refine cp aq (aat _ _ J J) ?_
  refine ax ?_
  rw [dQ,if_pos rX,bz,if_pos rX]
  exact sw rfl (.cf (.pure rfl)) rfl rfl (cY l _)
namespace arN
theorem aH {p q:Prop} (k:q) (e:p=q:=by simp only [e1,e2,e3,e4,p1,p2,p3,q1,q2,q3,l1,t0,t1,r1,r2,r3,r4,Nat.zero_add,Nat.reduceMul,Nat.reduceAdd,b1,b2,b3,b4,b5,b6,i1,i2,i3,i4,i5,i6,Nat.reduceBEq,l1];exact rfl):p:=e.mpr k
end arN
open arN in
theorem ahl (l:List Int) (k:Nat) (hl:l.length<=500) (hk:k<=500):lH Tryz.prog 67 ⟨2,[ik l k],true⟩ [.aA 0 2 0 0] (ae (my l k).1) ⟨2,[ik l (my l k).2],true⟩:=by
 have k1:=l6 (l:=l) hl hk
 have k2:=l6 (l:=l) hl k1
 have wu:=mZ (l:=l) (k:=k) (n:=13) ai
 have tZ:=mZ (l:=l) (k:=bz l (bz l k)) (n:=4) ai
 refine ud Tryz.func67 ?_
 refine bf ?_
 refine vy 0 rfl rfl rfl (cY l _) (.cons .ptr (.cons (.cf (.pure rfl)) .nil)) .ptr (oy l k 13 J J ai ai) rfl (cY l _) ?_
 refine aR ?_
 refine vy 0 rfl rfl rfl (cY l _) (.cons .ptr (.cons (.cf (.pure rfl)) .nil)) .ptr (oy l (bz l k) 4 J J ai ai) rfl (cY l _) ?_
 refine aJ ?_
 refine aC rfl ?_ ?_<;>intro mX h8
 ·refine aJ ?_
  refine ak rfl te ?_
  refine ar ?_
  refine vy 0 rfl rfl rfl (cY l _) (.cons .ptr (.cons (.cf (.pure rfl)) .nil)) .ptr (oy l (bz l (bz l k)) 4 J J ai ai) rfl (cY l _) ?_
  refine ak rfl v8 ?_
  refine cp aq (zf (dQ l k 13-6) (1+dQ l (bz l (bz l k)) 4) J J J J J) ?_
  refine aZ ?_
  rw [my,if_pos h8]
  exact adW rfl rfl (ao.au _) (nK _) cJ (.pure (ao.pure _)) rfl rfl (cY l _)
 ·refine aZ ?_
  refine ak rfl te ?_
  refine cp aK (oQ (dQ l k 13-6) J J) ?_
  refine ax ?_
  rw [my,if_neg h8]
  exact adW rfl rfl (ao.au _) (nK _) cJ (.pure (ao.pure _)) rfl rfl (cY l _)
theorem aCg (q:Rat):iG q≠1:=by rw [tG];split<;>omega
theorem aj9 (n:Nat) (h:(al n).length<=4611686018427387904):av Tryz.prog 147 [ba n] (bL true):=by
 have:=avZ (al n) h
 rwa [decide_eq_true] at this
 by_cases h0:(al n).length=0
 ·exact .inl h0
 ·exact .inr (adn (ac4 n) J)
theorem ar3 {q:Rat} (h:0<(al (iG q)).length):Nat.gcd q.num.natAbs (iG q)=1:=by
 rw [afz h];exact q.reduced
end Go.Proofs.YtckppbhafancnaaGreat
namespace Go.Lg
end Go.Lg
namespace Go.Proofs.YtckppbhafancnaaGreat
open Go.Lg
theorem m10 {m:Nat} (h:m<10):(48+m % 10) % 4294967296=48+m:=by
 rw [Nat.mod_eq_of_lt h,Nat.mod_eq_of_lt (Nat.lt_of_lt_of_le (Nat.add_lt_add_left h 48) ai)]
namespace arb
theorem aH {p q:Prop} (k:q) (e:p=q:=by simp only [e1,e2,e3,e4,p1,p2,p3,q1,q2,q3,l1,t0,t1,r1,r2,r3,r4,Nat.zero_add,Nat.reduceMul,Nat.reduceAdd,b1,b2,b3,b4,b5,b6,i1,i2,i3,i4,i5,i6,Nat.reduceBEq,bU,fc,wP];exact rfl):p:=e.mpr k
end arb
open arb in
theorem aCA (q:Rat) (h:rl q<=1099511627776):av Tryz.prog 80 [ae q] (bL true):=by
 have a1:=kY q
 have a2:=mE q
 have a3:=lK q
 have aQ:=aCg q
 refine aN Tryz.func80 ?_
 refine bo ?_
 refine cp aK (aj9 _ J) ?_
 refine ax ?_
 refine cp aK (aj9 _ J) ?_
 refine bf ?_
 refine dy 18 rfl ?_ ?_<;>intro rz rp
 ·refine bq ?_
  refine aC rfl ?_ ?_<;>intro af0 x9
  ·exfalso
   have:=(xj (n:=iG q) J).1
   omega
  ·refine bo ?_
   refine aC rfl ?_ ?_<;>intro aal xq
   ·refine az ?_
    refine dy 33 rfl ?_ ?_<;>intro ack h33
    ·have hz:=wi (q:=q) J
     subst hz
     refine bB ?_
     exact dC
    ·exfalso
     have hz:=wi (q:=q) J
     subst hz
     revert ack
     decide
   ·refine bq ?_
    refine dy 43 rfl ?_ ?_<;>intro ahG h43
    ·refine aZ ?_
     first | simp only [bU,l9] | skip
     refine aR ?_
     exact dC
    ·have l9:=ar3 (q:=q) J
     refine ax ?_
     refine cp aq (ajS _ _ (cE _) (cE _) J J) ?_
     first | simp only [bU,l9] | skip
     refine cp aK (aaU (al 1) (cE _) ai) ?_
     refine az ?_
     exact dC
 ·refine xT ?_
  refine aC rfl ?_ ?_<;>intro aal xq
  ·refine az ?_
   refine dy 33 rfl ?_ ?_<;>intro ack h33
   ·have hz:=wi (q:=q) J
    subst hz
    refine bB ?_
    exact dC
   ·exfalso
    have hz:=wi (q:=q) J
    subst hz
    revert ack
    decide
  ·refine bq ?_
   refine dy 43 rfl ?_ ?_<;>intro ahG h43
   ·refine aZ ?_
    first | simp only [bU,l9] | skip
    refine aR ?_
    exact dC
   ·have l9:=ar3 (q:=q) J
    refine ax ?_
    refine cp aq (ajS _ _ (cE _) (cE _) J J) ?_
    first | simp only [bU,l9] | skip
    refine cp aK (aaU (al 1) (cE _) ai) ?_
    refine az ?_
    exact dC
def HS (p:List Rat) (t:Rat):Prop:=∃ cc,rl (1-t)+rl t+1<=cc/\cc<=1073741824/\∀ x∈p,(rl x+cc)*2 ^ p.length<=1073741824
theorem acK (p:List Rat) (t:Rat) (h:HS p t):av Tryz.prog 176 [.list 3 (p.map ae),ae t] (.a7 [.list 3 ((nZ p t).map ae),.list 3 ((lD p t).map ae)]):=by
 obtain⟨cc,h1,h2,h3⟩:=h
 exact aup p t cc h1 h2 h3
theorem HS.len {p:List Rat} {t:Rat} (h:HS p t):p.length<=30:=by
 obtain⟨cc,h1,h2,h3⟩:=h
 exact ao1 (Nat.le_trans (Nat.le_add_left 1 _) h1) h3
theorem HS.rl {p:List Rat} {t:Rat} (h:HS p t):rl t<=1073741824/\∀ x∈p,Go.Lg.rl x<=1073741824:=by
 obtain⟨cc,h1,h2,h3⟩:=h
 exact⟨J,fun x hx=>by have:=zK (h3 x hx);omega⟩
def cL (p:List Rat) (t:Rat):Rat:=(nZ p t).getD (p.length-1) 0
def ua (p:List Rat) (a b:Rat):List Rat:=if 1-a≠0 then nZ (lD p a) ((b-a)/(1-a)) else if b≠0 then lD (nZ p b) (1/b) else p.reverse
theorem anf (p:List Rat) {x:Nat} (h:x<p.length):p.reverse.getD x 0=p.getD (p.length-1-x) 0:=by
 rw [List.getD_eq_getElem?_getD,List.getD_eq_getElem?_getD,List.getElem?_reverse h]
theorem xO (o:List Rat) (i x:Nat) (v:Rat) (hi:i<o.length):(o.set i v).getD x 0=if x=i then v else o.getD x 0:=by
 rw [List.getD_eq_getElem?_getD,List.getD_eq_getElem?_getD,List.getElem?_set]
 by_cases h:i=x
 ·subst h;simp [hi]
 ·rw [if_neg h,if_neg (fun e=>h e.symm)]
theorem azi {p o:List Rat} {i j n:Nat} (hp:p.length=n) (ho:o.length=n) (qI:i<j) (hj:j+i+1=n)
  (h:∀ x,x<n->o.getD x 0=if x<i\/n<=x+i then p.getD (n-1-x) 0 else p.getD x 0) :
  ∀ x,x<n->((o.set i (o.getD j 0)).set j (o.getD i 0)).getD x 0=if x<i+1\/n<=x+(i+1) then p.getD (n-1-x) 0 else p.getD x 0:=by
 intro x hx
 rw [xO _ _ _ _ bm,xO _ _ _ _ J,h j J,h i J,h x hx]
 by_cases h1:x=j
 ·subst h1
  rw [if_pos rfl,if_neg J,if_pos J,show n-1-x=i by omega]
 ·rw [if_neg h1]
  by_cases h2:x=i
  ·subst h2
   rw [if_pos rfl,if_neg J,if_pos J,show n-1-x=j by omega]
  ·rw [if_neg h2]
   by_cases h3:x<i\/n<=x+i
   ·rw [if_pos h3,if_pos J]
   ·rw [if_neg h3,if_neg J]
theorem asY {p o:List Rat} {i n:Nat} (hp:p.length=n) (ho:o.length=n) (hi:n<=2*i+1) (h:∀ x,x<n->o.getD x 0=if x<i\/n<=x+i then p.getD (n-1-x) 0 else p.getD x 0):o=p.reverse:=by
 refine azn (by simp [hp,ho]) (fun x hx=>?_)
 rw [anf p J,h x J,hp]
 by_cases h3:x<i\/n<=x+i
 ·rw [if_pos h3]
 ·rw [if_neg h3];congr 1;omega
namespace amH
theorem aH {p q:Prop} (k:q) (e:p=q:=by simp only [e1,e2,e3,e4,p1,p2,p3,q1,q2,q3,l1,t0,t1,r1,r2,r3,r4,Nat.zero_add,Nat.reduceMul,Nat.reduceAdd,b1,b2,b3,b4,b5,b6,i1,i2,i3,i4,i5,i6,Nat.reduceBEq,cy,ej,hll];exact rfl):p:=e.mpr k
end amH
open amH in
theorem aft (p:List Rat) (t:Rat) (h:HS p t) (mj:0<p.length):av Tryz.prog 190 [.list 3 (p.map ae),ae t] (ae (cL p t)):=by
 have hll:=wG p t
 have hlen:=h.len
 have hj:(((p.length:Nat):Int)-1).toNat=p.length-1:=by omega
 refine aN Tryz.func190 ?_
 have ej:True:=trivial
 refine dj ?_
 refine aC rfl ?_ ?_<;>intro ta h9
 ·omega
 ·refine az ?_
  refine cp aq (acK _ _ (by assumption)) ?_
  refine bu ?_
  refine ak rfl jz ?_
  refine az ?_
  rw [cL]
  exact fq
open H0 in
theorem ajg (a b:Rat) (h:rl a+rl b<=1099511627776):av Tryz.prog 177 [ae a,ae b] (ae (a/b)):=by
 refine aN Tryz.func177 ?_
 refine bo ?_
 refine cp aq (td _ _ J) ?_
 refine gy ?_
 exact fq
def lb:Nat->Nat->Nat
 | _,0=>1
 | 0,_+1=>0
 | n+1,k+1=>lb n k+lb n (k+1)
theorem ajA:∀ {n k:Nat},n<k->lb n k=0
 | 0,k+1,_=>rfl
 | n+1,k+1,h=>by rw [lb,ajA J,ajA J]
theorem alP:∀ n,lb n n=1
 | 0=>rfl
 | n+1=>by rw [lb,alP n,ajA J]
theorem ahk (n:Nat):lb n 0=1:=by cases n<;>rfl
theorem agQ:∀ n k,lb n k<=2 ^ n
 | n,0=>by rw [ahk];exact Nat.pow_pos J
 | 0,k+1=>by simp [lb]
 | n+1,k+1=>by
   have h1:=agQ n k
   have h2:=agQ n (k+1)
   rw [lb,Nat.pow_succ];omega
theorem afr {n:Nat} (k:Nat) (h:n<=40):lb n k<=1099511627776:=Nat.le_trans (agQ n k) (Nat.pow_le_pow_right (n:=2) J h)
def tf (n:Nat):List Int:=(List.range (n+1)).map fun x=>(lb n x:Int)
def g6 (n:Nat):List Rat:=(List.range (n+1)).map fun x=>((lb n x:Int):Rat)
theorem wa (n:Nat):(tf n).length=n+1:=by simp [tf]
theorem wE (n:Nat):(g6 n).length=n+1:=by simp [g6]
theorem ag3 {n x:Nat} (h:x<=n):(tf n).getD x 0=(lb n x:Int):=by
 rw [List.getD_eq_getElem?_getD,List.getElem?_eq_getElem (by rw [wa];omega)];simp [tf]
theorem ayi {n x:Nat} (h:x<=n):(g6 n).getD x 0=((lb n x:Int):Rat):=by
 rw [List.getD_eq_getElem?_getD,List.getElem?_eq_getElem (by rw [wE];omega)];simp [g6]
theorem ayu {p q:List Int} (hl:p.length=q.length) (h:∀ i,i<p.length->p.getD i 0=q.getD i 0):p=q:=by
 apply List.ext_getElem hl
 intro i h1 h2
 have:=h i h1
 rw [List.getD_eq_getElem?_getD,List.getD_eq_getElem?_getD,List.getElem?_eq_getElem h1,List.getElem?_eq_getElem h2] at this
 exact this
theorem asw (o:List Int) (i x:Nat) (v:Int) (hi:i<o.length):(o.set i v).getD x 0=if x=i then v else o.getD x 0:=by
 rw [List.getD_eq_getElem?_getD,List.getD_eq_getElem?_getD,List.getElem?_set]
 by_cases h:i=x
 ·subst h;simp [hi]
 ·rw [if_neg h,if_neg (fun e=>h e.symm)]
def aaY (k i:Nat) (o:List Int):Prop:=o.length=k+2/\∀ x,x<k+2->o.getD x 0=if i<x/\x<=k then(lb (k+1) x:Int) else if x<=k then(lb k x:Int) else 1
theorem aCE (k:Nat):aaY k k (tf k++[1]):=by
 refine⟨by simp [wa],fun x hx=>?_⟩
 rw [if_neg J]
 by_cases h:x<=k
 ·rw [if_pos h,aeR _ _ _ (by rw [wa];omega),ag3 h]
 ·rw [if_neg h,ag1 _ _ _ (by rw [wa];omega),wa,show x-(k+1)=0 by omega];rfl
theorem aCZ {k i:Nat} {o:List Int} (h:aaY k (i+1) o) (hi:i+1<=k):aaY k i (o.set (i+1) (o.getD (i+1) 0+o.getD i 0)):=by
 obtain⟨h1,h2⟩:=h
 refine⟨by simp [h1],fun x hx=>?_⟩
 rw [asw _ _ _ _ J]
 by_cases w8:x=i+1
 ·subst w8
  rw [if_pos rfl,if_pos ⟨J,hi⟩,h2 _ J,h2 _ J,if_neg J,if_pos J,if_neg J,if_pos J,lb]
  simp;omega
 ·rw [if_neg w8,h2 x hx]
  by_cases h3:i+1<x/\x<=k
  ·rw [if_pos h3,if_pos ⟨J,h3.2⟩]
  ·rw [if_neg h3,if_neg (show ¬ (i<x/\x<=k) by omega)]
theorem asn {k:Nat} {o:List Int} (h:aaY k 0 o):o=tf (k+1):=by
 obtain⟨h1,h2⟩:=h
 refine ayu (by rw [wa,h1]) (fun x hx=>?_)
 rw [h2 x J,ag3 J]
 by_cases h3:0<x/\x<=k
 ·rw [if_pos h3]
 ·rw [if_neg h3]
  by_cases h4:x<=k
  ·obtain rfl:x=0:=by omega
   rw [if_pos h4,ahk,ahk]
  ·obtain rfl:x=k+1:=by omega
   rw [if_neg h4,alP];rfl
theorem arZ {k i:Nat} {o:List Int} (h:aaY k i o) (hk:k<=39) {x:Nat} (hx:x<k+2):0<=o.getD x 0/\o.getD x 0<=1099511627776:=by
 rw [h.2 x hx]
 have h1:=afr (n:=k+1) x J
 have h2:=afr (n:=k) x J
 split
 ·omega
 ·split<;>omega
theorem xC {n:Nat} (hn:n<=40):∀ x∈g6 n,rl x<=2:=by
 intro x hx
 simp only [g6,List.mem_map] at hx
 obtain⟨k,_,rfl⟩:=hx
 have h:=afr k hn
 rw [<-acs]
 have:=zM (k:=2) (decide ((lb n k:Int)<0)) (n:=(lb n k:Int).natAbs) (d:=1) J ai
 omega
theorem zR {o p:List Rat} {k:Nat} {v:Rat} (hk:k<p.length) (cN:o.length=p.length) (ht:o.take k=p.take k) (hv:v=p.getD k 0):(o.set k v).take (k+1)=p.take (k+1):=by subst hv;exact akO hk cN ht
theorem atv (n:Nat) (f:Int->LV):((tf n).map f).take (n+1)=(tf n).map f:=by rw [List.take_of_length_le (by simp [wa])]
theorem ajU {a b:List Rat} (h:a.length=b.length) (h2:∀ k,k<a.length->a.getD k 0=b.getD k 0):a=b:=by
 refine List.ext_getElem h fun k h1 h3=>?_
 have:=h2 k h1
 rw [List.getD_eq_getElem?_getD,List.getD_eq_getElem?_getD,List.getElem?_eq_getElem h1,List.getElem?_eq_getElem h3] at this
 exact this
theorem fR {o:List Rat} {S:Nat} (h1:1<=S) (h:∀ x∈o,rl x<=S) (k:Nat):rl (o.getD k 0)<=S:=by
 rcases Nat.lt_or_ge k o.length with hk | hk
 ·exact h _ (dg hk)
 ·rw [List.getD_eq_getElem?_getD,List.getElem?_eq_none hk];show rl 0<=S;rw [show rl 0=1 from rfl];exact h1
theorem atX {o:List Rat} {S:Nat} {i:Nat} {v:Rat} (h:∀ x∈o,rl x<=S) (hv:rl v<=S):∀ x∈o.set i v,rl x<=S:=fun x hx=>by
 rcases List.mem_or_eq_of_mem_set hx with h1 | h1
 ·exact h x h1
 ·rw [h1];exact hv
namespace aq3
theorem aH {p q:Prop} (k:q) (e:p=q:=by simp only [e1,e2,e3,e4,p1,p2,p3,q1,q2,q3,l1,t0,t1,r1,r2,r3,r4,Nat.zero_add,Nat.reduceMul,Nat.reduceAdd,b1,b2,b3,b4,b5,b6,i1,i2,i3,i4,i5,i6,Nat.reduceBEq,dfi,cy,atv,List.append_nil,wa,ek1,ek2,egr,kW,kJ,iA,List.length_cons,List.length_nil,aP m8,aP ao,LV.kill,bN];exact rfl):p:=e.mpr k
end aq3
open aq3 in
theorem agH (n:Nat) (hn:n<=40):av Tryz.prog 291 [ah n] (.list 3 ((g6 n).map ae)):=by
 refine aN Tryz.func291 ?_
 have ek1:True:=trivial
 have ek2:True:=trivial
 have egr:True:=trivial
 refine nh ?_
 refine ju (aw.mv (t:=3) (b:=8) 14 ai ai ai rfl rfl rfl) ?_
 refine dG (fun(k:Nat) L=>((((St.mk L.slot (hp [(14,⟨1,(tf k).map eW,true⟩)])).put (some 3) (.ref 14 1 0 (k+1))).put (some 9) (ah n)).put (some 10) (ah k))) (fun k=>k<=n) (fun k=>n-k) 0 (Nat.zero_le _) ?_
 rintro k L1 hk
 refine az ?_
 refine aC rfl ?_ ?_<;>intro aey zi
 ·have hkn:k<n:=by omega
  have ek2:((((k+1+1:Nat)):Int)-2)=(k:Int):=by omega
  refine bf ?_
  refine bI rfl (.app (news:=[eW 1]) rfl rfl rfl rfl rfl (by simp [wa]) (.inl rfl) ai Tryz.underlying123 Tryz.underlying123 Z2 T2 rfl B2 (.inl ⟨13,0,_,rfl,by decide,rfl,rfl,by simp,rfl,rfl⟩) bm bm ai) ?_
  refine ax ?_
  refine cq (aw.kill _ 13) ?_
  refine aR ?_
  refine jL (fun(i:Nat) (o:List Int) L=>(((((St.mk L.slot (hp [(14,⟨1,o.map eW,true⟩)])).put (some 3) (.ref 14 1 0 (k+1+1))).put (some 4) (ah i)).put (some 9) (ah n)).put (some 10) (ah k))) (fun i o=>i<=k/\aaY k i o) (fun i o=>i) k (tf k++[1]) ⟨Nat.le_refl _,aCE k⟩ ?_
  rintro i o L2 ⟨hi,hP⟩
  refine aR ?_
  refine aC rfl ?_ ?_<;>intro ae8 h19
  ·obtain⟨j,rfl⟩:∃ j,i=j+1:=⟨i-1,J⟩
   have ek1:(((j+1:Nat):Int)-1)=(j:Int):=by omega
   have cN:=hP.1
   have wu:=arZ hP J (x:=j+1) J
   have tZ:=arZ hP J (x:=j) J
   refine ax ?_
   refine aY 11 an ?_
   refine xT ?_
   exact fU j (o.set (j+1) (o.getD (j+1) 0+o.getD j 0)) ⟨J,aCZ hP hi⟩
  ·obtain rfl:i=0:=by omega
   have hE:=asn hP
   subst hE
   refine bo ?_
   exact iJ (k+1) J
 ·obtain rfl:n=k:=by omega
  refine bq ?_
  refine eI rfl rfl (.kK (n:=n+1) (m:=n+1) ml ml om om om) ?_
  refine bu ?_
  refine jL (fun(i:Nat) (w:List Rat) L=>(((((St.mk L.slot (hp [(14,⟨1,(tf n).map eW,true⟩),(36,⟨3,w.map ae,true⟩)])).put (some 5) (.ref 36 3 0 (n+1))).put (some 37) (.ref 14 1 0 (n+1))).put (some 38) (ah (n+1))).put (some 39) (ah i))) (fun i w=>i<=n+1/\w.length=n+1/\w.take i=(g6 n).take i) (fun i w=>n+1-i) 0 (List.replicate (n+1) 0) ⟨Nat.zero_le _,by simp,rfl⟩ ?_
  rintro i w L3 ⟨hi,gO,jt⟩
  refine az ?_
  refine aC rfl ?_ ?_<;>intro ahy um
  ·have sV:i<=n:=by omega
   have egr:=ag3 sV
   have lP:=afr i hn
   refine im ?_
   refine cp aK (uk (lb n i:Int) J J) ?_
   refine bB ?_
   exact fU (i+1) (w.set i ((lb n i:Int):Rat)) ⟨J,by simp [gO],zR (by rw [wE];omega) (by rw [wE,gO]) jt (ayi J).symm⟩
  ·obtain rfl:i=n+1:=by omega
   have hE:w=g6 n:=by
    rw [List.take_of_length_le J,List.take_of_length_le (by rw [wE];omega)] at jt
    exact jt
   subst hE
   refine bu ?_
   exact mL [36] rfl rfl (eM ao rfl rfl (by rw [wE]))
theorem tp {a b:Nat} (h:a+b<=9223372036854775807):dk .add .i64 (a:Nat) (b:Nat)=some (.int .i64 ((a+b:Nat):Int)):=by
 rw [py J J];congr 2
theorem ab9 {a:Nat} (h:a+1<=9223372036854775807):dk .add .i64 (a:Nat) 1=some (.int .i64 ((a+1:Nat):Int)):=by
 rw [py J J];congr 2
theorem aB6 {o:List Rat} {i:Nat} {v:Rat} (h:i<o.length):(o.set i v).getD i 0=v:=by rw [xO _ _ _ _ h,if_pos rfl]
def wT (x:Rat) (i:Nat) (y:List Rat) (q:List Rat) (o:List Rat):Nat->List Rat
 | 0=>o
 | j+1=>(wT x i y q o j).set (i+j) ((wT x i y q o j).getD (i+j) 0+x*(y.getD j 0*q.getD j 0))
def allM (p q:List Rat):Nat->List Rat
 | 0=>List.replicate (p.length-1+(q.length-1)+1) 0
 | i+1=>wT ((g6 (p.length-1)).getD i 0*p.getD i 0) i (g6 (q.length-1)) q (allM p q i) q.length
def mb (p q:List Rat):List Rat:=(List.range (p.length-1+(q.length-1)+1)).map fun k=>(allM p q p.length).getD k 0/(g6 (p.length-1+(q.length-1))).getD k 0
theorem afR (x:Rat) (i:Nat) (y q o:List Rat):∀ j,(wT x i y q o j).length=o.length
 | 0=>rfl
 | j+1=>by simp [wT,afR x i y q o j]
theorem aec (p q:List Rat):∀ i,(allM p q i).length=p.length-1+(q.length-1)+1
 | 0=>by simp [allM]
 | i+1=>by rw [allM,afR,aec p q i]
theorem y6 (p q:List Rat):(mb p q).length=p.length-1+(q.length-1)+1:=by simp [mb]
theorem aAA {p q:List Rat} {k:Nat} (h:k<p.length-1+(q.length-1)+1):(mb p q).getD k 0=(allM p q p.length).getD k 0/(g6 (p.length-1+(q.length-1))).getD k 0:=by
 rw [List.getD_eq_getElem?_getD,List.getElem?_eq_getElem (by rw [y6];exact h)];simp [mb]
theorem ajb {x:Rat} {i R S:Nat} {y q o:List Rat} (hS:1<=S) (ho:∀ v∈o,rl v<=S) (hx:rl x<=R+2) (hy:∀ v∈y,rl v<=2) (hq:∀ v∈q,rl v<=R) (hR:1<=R):∀ j,∀ v∈wT x i y q o j,rl v<=S+j*(2*R+5)
 | 0,v,hv=>by have:=ho v hv;omega
 | j+1,v,hv=>by
   have ih:=ajb (i:=i) hS ho hx hy hq hR j
   refine atX (S:=S+(j+1)*(2*R+5)) (fun w hw=>?_) ?_ v hv
   ·have:=ih w hw;rw [Nat.succ_mul];omega
   ·have h1:=fR J ih (i+j)
    have h2:=fR J hy j
    have h3:=fR J hq j
    have e1:=cO (y.getD j 0) (q.getD j 0)
    have e2:=cO x (y.getD j 0*q.getD j 0)
    have e3:=jx ((wT x i y q o j).getD (i+j) 0) (x*(y.getD j 0*q.getD j 0))
    rw [Nat.succ_mul];omega
theorem adM {p q:List Rat} {R:Nat} (fv:p.length<=41) (iH:q.length<=41) (hR:1<=R) (jn:∀ v∈p,rl v<=R) (hq':∀ v∈q,rl v<=R):∀ i,∀ v∈allM p q i,rl v<=1+i*(q.length*(2*R+5))
 | 0,v,hv=>by
   simp only [allM,List.mem_replicate] at hv
   rw [hv.2];show rl 0<=_;rw [show rl 0=1 from rfl];omega
 | i+1,v,hv=>by
   have ih:=adM fv iH hR jn hq' i
   have hx:rl ((g6 (p.length-1)).getD i 0*p.getD i 0)<=R+2:=by
    have h1:=fR J (xC (n:=p.length-1) J) i
    have h2:=fR hR jn i
    have:=cO ((g6 (p.length-1)).getD i 0) (p.getD i 0)
    omega
   have:=ajb J ih hx (xC (n:=q.length-1) J) hq' hR q.length v hv
   rw [Nat.succ_mul];omega
theorem apG {i j l R:Nat} (hi:i<=41) (hl:l<=41) (hj:j<=l) (hR:R<=67108864):1+i*(l*(2*R+5))+j*(2*R+5)<=231122948107:=by
 have h1:=Nat.mul_le_mul hl (show 2*R+5<=134217733 by omega)
 have h2:=Nat.mul_le_mul hi h1
 have h3:=Nat.mul_le_mul (show j<=41 by omega) (show 2*R+5<=134217733 by omega)
 omega
def gk (p:List Rat):List Rat:=if p.length<2 then [0] else(List.range (p.length-1)).map fun i=>(((p.length-1:Nat):Int):Rat)*(p.getD (i+1) 0-p.getD i 0)
theorem abo {p:List Rat}:(gk p).length=if p.length<2 then 1 else p.length-1:=by unfold gk;split<;>simp
theorem akS {p:List Rat} {i:Nat} (h:i+1<p.length):(gk p).getD i 0=(((p.length-1:Nat):Int):Rat)*(p.getD (i+1) 0-p.getD i 0):=by
 unfold gk
 rw [if_neg J,List.getD_eq_getElem?_getD,List.getElem?_eq_getElem bm];simp
theorem ad7 {p:List Rat} {R:Nat} (hR:1<=R) (hl:p.length<=1000) (h:∀ x∈p,rl x<=R):∀ x∈gk p,rl x<=2*R+4:=by
 intro x hx
 obtain⟨k,hk,rfl⟩:=acd hx
 rw [abo] at hk
 by_cases h2:p.length<2
 ·rw [if_pos h2] at hk
  have:gk p=[0]:=by unfold gk;rw [if_pos h2]
  rw [this]
  obtain rfl:k=0:=by omega
  show rl 0<=_
  rw [show rl 0=1 from rfl];omega
 ·rw [if_neg h2] at hk
  rw [akS J]
  have h3:=abN (n:=((p.length-1:Nat):Int)) J
  have h4:=h _ (dg (i:=k) J)
  have h5:=h _ (dg (i:=k+1) J)
  have h6:=iq (p.getD (k+1) 0) (p.getD k 0)
  have h7:=cO (((p.length-1:Nat):Int):Rat) (p.getD (k+1) 0-p.getD k 0)
  omega
namespace apT
theorem aH {p q:Prop} (k:q) (e:p=q:=by simp only [e1,e2,e3,e4,p1,p2,p3,q1,q2,q3,l1,t0,t1,r1,r2,r3,r4,Nat.zero_add,Nat.reduceMul,Nat.reduceAdd,b1,b2,b3,b4,b5,b6,i1,i2,i3,i4,i5,i6,Nat.reduceBEq,cy,List.length_set,aP ao,cH,dO,LV.kill,bN];exact rfl):p:=e.mpr k
end apT
open apT in
theorem afK (p:List Rat) (hl:p.length<=1000) (ma:∀ x∈p,rl x<=1073741824):av Tryz.prog 250 [.list 3 (p.map ae)] (.list 3 ((gk p).map ae)):=by
 refine aN Tryz.func250 ?_
 refine dp ?_
 refine aC rfl ?_ ?_<;>intro mX h8
 ·have hE:gk p=[0]:=by unfold gk;rw [if_pos J]
  refine aL ?_
  refine ak rfl nQ ?_
  refine az ?_
  rw [hE]
  exact mL [10] rfl rfl (eM ao rfl rfl rfl)
 ·have kX:(gk p).length=p.length-1:=by rw [abo,if_neg J]
  refine az ?_
  refine ak rfl jz ?_
  refine cp aK (uk ((p.length-1:Nat):Int) J J) ?_
  refine bf ?_
  refine ak rfl jz ?_
  refine eI rfl rfl (.kK (n:=(p.length-1)) (m:=(p.length-1)) ml ml om om om) ?_
  refine bu ?_
  refine jL (fun(i:Nat) (w:List Rat) L=>(((((((St.mk L.slot (hp [(3,⟨3,[ae (((p.length-1:Nat):Int):Rat)],true⟩),(18,⟨3,w.map ae,true⟩)])).put (some 0) (.list 3 (p.map ae))).put (some 3) (.aA 3 3 0 0)).put (some 4) (.ref 18 3 0 (p.length-1))).put (some 19) (.ref 18 3 0 (p.length-1))).put (some 20) (ah (p.length-1))).put (some 21) (ah i))) (fun i w=>i<=p.length-1/\w.length=p.length-1/\w.take i=(gk p).take i) (fun i w=>p.length-1-i) 0 (List.replicate (p.length-1) 0) ⟨Nat.zero_le _,by simp,rfl⟩ ?_
  rintro i w L1 ⟨hi,gO,jt⟩
  refine az ?_
  refine aC rfl ?_ ?_<;>intro ads h22
  ·have dA:i<p.length-1:=by omega
   have ib:=ma _ (dg (i:=i) J)
   have nv:=ma _ (dg (i:=i+1) J)
   have yP:=iq (p.getD (i+1) 0) (p.getD i 0)
   have hr4:=abN (n:=((p.length-1:Nat):Int)) J
   refine bB ?_
   refine aY 15 an ?_
   refine aZ ?_
   refine ak rfl cB ?_
   refine az ?_
   refine cp aq (p6 (p.getD (i+1) 0) (p.getD i 0) J) ?_
   refine cp aq (gf (((p.length-1:Nat):Int):Rat) (p.getD (i+1) 0-p.getD i 0) J) ?_
   refine bB ?_
   exact fU (i+1) (w.set i ((((p.length-1:Nat):Int):Rat)*(p.getD (i+1) 0-p.getD i 0))) ⟨J,by simp [gO],zR J J jt (akS J).symm⟩
  ·obtain rfl:i=p.length-1:=by omega
   have hE:w=gk p:=by
    rw [List.take_of_length_le J,List.take_of_length_le J] at jt
    exact jt
   subst hE
   refine bu ?_
   exact mL [18] rfl rfl (eM ao rfl rfl kX.symm)
end Go.Proofs.YtckppbhafancnaaGreat
namespace Go.Lg
theorem aw.cf {L:St} {t:Nat} {x y:LV} (bs:List Nat) (h0:bs.contains 0=false) (h:L.slot t=x) (hi:cG (L.bR bs).heap x y):aw L ((L.bR bs).put (some t) y):=by
 rintro n W X Z0 a w ⟨dL,bD,μ,Z,hc,hr⟩
 obtain⟨Z1,k1,k2⟩:=hc.tO (pv bs h0)
 refine⟨dL,bD,μ,Z1,by rw [jU];exact k1,fun s=>?_⟩
 have dt:Frame Z μ w w:=⟨fun _ _=>rfl,fun _ id _ c _ _ hh=>⟨c,hh,rfl⟩⟩
 have hs:=(hr s).mono k2 (fun _ _ h=>h) dt
 rw [fQ]
 split
 ·rename_i cQ
  subst cQ
  rw [h] at hs
  exact a9.pL (LV.dZ hi.lay.2.2) (hi.zk k1 hs)
 ·exact hs
end Go.Lg
namespace Go.Proofs.YtckppbhafancnaaGreat
open Go.Lg
theorem aCN {a:Rat} (h:0<a):cM a=1:=by unfold cM;rw [if_neg cA,if_neg cA]
theorem awj {a:Rat} (h:a<0):cM a=-1:=by unfold cM;rw [if_neg cA,if_pos h]
theorem aAe (a:Rat):(a=0/\cM a=0)\/(0<a/\cM a=1)\/(a<0/\cM a=-1):=by
 by_cases h:a=0
 ·exact .inl ⟨h,by rw [h];rfl⟩
 ·by_cases h1:a<0
  ·exact .inr (.inr ⟨h1,awj h1⟩)
  ·have:0<a:=by grind
   exact .inr (.inl ⟨this,aCN this⟩)
theorem apW {a:Rat} (h:cM a≠0):a≠0:=fun e=>h (by rw [e];rfl)
theorem axx {a b:Int} (h:b≠0) (h1:-9223372036854775808<=a.tdiv b) (h2:a.tdiv b<=9223372036854775807):dk .quo .i64 a b=some (.int .i64 (a.tdiv b)):=by
 simp only [dk];rw [if_neg h,IntWalk.i64_in _ ⟨h1,h2⟩]
def fE (a b:Rat):Nat->(Nat->Rat)->Rat
 | 0,f=>f 0
 | n+1,f=>fE a b n (fun i=>a*f i+b*f (i+1))
theorem qN (a b:Rat):∀ (n:Nat) (f g:Nat->Rat),(∀ i,i<=n->f i=g i)->fE a b n f=fE a b n g
 | 0,f,g,h=>h 0 (Nat.le_refl _)
 | n+1,f,g,h=>qN a b n _ _ fun i hi=>by rw [h i J,h (i+1) J]
theorem aa3 (a b c d:Rat):∀ (n:Nat) (f g:Nat->Rat),fE a b n (fun i=>c*f i+d*g i)=c*fE a b n f+d*fE a b n g
 | 0,f,g=>rfl
 | n+1,f,g=>by
  rw [fE,fE,fE,<-aa3 a b c d n]
  congr 1;funext i;grind
theorem agZ (a b:Rat) (n:Nat) (f:Nat->Rat):fE a b (n+1) f=a*fE a b n f+b*fE a b n (fun i=>f (i+1)):=aa3 a b a b n f (fun i=>f (i+1))
theorem ahc (a b u v:Rat):∀ (n:Nat) (f:Nat->Rat),fE a b n (fun k=>fE u v k f)=fE (a+b*u) (b*v) n f
 | 0,f=>rfl
 | n+1,f=>by
  rw [agZ,ahc a b u v n f]
  have e:=ahc a b u v n (fun i=>u*f i+v*f (i+1))
  have e2:(fun i=>fE u v (i+1) f)=(fun k=>fE u v k (fun i=>u*f i+v*f (i+1))):=rfl
  rw [e2,e,<-aa3]
  show fE _ _ n _=fE _ _ n _
  congr 1;funext i;grind
theorem aiS (t:Rat):∀ (k:Nat) (q:List Rat),k<q.length->(uV t q.length q).getD k 0=fE (1-t) t k (fun i=>q.getD i 0)
 | 0,q,h=>by
  obtain⟨m,hm⟩:∃ m,q.length=m+1:=⟨q.length-1,J⟩
  rw [hm];rfl
 | k+1,q,h=>by
  obtain⟨m,hm⟩:∃ m,q.length=m+1:=⟨q.length-1,J⟩
  have hs:(iP t q).length=m:=by rw [qk];omega
  have:=aiS t k (iP t q) J
  rw [hs] at this
  rw [hm,uV,List.getD_cons_succ,this,fE]
  exact qN _ _ _ _ _ fun i hi=>adL t q i J
theorem s6 {p:List Rat} {t:Rat} (h:0<p.length):cL p t=fE (1-t) t (p.length-1) (fun i=>p.getD i 0):=aiS t _ p J
theorem ahH:∀ (n:Nat) (f:Nat->Rat),fE 0 1 n f=f n
 | 0,f=>rfl
 | n+1,f=>by rw [fE,ahH n];grind
theorem ag9 {t:Rat} {C M:Nat} (hC:rl (1-t)+rl t+1<=C):∀ (k:Nat) (q:List Rat),q.length=k->(∀ x∈q,(rl x+C)*2 ^ k<=M)->∀ x∈uV t k q,rl x+C<=M
 | 0,q,_,_,x,hx=>by cases hx
 | k+1,q,hq,h,x,hx=>by
  rw [uV,List.mem_cons] at hx
  rcases hx with rfl | hx
  ·exact zK (h _ (dg J))
  ·exact ag9 hC k (iP t q) (by rw [qk];omega) (ajI hC h) x hx
theorem arA {t:Rat} {C M:Nat} (hC:rl (1-t)+rl t+1<=C):∀ (k:Nat) (q tl:List Rat),q.length=k->(∀ x∈q,(rl x+C)*2 ^ k<=M)->(∀ x∈tl,rl x+C<=M)->∀ x∈rK t k q tl,rl x+C<=M
 | 0,q,tl,hq,_,h2,x,hx=>by
  obtain rfl:q=[]:=List.eq_nil_of_length_eq_zero hq
  exact h2 x hx
 | k+1,q,tl,hq,h,h2,x,hx=>by
  refine arA hC k (iP t q) _ (by rw [qk];omega) (ajI hC h) (fun y hy=>?_) x hx
  rcases List.mem_cons.1 hy with rfl | hy
  ·exact zK (h _ (dg J))
  ·exact h2 y hy
theorem HS.lo {p:List Rat} {t:Rat} (h:HS p t):∀ x∈nZ p t,Go.Lg.rl x<=1073741824:=fun x hx=>by
 obtain⟨cc,h1,h2,h3⟩:=h
 have:=ag9 h1 p.length p rfl h3 x hx
 omega
theorem HS.hi {p:List Rat} {t:Rat} (h:HS p t):∀ x∈lD p t,Go.Lg.rl x<=1073741824:=fun x hx=>by
 obtain⟨cc,h1,h2,h3⟩:=h
 have:=arA h1 p.length p [] rfl h3 (fun y hy=>by cases hy) x hx
 omega
theorem HS.ev {p:List Rat} {t:Rat} (h:HS p t):Go.Lg.rl (cL p t)<=1073741824:=fR ai h.lo _
theorem aji (a b:Rat):∀ (n:Nat) (f:Nat->Rat),fE a b n f=fE b a n (fun i=>f (n-i))
 | 0,f=>rfl
 | n+1,f=>by
  rw [agZ,agZ,aji a b n f,aji a b n (fun i=>f (i+1))]
  have e1:fE b a n (fun i=>f (n-i+1))=fE b a n (fun i=>f (n+1-i)):=qN _ _ _ _ _ fun i hi=>by congr 1;omega
  have e2:(fun i=>f (n+1-(i+1)))=fun i=>f (n-i):=by funext i;congr 1;omega
  rw [e1,e2];grind
theorem anC (t:Rat):∀ (k:Nat) (q tl:List Rat),q.length=k->∀ j,j<k->(rK t k q tl).getD j 0=fE (1-t) t (k-1-j) (fun i=>q.getD (j+i) 0)
 | 0,_,_,_,j,h=>by omega
 | k+1,q,tl,hq,j,hj=>by
  rw [rK]
  have hs:(iP t q).length=k:=by rw [qk];omega
  rcases Nat.lt_or_ge j k with h | h
  ·rw [anC t k _ _ hs j h,show k+1-1-j=k-1-j+1 by omega,fE]
   exact qN _ _ _ _ _ fun i hi=>by rw [adL t q _ J];rfl
  ·obtain rfl:j=k:=by omega
   rw [show j+1-1-j=0 by omega]
   have hE:∀ (m:Nat) (q' tl':List Rat),q'.length=m->∀ x,(rK t m q' tl').getD (m+x) 0=tl'.getD x 0:=by
    intro m
    induction m with
    | zero=>intro q' tl' h x;obtain rfl:q'=[]:=List.eq_nil_of_length_eq_zero h;rw [Nat.zero_add];rfl
    | succ m ih =>
     intro q' tl' h x
     rw [rK,show m+1+x=m+(x+1) by omega,ih _ _ (by rw [qk];omega)];rfl
   have:=hE j (iP t q) (q.getD j 0 :: tl) hs 0
   rw [Nat.add_zero] at this
   rw [this];rfl
theorem afN {p:List Rat} {j:Nat} (h:j<p.length) (t:Rat):(lD p t).getD j 0=fE (1-t) t (p.length-1-j) (fun i=>p.getD (j+i) 0):=anC t _ p [] rfl j h
theorem afy {p:List Rat} {j:Nat} (h:j<p.length) (t:Rat):(nZ p t).getD j 0=fE (1-t) t j (fun i=>p.getD i 0):=aiS t j p h
def dI (p:List Rat) (a b:Rat):List Rat:=if a=1 then nZ (lD p.reverse 0) ((1-b-0)/(1-0)) else nZ (lD p a) ((b-a)/(1-a))
theorem anT:∀ (n:Nat) (f:Nat->Rat),fE 1 0 n f=f 0
 | 0,f=>rfl
 | n+1,f=>by rw [fE,anT n];grind
theorem avY (p:List Rat):lD p 0=p:=by
 refine ajU (wh p 0) fun j hj=>?_
 rw [wh] at hj
 rw [afN hj,show (1:Rat)-0=1 from by grind,anT];rfl
theorem alg (p:List Rat) (a b:Rat):ua p a b=dI p a b:=by
 unfold ua dI
 by_cases ha:a=1
 ·subst ha
  rw [if_neg cA,if_pos rfl,avY]
  have e0:(1-b-0)/(1-0)=1-b:=by rw [show (1:Rat)-0=1 by grind,show (1:Rat)-b-0=1-b by grind,Rat.div_def,Rat.inv_eq_of_mul_eq_one (show (1:Rat)*1=1 by grind),Rat.mul_one]
  rw [e0]
  have hr:p.reverse.length=p.length:=List.length_reverse
  by_cases hb:b=0
  ·subst hb
   rw [if_neg cA]
   refine ajU (by rw [wG]) fun j hj=>?_
   rw [afy hj,show (1:Rat)-(1-0)=0 by grind,show (1:Rat)-0=1 by grind,ahH]
  ·rw [if_pos hb]
   refine ajU (by rw [wh,wG,wG,hr]) fun j hj=>?_
   rw [wh,wG] at hj
   rw [afN (by rw [wG];exact hj),wG,afy (by rw [hr];exact hj)]
   have e1:fE (1-1/b) (1/b) (p.length-1-j) (fun i=>(nZ p b).getD (j+i) 0)=fE (1-1/b) (1/b) (p.length-1-j) (fun k=>fE (1-b) b k (fun i=>fE (1-b) b j (fun x=>p.getD (i+x) 0))):=by
    refine qN _ _ _ _ _ fun i hi=>?_
    rw [afy J]
    have aCB:∀ (i j:Nat) (f:Nat->Rat),fE (1-b) b (j+i) f=fE (1-b) b i (fun y=>fE (1-b) b j (fun x=>f (y+x))):=by
     intro i
     induction i with
     | zero=>intro j f;show fE (1-b) b j f=fE (1-b) b j (fun x=>f (0+x));simp only [Nat.zero_add]
     | succ i ih =>
      intro j f
      rw [show j+(i+1)=(j+i)+1 by omega,fE,ih j,fE]
      refine qN _ _ _ _ _ fun y hy=>?_
      have:=aa3 (1-b) b (1-b) b j (fun x=>f (y+x)) (fun x=>f (y+x+1))
      rw [this]
      congr 3
      funext x;congr 1;omega
    exact aCB i j _
   have hi:=Rat.mul_inv_cancel _ hb
   rw [e1,ahc,show (1-1/b)+(1/b)*(1-b)=0 by rw [Rat.div_def];grind,show 1/b*b=1 by rw [Rat.div_def];grind,ahH,aji]
   rw [show (1:Rat)-(1-b)=b by grind]
   refine qN _ _ _ _ _ fun i hi=>?_
   rw [anf p J]
   congr 1;omega
 ·rw [if_pos cA,if_neg ha]
theorem azT (p:List Rat) (a b:Rat):(ua p a b).length=p.length:=by
 unfold ua
 split
 ·rw [wG,wh]
 ·split
  ·rw [wh,wG]
  ·simp
def gg (a b:Rat):Rat:=if b<a then b else a
def fO (a b:Rat):Rat:=if a<b then b else a
def mw (s:Rat × Rat) (t:Rat × Rat):Rat × Rat:=(gg s.1 t.1,fO s.2 t.2)
def lY (p:List Rat):Nat->Rat × Rat
 | 0=>(0,0)
 | k+1=>mw (if k=0 then(p.getD k 0,p.getD k 0) else lY p k) (p.getD k 0,p.getD k 0)
def gz (p:List Rat):Rat × Rat:=lY p p.length
theorem aj4 (a:Rat):gg a a=a:=by unfold gg;split<;>rfl
theorem anQ (a:Rat):fO a a=a:=by unfold fO;split<;>rfl
theorem atQ (a b:Rat):gg a b<=a/\gg a b<=b/\(gg a b=a\/gg a b=b):=by unfold gg;split<;>grind
theorem ar8 (a b:Rat):a<=fO a b/\b<=fO a b/\(fO a b=a\/fO a b=b):=by unfold fO;split<;>grind
theorem afe (p:List Rat):∀ k,(∀ i,i<k->(lY p k).1<=p.getD i 0/\p.getD i 0<=(lY p k).2)/\(0<k->(∃ i,i<k/\(lY p k).1=p.getD i 0)/\∃ i,i<k/\(lY p k).2=p.getD i 0)
 | 0=>⟨fun i h=>by omega,fun h=>by omega⟩
 | k+1=>by
  obtain⟨h1,h2⟩:=afe p k
  rw [lY]
  by_cases hk:k=0
  ·subst hk
   rw [if_pos rfl]
   simp only [mw,aj4,anQ]
   refine⟨fun i hi=>?_,fun _=>⟨⟨0,J,rfl⟩,⟨0,J,rfl⟩⟩⟩
   obtain rfl:i=0:=by omega
   exact⟨Rat.le_refl,Rat.le_refl⟩
  ·rw [if_neg hk]
   obtain⟨⟨i,hi,ei⟩,⟨j,hj,ej⟩⟩:=h2 J
   have a:=atQ (lY p k).1 (p.getD k 0)
   have b:=ar8 (lY p k).2 (p.getD k 0)
   simp only [mw]
   refine⟨fun x hx=>?_,fun _=>⟨?_,?_⟩⟩
   ·by_cases r9:x=k
    ·subst r9;exact⟨a.2.1,b.2.1⟩
    ·have:=h1 x J
     exact⟨Rat.le_trans a.1 this.1,Rat.le_trans this.2 b.1⟩
   ·rcases a.2.2 with e | e
    ·exact⟨i,J,by rw [e,ei]⟩
    ·exact⟨k,J,e⟩
   ·rcases b.2.2 with e | e
    ·exact⟨j,J,by rw [e,ej]⟩
    ·exact⟨k,J,e⟩
theorem ait {p:List Rat} {R:Nat} (hR:1<=R) (h:∀ k,rl (p.getD k 0)<=R):∀ k,rl (lY p k).1<=R/\rl (lY p k).2<=R
 | 0=>⟨hR,hR⟩
 | k+1=>by
  obtain⟨⟨i,_,ei⟩,⟨j,_,ej⟩⟩:=(afe p (k+1)).2 J
  rw [ei,ej]
  exact⟨h i,h j⟩
theorem ahY {p:List Rat} {R:Nat} (hR:1<=R) (h:∀ x∈p,rl x<=R) (k:Nat):rl (p.getD k 0)<=R:=fR hR h k
theorem acy {a b:Rat}:fi a b<=0↔a<=b:=by
 unfold fi;split
 ·rename_i h;exact⟨fun _=>Rat.le_of_lt h,fun _=>by decide⟩
 ·split
  ·rename_i h;exact⟨fun e=>absurd e ai,fun e=>absurd h (Rat.not_lt.2 e)⟩
  ·rename_i h;exact⟨fun _=>Rat.not_lt.1 h,fun _=>by decide⟩
def iU (s:Rat × Rat) (x:Rat):Bool:=decide (s.1<=x) && decide (x<=s.2)
theorem aoX {s:Rat × Rat} {x:Rat} (h:decide (fi s.1 x<=0)=true):decide (fi x s.2<=0)=iU s x:=by
 unfold iU
 rw [decide_eq_true (acy.1 (of_decide_eq_true h)),Bool.true_and,decide_eq_decide,acy]
theorem arR {s:Rat × Rat} {x:Rat} (h:decide (fi s.1 x<=0)=false):false=iU s x:=by
 unfold iU
 rw [decide_eq_false (fun e=>of_decide_eq_false h (acy.2 e)),Bool.false_and]
def g8 (n:Int):Int:=1+(n.tdiv 17) % 12
def nx (n:Int):Rat:=((n % (g8 n+1):Int):Rat)/((g8 n:Int):Rat)
theorem aeo (n:Int):1<=g8 n/\g8 n<=12:=by
 unfold g8
 have h1:=Int.emod_nonneg (n.tdiv 17) (show (12:Int)≠0 by decide)
 have h2:=Int.emod_lt_of_pos (n.tdiv 17) (show (0:Int)<12 by decide)
 omega
theorem ajP {a b:Int} (ha:0<=a) (hb:0<b):(0:Rat)<=(a:Rat)/(b:Rat):=by
 rw [Rat.div_def]
 exact Rat.mul_nonneg (Rat.intCast_nonneg.2 ha) (Rat.le_of_lt (Rat.inv_pos.2 (Rat.intCast_pos.2 hb)))
theorem aug {a b c:Int} (hc:0<c) (h:a+b=c):(a:Rat)/(c:Rat)+(b:Rat)/(c:Rat)=1:=by
 have h1:(c:Rat)≠0:=fun e=>by have:=Rat.intCast_eq_zero_iff.1 e;omega
 rw [Rat.div_def,Rat.div_def,<-Rat.add_mul,<-Rat.intCast_add,h,Rat.mul_inv_cancel _ h1]
theorem ayc (n:Int):0<=nx n/\nx n<=1:=by
 have hd:=aeo n
 have h1:=Int.emod_nonneg n (show g8 n+1≠0 by omega)
 have h2:=Int.emod_lt_of_pos n (show (0:Int)<g8 n+1 by omega)
 have h3:=ajP (a:=n % (g8 n+1)) (b:=g8 n) h1 J
 have h4:=ajP (a:=g8 n-n % (g8 n+1)) (b:=g8 n) J J
 have h5:=aug (a:=n % (g8 n+1)) (b:=g8 n-n % (g8 n+1)) (c:=g8 n) J J
 unfold nx
 exact⟨h3,by grind⟩
theorem aqo (n:Int):rl (nx n)<=1:=by
 have hd:=aeo n
 have h1:=Int.emod_nonneg n (show g8 n+1≠0 by omega)
 have h2:=Int.emod_lt_of_pos n (show (0:Int)<g8 n+1 by omega)
 exact aa1 J J
theorem ad0 {p:List Rat} {R:Nat} (hR:1<=R) (h:∀ x∈p,rl x<=R):rl (gz p).1<=R/\rl (gz p).2<=R:=ait hR (ahY hR h) p.length
open H0 in
theorem zo (a b:Rat) (h:rl a+rl b<=549755813888):av Tryz.prog 90 [ae a,ae b] (aD (gg a b,fO a b)):=by
 refine aN Tryz.func90 ?_
 refine bf ?_
 refine aY 7 an ?_
 refine aL ?_
 refine cp aq (afn _ _ J) ?_
 refine aL ?_
 refine cp aq (aeJ _ _ J) ?_
 refine aZ ?_
 exact rh
namespace ao5
theorem aH {p q:Prop} (k:q) (e:p=q:=by simp only [e1,e2,e3,e4,p1,p2,p3,q1,q2,q3,l1,t0,t1,r1,r2,r3,r4,Nat.zero_add,Nat.reduceMul,Nat.reduceAdd,b1,b2,b3,b4,b5,b6,i1,i2,i3,i4,i5,i6,Nat.reduceBEq,aj4,anQ];exact rfl):p:=e.mpr k
end ao5
open ao5 in
theorem pY (a:Rat) (h:rl a+rl a<=549755813888):av Tryz.prog 181 [ae a] (aD (a,a)):=by
 refine aN Tryz.func181 ?_
 refine bB ?_
 refine cp aq (zo _ _ J) ?_
 refine ax ?_
 exact rh
open H0 in
theorem sQ (s t:Rat × Rat) (h1:rl s.1+rl t.1<=549755813888) (h2:rl s.2+rl t.2<=549755813888):av Tryz.prog 182 [aD s,aD t] (aD (mw s t)):=by
 refine aN Tryz.func182 ?_
 refine bf ?_
 refine aY 11 an ?_
 refine ax ?_
 refine cp aq (afn _ _ J) ?_
 refine ax ?_
 refine cp aq (aeJ _ _ J) ?_
 refine aZ ?_
 exact rh
namespace akj
theorem aH {p q:Prop} (k:q) (e:p=q:=by simp only [e1,e2,e3,e4,p1,p2,p3,q1,q2,q3,l1,t0,t1,r1,r2,r3,r4,Nat.zero_add,Nat.reduceMul,Nat.reduceAdd,b1,b2,b3,b4,b5,b6,i1,i2,i3,i4,i5,i6,Nat.reduceBEq,cy,uN,aP ao,cH,dO,LV.kill,bN];exact rfl):p:=e.mpr k
end akj
open akj in
theorem afs (p:List Rat) (hl:p.length<=1048576) (ma:∀ x∈p,rl x<=137438953472):av Tryz.prog 184 [.list 3 (p.map ae)] (aD (gz p)):=by
 refine aN Tryz.func184 ?_
 have uN:True:=trivial
 refine nh ?_
 refine dG (fun(k:Nat) L=>((((((St.mk L.slot (hp [(2,⟨6,[aD (0,0)],true⟩),(3,⟨6,[aD (lY p k)],true⟩)])).put (some 2) (.aA 2 6 0 0)).put (some 3) (.aA 3 6 0 0)).put (some 6) (.list 3 (p.map ae))).put (some 7) (ah p.length)).put (some 8) (ah k))) (fun k=>k<=p.length) (fun k=>p.length-k) 0 (Nat.zero_le _) ?_
 rintro k L1 hk
 refine az ?_
 refine aC rfl ?_ ?_<;>intro ta h9
 ·have kT:k<p.length:=by omega
  have ib:=ahY (R:=137438953472) ai ma
  have nv:=ib k
  have yP:=ait ai ib k
  have hr4:rl ((p.getD k 0,p.getD k 0):Rat × Rat).1<=137438953472:=nv
  have hr5:rl ((p.getD k 0,p.getD k 0):Rat × Rat).2<=137438953472:=nv
  have uN:lY p (k+1)=mw (if k=0 then(p.getD k 0,p.getD k 0) else lY p k) (p.getD k 0,p.getD k 0):=rfl
  refine xT ?_
  refine aC rfl ?_ ?_<;>intro oI kg
  ·have ku:k=0:=by omega
   rw [if_pos ku] at uN
   refine aL ?_
   refine cp aK (pY _ J) ?_
   refine aJ ?_
   refine aY 4 an ?_
   refine aL ?_
   refine cp aK (pY _ J) ?_
   refine cp aq (sQ _ _ J J) ?_
   refine ax ?_
   refine cq (aw.kill _ 5) ?_
   refine ax ?_
   exact iJ (k+1) J
  ·have ku:¬ k=0:=by omega
   rw [if_neg ku] at uN
   refine aL ?_
   refine aY 4 an ?_
   refine aL ?_
   refine cp aK (pY _ J) ?_
   refine cp aq (sQ _ _ J J) ?_
   refine ax ?_
   refine cq (aw.kill _ 5) ?_
   refine ax ?_
   exact iJ (k+1) J
 ·obtain rfl:k=p.length:=by omega
  refine bu ?_
  exact rh
open H0 in
theorem akc (s:Rat × Rat) (x:Rat) (h1:rl s.1+rl x<=34359738368) (h2:rl x+rl s.2<=34359738368):av Tryz.prog 17 [aD s,ae x] (bL (iU s x)):=by
 refine aN Tryz.func17 ?_
 refine bu ?_
 refine cp aq (acu _ _ J) ?_
 refine aL ?_
 refine dy 10 rfl ?_ ?_<;>intro l8 rC
 ·refine aJ ?_
  refine cp aq (acu _ _ J) ?_
  refine az ?_
  rw [<-aoX l8]
  exact dC
 ·refine bB ?_
  rw [<-arR l8]
  exact dC
open H0 in
theorem aw0 (n:Int) (hn:-9223372036854775808<=n/\n<=9223372036854775807):av Tryz.prog 61 [iL n] (ae (nx n)):=by
 have hd:=aeo n
 have hq:(n.tdiv 17).natAbs=n.natAbs/17:=Int.natAbs_tdiv _ _
 have hpd:g8 n=1+(n.tdiv 17) % 12:=rfl
 have h1:=Int.emod_nonneg n (show g8 n+1≠0 by omega)
 have h2:=Int.emod_lt_of_pos n (show (0:Int)<g8 n+1 by omega)
 refine aN Tryz.func61 ?_
 refine bf ?_
 refine ak rfl (.bin rfl rfl (axx (a:=n) (b:=17) ai J J)) ?_
 refine cp aq (aat (n.tdiv 17) 12 ai ai) ?_
 refine ak rfl v8 ?_
 refine aR ?_
 refine ak rfl (.bin rfl rfl (py (a:=g8 n) J J)) ?_
 refine cp aq (aat n (g8 n+1) J J) ?_
 refine ar ?_
 refine cp aq (zf (n % (g8 n+1)) (g8 n) J J J J J) ?_
 refine ax ?_
 exact fq
def pV (p q:V3):V3:=⟨p.x+q.x,p.y+q.y,p.z+q.z⟩
def fy (p q:V3):V3:=⟨p.x-q.x,p.y-q.y,p.z-q.z⟩
def iZ (r:Rat) (p:V3):V3:=⟨r*p.x,r*p.y,r*p.z⟩
def de (p q:V3):Rat:=0+p.x*q.x+p.y*q.y+p.z*q.z
def cj (R:Nat) (p:V3):Prop:=rl p.x<=R/\rl p.y<=R/\rl p.z<=R
theorem cj.le {R S:Nat} {p:V3} (h:cj R p) (hRS:R<=S):cj S p:=⟨Nat.le_trans h.1 hRS,Nat.le_trans h.2.1 hRS,Nat.le_trans h.2.2 hRS⟩
theorem zV {R S:Nat} {p q:V3} (hp:cj R p) (hq:cj S q):rl (de p q)<=3*(R+S)+4:=by
 obtain⟨a1,a2,a3⟩:=hp
 obtain⟨b1,b2,b3⟩:=hq
 have h1:=cO p.x q.x
 have h2:=cO p.y q.y
 have h3:=cO p.z q.z
 have h4:=jx 0 (p.x*q.x)
 have h5:=jx (0+p.x*q.x) (p.y*q.y)
 have h6:=jx (0+p.x*q.x+p.y*q.y) (p.z*q.z)
 have h0:rl 0=1:=rfl
 unfold de
 omega
def uo (a b p:V3):Rat :=
 if de (fy p a) (fy b a)<=0 then de (fy p a) (fy p a)
 else if de (fy b a) (fy b a)<=de (fy p a) (fy b a) then de (fy p b) (fy p b)
 else de (fy p (pV a (iZ (de (fy p a) (fy b a)/de (fy b a) (fy b a)) (fy b a)))) (fy p (pV a (iZ (de (fy p a) (fy b a)/de (fy b a) (fy b a)) (fy b a))))
def oF (R:Nat) (q:aF):Prop:=cj R q.p/\rl q.w<=R/\0<q.w
theorem dU (q:V3) (b:Nat):(aS q).kill b=aS q:=LV.kt b _ (bg.pure q)
theorem eo (q:aF) (b:Nat):(aT q).kill b=aT q:=LV.kt b _ (bw.pure q)
namespace apS
theorem aH {p q:Prop} (k:q) (e:p=q:=by simp only [e1,e2,e3,e4,p1,p2,p3,q1,q2,q3,l1,t0,t1,r1,r2,r3,r4,Nat.zero_add,Nat.reduceMul,Nat.reduceAdd,b1,b2,b3,b4,b5,b6,i1,i2,i3,i4,i5,i6,Nat.reduceBEq,abA];exact rfl):p:=e.mpr k
end apS
open apS in
theorem apy (f:Nat) (g:Rat->Rat->Rat) (p q:V3) (h1:av Tryz.prog f [ae p.x,ae q.x] (ae (g p.x q.x))) (h2:av Tryz.prog f [ae p.y,ae q.y] (ae (g p.y q.y))) (h3:av Tryz.prog f [ae p.z,ae q.z] (ae (g p.z q.z))):av Tryz.prog 193 [aS p,aS q,.cV f []] (aS ⟨g p.x q.x,g p.y q.y,g p.z q.z⟩):=by
 refine aN Tryz.func193 (ht:=(fun r=>LV.cP r _ (bg.pure _))) ?_
 refine nh ?_
 refine bF ?_
 refine az ?_
 refine bY (b:=_) rfl ai ?_
 refine bB ?_
 refine aY 10 an ?_
 refine bf ?_
 refine mG [] rfl rfl (.cV (f:=f) (cap:=[]) (args:=[ae p.x,ae q.x]) rfl (.cons eJ (.cons eJ .nil)) ⟨rfl,fun _ h=>by cases h⟩ h1.1 ai (fun _ h=>by cases h)) (h1.2 _) ?_
 refine bB ?_
 refine bF ?_
 refine az ?_
 refine bY (b:=_) rfl ai ?_
 refine bB ?_
 refine aY 10 an ?_
 refine bf ?_
 refine mG [] rfl rfl (.cV (f:=f) (cap:=[]) (args:=[ae p.y,ae q.y]) rfl (.cons eJ (.cons eJ .nil)) ⟨rfl,fun _ h=>by cases h⟩ h2.1 ai (fun _ h=>by cases h)) (h2.2 _) ?_
 refine bB ?_
 refine bF ?_
 refine az ?_
 refine bY (b:=_) rfl ai ?_
 refine bB ?_
 refine aY 10 an ?_
 refine bf ?_
 refine mG [] rfl rfl (.cV (f:=f) (cap:=[]) (args:=[ae p.z,ae q.z]) rfl (.cons eJ (.cons eJ .nil)) ⟨rfl,fun _ h=>by cases h⟩ h3.1 ai (fun _ h=>by cases h)) (h3.2 _) ?_
 refine bB ?_
 refine bF ?_
 refine az ?_
 refine eE (b:=_) rfl ai ?_
 refine bu ?_
 exact qo
open H0 in
theorem auD (p q:V3) (R:Nat) (hR:R<=100000000000) (hp:cj R p) (hq:cj R q):av Tryz.prog 255 [aS p,aS q] (aS (pV p q)):=by
 obtain⟨a1,a2,a3⟩:=hp
 obtain⟨b1,b2,b3⟩:=hq
 refine aN Tryz.func255 (ht:=(fun r=>LV.cP r _ (bg.pure _))) ?_
 refine bo ?_
 refine cp fJ (apy 95 (·+·) p q (iw _ _ J) (iw _ _ J) (iw _ _ J)) ?_
 refine ax ?_
 exact qo
open H0 in
theorem acV (r:Rat) (p:V3) (R:Nat) (hR:R<=100000000000) (hr:rl r<=R) (hp:cj R p):av Tryz.prog 106 [ae r,aS p] (aS (iZ r p)):=by
 obtain⟨a1,a2,a3⟩:=hp
 refine aN Tryz.func106 (ht:=(fun r=>LV.cP r _ (bg.pure _))) ?_
 refine dj ?_
 refine cp fJ (apy 191 (·*·) ⟨r,r,r⟩ p (gf r p.x J) (gf r p.y J) (gf r p.z J)) ?_
 refine ax ?_
 exact qo
open H0 in
theorem ab0 (p q:V3) (R:Nat) (hR:R<=1000000000) (hp:cj R p) (hq:cj R q):av Tryz.prog 254 [aS p,aS q] (ae (de p q)):=by
 obtain⟨a1,a2,a3⟩:=hp
 obtain⟨b1,b2,b3⟩:=hq
 have m1:=cO p.x q.x
 have m2:=cO p.y q.y
 have m3:=cO p.z q.z
 have s1:=jx 0 (p.x*q.x)
 have s2:=jx (0+p.x*q.x) (p.y*q.y)
 have hz0:rl 0=1:=rfl
 refine aN Tryz.func254 ?_
 refine nh ?_
 refine bF ?_
 refine az ?_
 refine bY (b:=_) rfl ai ?_
 refine bB ?_
 refine aY 9 an ?_
 refine aR ?_
 refine cp aq (gf p.x q.x J) ?_
 refine cp aq (iw 0 (p.x*q.x) J) ?_
 refine bq ?_
 refine bF ?_
 refine az ?_
 refine bY (b:=_) rfl ai ?_
 refine bB ?_
 refine aY 9 an ?_
 refine aR ?_
 refine cp aq (gf p.y q.y J) ?_
 refine cp aq (iw (0+p.x*q.x) (p.y*q.y) J) ?_
 refine bq ?_
 refine bF ?_
 refine az ?_
 refine bY (b:=_) rfl ai ?_
 refine bB ?_
 refine aY 9 an ?_
 refine aR ?_
 refine cp aq (gf p.z q.z J) ?_
 refine cp aq (iw (0+p.x*q.x+p.y*q.y) (p.z*q.z) J) ?_
 refine bq ?_
 refine bF ?_
 refine az ?_
 refine eE (b:=_) rfl ai ?_
 refine bu ?_
 exact fq
open H0 in
theorem ah3 (p q:V3) (R:Nat) (hR:R<=1000000000) (hp:cj R p) (hq:cj R q):av Tryz.prog 267 [aS p,aS q] (ae (de p q)):=by
 obtain⟨a1,a2,a3⟩:=hp
 obtain⟨b1,b2,b3⟩:=hq
 have m1:=cO p.x q.x
 have m2:=cO p.y q.y
 have m3:=cO p.z q.z
 have s1:=jx 0 (p.x*q.x)
 have s2:=jx (0+p.x*q.x) (p.y*q.y)
 have hz0:rl 0=1:=rfl
 refine aN Tryz.func267 ?_
 refine nh ?_
 refine bF ?_
 refine aR ?_
 refine bY (b:=_) rfl ai ?_
 refine ax ?_
 refine aY 9 an ?_
 refine aR ?_
 refine cp aq (rE p.x q.x J) ?_
 refine cp aq (nz 0 (p.x*q.x) J) ?_
 refine bB ?_
 refine bF ?_
 refine aR ?_
 refine bY (b:=_) rfl ai ?_
 refine ax ?_
 refine aY 9 an ?_
 refine aR ?_
 refine cp aq (rE p.y q.y J) ?_
 refine cp aq (nz (0+p.x*q.x) (p.y*q.y) J) ?_
 refine bB ?_
 refine bF ?_
 refine aR ?_
 refine bY (b:=_) rfl ai ?_
 refine ax ?_
 refine aY 9 an ?_
 refine aR ?_
 refine cp aq (rE p.z q.z J) ?_
 refine cp aq (nz (0+p.x*q.x+p.y*q.y) (p.z*q.z) J) ?_
 refine bB ?_
 refine bF ?_
 refine aR ?_
 refine eE (b:=_) rfl ai ?_
 refine bu ?_
 exact fq
open H0 in
theorem au9 (p q:V3) (R:Nat) (hR:R<=1000000000) (hp:cj R p) (hq:cj R q):av Tryz.prog 72 [aS p,aS q] (aS (fy p q)):=by
 obtain⟨a1,a2,a3⟩:=hp
 obtain⟨b1,b2,b3⟩:=hq
 refine aN Tryz.func72 (ht:=(fun r=>LV.cP r _ (bg.pure _))) ?_
 refine dj ?_
 refine bF ?_
 refine aR ?_
 refine bY (b:=_) rfl ai ?_
 refine ax ?_
 refine aY 9 an ?_
 refine aR ?_
 refine cp aq (xi p.x q.x J) ?_
 refine bo ?_
 refine bF ?_
 refine aR ?_
 refine bY (b:=_) rfl ai ?_
 refine ax ?_
 refine aY 9 an ?_
 refine aR ?_
 refine cp aq (xi p.y q.y J) ?_
 refine bo ?_
 refine bF ?_
 refine aR ?_
 refine bY (b:=_) rfl ai ?_
 refine ax ?_
 refine aY 9 an ?_
 refine aR ?_
 refine cp aq (xi p.z q.z J) ?_
 refine bo ?_
 refine bF ?_
 refine aR ?_
 refine eE (b:=_) rfl ai ?_
 refine bu ?_
 exact qo
open H0 in
theorem as2 (p q:V3) (R:Nat) (hR:R<=1000000000) (hp:cj R p) (hq:cj R q):av Tryz.prog 233 [aS p,aS q] (aS (pV p q)):=by
 obtain⟨a1,a2,a3⟩:=hp
 obtain⟨b1,b2,b3⟩:=hq
 refine aN Tryz.func233 (ht:=(fun r=>LV.cP r _ (bg.pure _))) ?_
 refine dj ?_
 refine bF ?_
 refine aR ?_
 refine bY (b:=_) rfl ai ?_
 refine ax ?_
 refine aY 9 an ?_
 refine aR ?_
 refine cp aq (nz p.x q.x J) ?_
 refine bo ?_
 refine bF ?_
 refine aR ?_
 refine bY (b:=_) rfl ai ?_
 refine ax ?_
 refine aY 9 an ?_
 refine aR ?_
 refine cp aq (nz p.y q.y J) ?_
 refine bo ?_
 refine bF ?_
 refine aR ?_
 refine bY (b:=_) rfl ai ?_
 refine ax ?_
 refine aY 9 an ?_
 refine aR ?_
 refine cp aq (nz p.z q.z J) ?_
 refine bo ?_
 refine bF ?_
 refine aR ?_
 refine eE (b:=_) rfl ai ?_
 refine bu ?_
 exact qo
open H0 in
theorem aj3 (r:Rat) (p:V3) (R:Nat) (hR:R<=1000000000) (hr:rl r<=R) (hp:cj R p):av Tryz.prog 141 [ae r,aS p] (aS (iZ r p)):=by
 obtain⟨a1,a2,a3⟩:=hp
 refine aN Tryz.func141 (ht:=(fun r=>LV.cP r _ (bg.pure _))) ?_
 refine dj ?_
 refine bF ?_
 refine aR ?_
 refine bY (b:=_) rfl ai ?_
 refine ax ?_
 refine aY 7 an ?_
 refine aZ ?_
 refine cp aq (rE r p.x J) ?_
 refine bo ?_
 refine bF ?_
 refine aR ?_
 refine bY (b:=_) rfl ai ?_
 refine ax ?_
 refine aY 7 an ?_
 refine aZ ?_
 refine cp aq (rE r p.y J) ?_
 refine bo ?_
 refine bF ?_
 refine aR ?_
 refine bY (b:=_) rfl ai ?_
 refine ax ?_
 refine aY 7 an ?_
 refine aZ ?_
 refine cp aq (rE r p.z J) ?_
 refine bo ?_
 refine bF ?_
 refine aR ?_
 refine eE (b:=_) rfl ai ?_
 refine bu ?_
 exact qo
theorem sG {a b:Rat}:0<=fi a b↔b<=a:=by
 unfold fi
 constructor
 ·intro h
  split at h
  ·exact absurd h ai
  ·grind
 ·intro h
  split
  ·exfalso;grind
  ·split<;>decide
end Go.Proofs.YtckppbhafancnaaGreat
namespace Go.Lg
theorem ajR {P:Program} {f:FuncId} {args:List LV} {sz n:Nat} {vals:List LV} {mt:Bool} (h:nk P f args (.ref 1 sz 0 n) [⟨sz,vals,mt⟩]) (hp:aG vals=true) (hn:vals.length=n):av P f args (.list sz vals):=by
 refine⟨⟨h.1,fun W Z0 vs hz hr=>Calls.mono (h.2 W Z0 vs hz hr) (fun e w'=>?_)⟩,fun g=>LV.cP g _ (by simp [LV.pure,hp])⟩
 rintro⟨v,μ,Z,he,hc,hv⟩
 have hle:bK.le (mY [⟨sz,vals,mt⟩]) (mY [⟨sz,vals,false⟩]):=fun b blk hb=>by
  unfold mY at hb ⊢
  by_cases h0:b=0
  ·rw [if_pos h0] at hb;cases hb
  ·rw [if_neg h0] at hb
   rcases Nat.lt_or_ge (b-1) 1 with h1 | h1
   ·have e:b-1=0:=by omega
    rw [e] at hb
    simp only [List.getElem?_cons_zero,Option.some.injEq] at hb
    subst hb
    exact⟨false,by rw [if_neg h0,e];rfl,fun _=>rfl,fun _ _=>h0⟩
   ·rw [List.getElem?_eq_none (by simpa using h1)] at hb;cases hb
 obtain⟨Z1,k1,k2⟩:=hc.tO hle
 have dt:Frame Z μ w' w':=⟨fun _ _=>rfl,fun _ id _ c _ _ hh=>⟨c,hh,rfl⟩⟩
 have hv1:=hv.mono k2 (fun _ _ h=>h) dt
 have hi:cG (mY [⟨sz,vals,false⟩]) (.ref 1 sz 0 n) (.list sz vals):=by
  have:=cG.ref (H:=mY [⟨sz,vals,false⟩]) (b:=1) (off:=0) (len:=n) (blk:=⟨sz,vals,false⟩) rfl rfl hp (by simp [hn]) rfl
  simpa [<-hn] using this
 refine⟨v,jf μ 1,Z1,he,?_,a9.pL (fun l h=>by cases h) (hi.zk k1 hv1)⟩
 have kk:=Core.kill (L:=⟨fun _=>.any,mY [⟨sz,vals,false⟩]⟩) 1 ai k1
 refine kk.ae6 fun b id hb=>?_
 have wu:b≠1:=fun e=>by rw [e] at hb;simp [jf] at hb
 have tZ:μ b=some id:=by unfold jf at hb;split at hb<;>first | exact hb | cases hb
 obtain⟨blk,g1,_⟩:=k1.heap b id tZ
 unfold mY at g1
 split at g1
 ·cases g1
 ·rw [List.getElem?_eq_none bm] at g1;cases g1
end Go.Lg
namespace Go.Proofs.YtckppbhafancnaaGreat
open Go.Lg
theorem aCw (p:List Rat) (hl:p.length<=1048576) (ma:∀ x∈p,rl x<=274877906944):av Tryz.prog 178 [.list 3 (p.map ae)] (.list 3 (p.map ae)) :=
 ajR (agM p hl ma) (aW ao _) aO
def xI (p:List Rat) (i:Nat):Rat:=(if 0<i then((i:Int):Rat)/((p.length:Int):Rat)*p.getD (i-1) 0 else 0)+(if i<p.length then(((p.length:Int)-(i:Int):Int):Rat)/((p.length:Int):Rat)*p.getD i 0 else 0)
def rk (p:List Rat):List Rat:=(List.range (p.length+1)).map (xI p)
def vO:Nat->List Rat->List Rat
 | 0,p=>p
 | k+1,p=>vO k (rk p)
def ja (p:List Rat) (n:Nat):List Rat:=vO (n+1-p.length) p
theorem nY (p:List Rat):(rk p).length=p.length+1:=by simp [rk]
theorem ajz {p:List Rat} {i:Nat} (h:i<p.length+1):(rk p).getD i 0=xI p i:=by
 rw [List.getD_eq_getElem?_getD,List.getElem?_eq_getElem (by rw [nY];exact h)];simp [rk]
theorem aoN:∀ (k:Nat) (p:List Rat),(vO k p).length=p.length+k
 | 0,p=>rfl
 | k+1,p=>by rw [vO,aoN k,nY];omega
theorem anP {p:List Rat} {n:Nat} (h:p.length<=n+1):(ja p n).length=n+1:=by rw [ja,aoN];omega
theorem az3 {p:List Rat} {i:Nat} (h0:0<i) (h1:i<p.length):xI p i=((i:Int):Rat)/((p.length:Int):Rat)*p.getD (i-1) 0+(((p.length:Int)-(i:Int):Int):Rat)/((p.length:Int):Rat)*p.getD i 0:=by
 rw [xI,if_pos h0,if_pos h1]
theorem aBN {p:List Rat} {i:Nat} (h0:0<i) (h1:¬ i<p.length):xI p i=((i:Int):Rat)/((p.length:Int):Rat)*p.getD (i-1) 0:=by
 rw [xI,if_pos h0,if_neg h1,Rat.add_zero]
theorem ayC {p:List Rat} {i:Nat} (h0:¬ 0<i) (h1:i<p.length):xI p i=(((p.length:Int)-(i:Int):Int):Rat)/((p.length:Int):Rat)*p.getD i 0:=by
 rw [xI,if_neg h0,if_pos h1,Rat.zero_add]
def qY (p:List Rat) (n:Nat):Prop:=(∀ x∈p,rl x<=1073741824)/\∀ k,p.length+k<=n+1->∀ x∈vO k p,rl x<=1073741824
theorem aez {p:List Rat} {n:Nat} (h:qY p n) (k:Nat):rl (p.getD k 0)<=1073741824:=fR ai h.1 k
theorem amU {p:List Rat} {n:Nat} (hl:p.length<=n) (h:qY p n):qY (rk p) n:=⟨h.2 1 J,fun k hk=>h.2 (k+1) (by rw [nY] at hk;omega)⟩
theorem amj {p:List Rat} {n:Nat} (h:n+1<=p.length):ja p n=p:=by rw [ja,show n+1-p.length=0 by omega];rfl
theorem awO {p:List Rat} {n:Nat} (h:p.length<=n):vO (n+1-(rk p).length) (rk p)=vO (n+1-p.length) p:=by
 rw [show n+1-p.length=(n+1-(rk p).length)+1 by rw [nY];omega];rfl
def sf (g:Rat->Rat->Rat) (a b:List Rat):List Rat:=(List.range a.length).map fun i=>g (a.getD i 0) (b.getD i 0)
theorem aeD (g:Rat->Rat->Rat) (a b:List Rat):(sf g a b).length=a.length:=by simp [sf]
theorem aCY {g:Rat->Rat->Rat} {a b:List Rat} {i:Nat} (h:i<a.length):(sf g a b).getD i 0=g (a.getD i 0) (b.getD i 0):=by
 rw [List.getD_eq_getElem?_getD,List.getElem?_eq_getElem (by rw [aeD];exact h)];simp [sf]
namespace an0
theorem aH {p q:Prop} (k:q) (e:p=q:=by simp only [e1,e2,e3,e4,p1,p2,p3,q1,q2,q3,l1,t0,t1,r1,r2,r3,r4,Nat.zero_add,Nat.reduceMul,Nat.reduceAdd,b1,b2,b3,b4,b5,b6,i1,i2,i3,i4,i5,i6,Nat.reduceBEq,cy,List.length_set,List.set_set,egs,egz,eim,Rat.zero_add,aP ao,cH,LV.kill,bN];exact rfl):p:=e.mpr k
end an0
open an0 in
theorem aqs (p:List Rat) (n:Nat) (mj:0<p.length) (hn:n<=1000) (hl:p.length<=1001) (hs:qY p n):av Tryz.prog 290 [.list 3 (p.map ae),ah n] (.list 3 ((ja p n).map ae)):=by
 refine aN Tryz.func290 ?_
 have egs:True:=trivial
 have egz:True:=trivial
 have eim:True:=trivial
 refine bf ?_
 refine cp aK (aCw p J (fun x hx=>by have:=aez hs;have h9:=List.getElem_of_mem hx;obtain⟨k,hk,rfl⟩:=h9;have h8:=this k;rw [List.getD_eq_getElem?_getD,List.getElem?_eq_getElem hk] at h8;exact Nat.le_trans h8 ai)) ?_
 refine aZ ?_
 refine dG (fun(o:List Rat) L=>(((St.mk L.slot (hp [])).put (some 1) (ah n)).put (some 5) (.list 3 (o.map ae)))) (fun o=>0<o.length/\o.length<=1001/\qY o n/\vO (n+1-o.length) o=ja p n) (fun o=>n+1-o.length) p ⟨mj,hl,hs,rfl⟩ ?_
 rintro o L1 ⟨ho0,cN,hos,hit⟩
 refine aR ?_
 refine dy 18 rfl ?_ ?_<;>intro rz rp
 ·refine aR ?_
  refine aC rfl ?_ ?_<;>intro p7 oS
  ·have hon:o.length<=n:=by omega
   refine dp ?_
   refine ak rfl cB ?_
   refine eI rfl rfl (.kK (n:=(o.length+1)) (m:=(o.length+1)) ml ml om om om) ?_
   refine bu ?_
   refine jL (fun(i:Nat) (w:List Rat) L=>((((((((St.mk L.slot (hp [(28,⟨3,w.map ae,true⟩)])).put (some 1) (ah n)).put (some 5) (.list 3 (o.map ae))).put (some 6) (ah o.length)).put (some 7) (.ref 28 3 0 (o.length+1))).put (some 29) (.ref 28 3 0 (o.length+1))).put (some 30) (ah (o.length+1))).put (some 31) (ah i))) (fun i w=>i<=o.length+1/\w.length=o.length+1/\w.take i=(rk o).take i/\∀ x,i<=x->w.getD x 0=0) (fun i w=>o.length+1-i) 0 (List.replicate (o.length+1) 0) ⟨Nat.zero_le _,by simp,rfl,fun x _=>by simp [List.getD_eq_getElem?_getD,List.getElem?_replicate];split<;>rfl⟩ ?_
   rintro i w L2 ⟨hi,gO,jt,hz⟩
   refine az ?_
   refine aC rfl ?_ ?_<;>intro afX h32
   ·have dA:i<o.length+1:=by omega
    have zh:=aa1 (n:=(i:Int)) (d:=(o.length:Int)) J J
    have oJ:=aa1 (n:=(o.length:Int)-(i:Int)) (d:=(o.length:Int)) J J
    have ib:=aez hos (i-1)
    have nv:=aez hos i
    have iI:=cO (((i:Int):Rat)/((o.length:Int):Rat)) (o.getD (i-1) 0)
    have dY:=cO ((((o.length:Int)-(i:Int):Int):Rat)/((o.length:Int):Rat)) (o.getD i 0)
    have egs:=fun v=>aB6 (o:=w) (i:=i) (v:=v) J
    have egz:=hz i (Nat.le_refl _)
    have eim:((i:Int)-1).toNat=i-1:=by omega
    have qC:rl 0=1:=rfl
    refine im ?_
    refine aC rfl ?_ ?_<;>intro xf vR
    ·have nE:0<i:=by omega
     refine ax ?_
     refine cp aq (aho (i:Int) (o.length:Int) J J J J J) ?_
     refine bf ?_
     refine aY 10 an ?_
     refine bf ?_
     try simp only [t1,cy,eim]
     refine cp aq (gf _ _ J) ?_
     refine bu ?_
     refine aC rfl ?_ ?_<;>intro asB h55
     ·have qx:i<o.length:=by omega
      refine ax ?_
      refine ak rfl te ?_
      refine ar ?_
      refine cp aq (aho ((o.length:Int)-(i:Int)) (o.length:Int) J J J J J) ?_
      refine bf ?_
      refine aY 14 an ?_
      refine bo ?_
      try simp only [t1,cy]
      refine cp aq (gf _ _ J) ?_
      try simp only [t1,cy,Nat.zero_add,egs,egz]
      refine cp aq (iw _ _ J) ?_
      refine aZ ?_
      refine cq ((aw.kill _ 9).trans (aw.kill _ 11)) ?_
      refine ax ?_
      exact fU (i+1) (w.set i (((i:Int):Rat)/((o.length:Int):Rat)*o.getD (i-1) 0+(((o.length:Int)-(i:Int):Int):Rat)/((o.length:Int):Rat)*o.getD i 0)) ⟨J,by simp [gO],zR (by rw [nY];omega) (by rw [nY];omega) jt (by rw [ajz J,az3 nE qx]),fun x hx=>by rw [xO _ _ _ _ J,if_neg J];exact hz x J⟩
     ·have qx:¬ i<o.length:=by omega
      refine aJ ?_
      refine cq ((aw.kill _ 9).trans (aw.kill _ 11)) ?_
      refine ax ?_
      exact fU (i+1) (w.set i (((i:Int):Rat)/((o.length:Int):Rat)*o.getD (i-1) 0)) ⟨J,by simp [gO],zR (by rw [nY];omega) (by rw [nY];omega) jt (by rw [ajz J,aBN nE qx]),fun x hx=>by rw [xO _ _ _ _ J,if_neg J];exact hz x J⟩
    ·have nE:¬ 0<i:=by omega
     refine bB ?_
     refine aC rfl ?_ ?_<;>intro asB h55
     ·have qx:i<o.length:=by omega
      refine ax ?_
      refine ak rfl te ?_
      refine ar ?_
      refine cp aq (aho ((o.length:Int)-(i:Int)) (o.length:Int) J J J J J) ?_
      refine bf ?_
      refine aY 14 an ?_
      refine bo ?_
      try simp only [t1,cy]
      refine cp aq (gf _ _ J) ?_
      try simp only [t1,cy,Nat.zero_add,egs,egz]
      refine cp aq (iw _ _ J) ?_
      refine aZ ?_
      refine cq ((aw.kill _ 9).trans (aw.kill _ 11)) ?_
      refine ax ?_
      exact fU (i+1) (w.set i ((((o.length:Int)-(i:Int):Int):Rat)/((o.length:Int):Rat)*o.getD i 0)) ⟨J,by simp [gO],zR (by rw [nY];omega) (by rw [nY];omega) jt (by rw [ajz J,ayC nE qx]),fun x hx=>by rw [xO _ _ _ _ J,if_neg J];exact hz x J⟩
     ·have qx:¬ i<o.length:=by omega
      refine aJ ?_
      refine cq ((aw.kill _ 9).trans (aw.kill _ 11)) ?_
      refine ax ?_
      exact fU (i+1) w (False.elim J)
   ·obtain rfl:i=o.length+1:=by omega
    have hE:w=rk o:=by
     rw [List.take_of_length_le J,List.take_of_length_le (by rw [nY];omega)] at jt
     exact jt
    subst hE
    refine aZ ?_
    refine cq ((aw.cf (t:=7) [28] rfl rfl (eM ao rfl rfl (by rw [nY]))).trans (aw.kill _ 28)) ?_
    refine aZ ?_
    exact iJ (rk o) ⟨by rw [nY];omega,by rw [nY];omega,amU J hos,by rw [awO J];exact hit⟩ (hm:=by rw [nY];omega)
  ·refine bu ?_
   have hE:ja p n=o:=by rw [<-hit,show n+1-o.length=0 by omega];rfl
   rw [hE]
   exact dC
 ·refine nj ?_
  have hE:ja p n=o:=by rw [<-hit,show n+1-o.length=0 by omega];rfl
  rw [hE]
  exact dC
def cR (n k:Nat):Rat:=((lb n k:Nat):Int)
def sq (p:List Rat) (k:Nat):Rat:=cR (p.length-1) k*p.getD k 0
def sm:Nat->(Nat->Rat)->Rat
 | 0,_=>0
 | n+1,f=>sm n f+f n
theorem wS:∀ (n:Nat) (f g:Nat->Rat),(∀ i,i<n->f i=g i)->sm n f=sm n g
 | 0,_,_,_=>rfl
 | n+1,f,g,h=>by rw [sm,sm,wS n f g (fun i hi=>h i J),h n J]
theorem afj:∀ (n:Nat) (f g:Nat->Rat),sm n (fun i=>f i+g i)=sm n f+sm n g
 | 0,_,_=>by show (0:Rat)=0+0;grind
 | n+1,f,g=>by rw [sm,sm,sm,afj n];grind
theorem alK (c:Rat):∀ (n:Nat) (f:Nat->Rat),sm n (fun i=>c*f i)=c*sm n f
 | 0,_=>by show (0:Rat)=c*0;grind
 | n+1,f=>by rw [sm,sm,alK c n];grind
theorem aoB:∀ (n:Nat) (f:Nat->Rat),sm (n+1) f=f 0+sm n (fun i=>f (i+1))
 | 0,f=>by show 0+f 0=f 0+0;grind
 | n+1,f=>by rw [sm,aoB n f,sm];grind
theorem aCj (n:Nat) (f:Nat->Rat) (h:∀ i,i<n->f i=0):sm n f=0:=by
 induction n with
 | zero=>rfl
 | succ n ih=>rw [sm,ih (fun i hi=>h i J),h n J];exact Rat.add_zero 0
def bnd (x y:Rat):Prop:=-y<=x/\x<=y
theorem an9 {x y:Rat} (hx:0<x) (h:x<=y):0<1/y/\1/y<=1/x:=by
 have hy:0<y:=by grind
 have e1:1/x*x=1:=by grind
 have e2:1/y*y=1:=by grind
 have r0:0<1/x:=by rw [Rat.div_def,Rat.one_mul];exact Rat.inv_pos.2 hx
 have s0:0<1/y:=by rw [Rat.div_def,Rat.one_mul];exact Rat.inv_pos.2 hy
 revert e1 e2 r0 s0
 generalize 1/x=r
 generalize 1/y=s
 intro e1 e2 r0 s0
 refine⟨s0,?_⟩
 have h1:=Rat.mul_le_mul_of_nonneg_left h (Rat.le_of_lt (Rat.mul_pos s0 r0))
 have e3:s*r*x=s:=by rw [Rat.mul_assoc,e1,Rat.mul_one]
 have e4:s*r*y=r:=by rw [Rat.mul_comm s r,Rat.mul_assoc,e2,Rat.mul_one]
 rwa [e3,e4] at h1
theorem aog {n:Nat} (hn:n<=1000):∀ (k:Nat) (p:List Rat),0<p.length->p.length+k<=n+1->qY p n->qY (vO k p) n
 | 0,_,_,_,h=>h
 | k+1,p,h0,hk,h=>aog hn k (rk p) (by rw [nY];omega) (by rw [nY];omega) (amU J h)
theorem anD {p:List Rat} {n:Nat} (hn:n<=1000) (h0:0<p.length) (hl:p.length<=n+1) (h:qY p n) (k:Nat):rl ((ja p n).getD k 0)<=1073741824 :=
 aez (aog hn _ p h0 J h) k
theorem emx {a b n:Nat} (h:0<a) (h1:a<=n+1) (h2:b<=n+1) (h3:a=n+1\/b=n+1):(if ((b:Nat):Int) > ((a:Nat):Int) then((b:Nat):Int) else((a:Nat):Int))-1=(n:Int):=by
 split<;>omega
theorem emn (a:Nat):(if ((a:Nat):Int)<((a:Nat):Int) then((a:Nat):Int) else((a:Nat):Int))=(a:Int):=by split<;>rfl
theorem atE {a b n:Nat} (h:0<a) (h1:a<=n+1) (h2:b<=n+1) (h3:a=n+1\/b=n+1) (hn:n<=1000):dk .sub .i64 (if ((b:Nat):Int) > ((a:Nat):Int) then((b:Nat):Int) else((a:Nat):Int)) 1=some (.int .i64 ((n:Nat):Int)):=by
 have e:=emx h h1 h2 h3
 rw [xD J J,e]
namespace akH
theorem aH {p q:Prop} (k:q) (e:p=q:=by simp only [e1,e2,e3,e4,p1,p2,p3,q1,q2,q3,l1,t0,t1,r1,r2,r3,r4,Nat.zero_add,Nat.reduceMul,Nat.reduceAdd,b1,b2,b3,b4,b5,b6,i1,i2,i3,i4,i5,i6,Nat.reduceBEq,cy,alG,elp,elq,emn,aP ao,cH,dO,LV.kill,bN];exact rfl):p:=e.mpr k
end akH
open akH in
theorem awG (p q:List Rat) (f:Nat) (g:Rat->Rat->Rat) (n:Nat) (mj:0<p.length) (ni:0<q.length) (hn:n<=1000) (zX:p.length<=n+1) (hqn:q.length<=n+1) (hpq:p.length=n+1\/q.length=n+1) (hps:qY p n) (vX:qY q n) (hf:∀ i,av Tryz.prog f [ae ((ja p n).getD i 0),ae ((ja q n).getD i 0)] (ae (g ((ja p n).getD i 0) ((ja q n).getD i 0)))):av Tryz.prog 283 [.list 3 (p.map ae),.list 3 (q.map ae),.cV f []] (.list 3 ((sf g (ja p n) (ja q n)).map ae)):=by
 have alG:=emx mj zX hqn hpq
 have elp:=anP zX
 have elq:=anP hqn
 have mA:(sf g (ja p n) (ja q n)).length=n+1:=by rw [aeD,elp]
 refine aN Tryz.func283 ?_
 have alG:True:=trivial
 have elp:True:=trivial
 have elq:True:=trivial
 have emn:True:=trivial
 refine bu ?_
 refine ak rfl (.bin rfl rfl (atE mj zX hqn hpq hn)) ?_
 refine aR ?_
 refine cp aq (aqs p n mj hn J hps) ?_
 refine aL ?_
 refine cp aq (aqs q n ni hn J vX) ?_
 refine bB ?_
 try simp only [elp,elq]
 refine ar ?_
 refine eI rfl rfl (.kK (n:=(n+1)) (m:=(n+1)) ml ml om om om) ?_
 refine bu ?_
 refine jL (fun(i:Nat) (w:List Rat) L=>((((((((St.mk L.slot (hp [(27,⟨3,w.map ae,true⟩)])).put (some 0) (.list 3 ((ja p n).map ae))).put (some 1) (.list 3 ((ja q n).map ae))).put (some 2) (.cV f [])).put (some 8) (.ref 27 3 0 (n+1))).put (some 28) (.ref 27 3 0 (n+1))).put (some 29) (ah (n+1))).put (some 30) (ah i))) (fun i w=>i<=n+1/\w.length=n+1/\w.take i=(sf g (ja p n) (ja q n)).take i) (fun i w=>n+1-i) 0 (List.replicate (n+1) 0) ⟨Nat.zero_le _,by simp,rfl⟩ ?_
 rintro i w L1 ⟨hi,gO,jt⟩
 refine az ?_
 refine aC rfl ?_ ?_<;>intro ahx h31
 ·have dA:i<n+1:=by omega
  have hfi:=hf i
  refine bB ?_
  refine aY 13 an ?_
  refine bo ?_
  try simp only [t1,cy]
  refine mG [] rfl rfl (.cV (f:=f) (cap:=[]) (args:=[ae ((ja p n).getD i 0),ae ((ja q n).getD i 0)]) rfl (.cons eJ (.cons eJ .nil)) ⟨rfl,fun _ h=>by cases h⟩ hfi.1 ai (fun _ h=>by cases h)) (hfi.2 _) ?_
  refine bB ?_
  exact fU (i+1) (w.set i (g ((ja p n).getD i 0) ((ja q n).getD i 0))) ⟨J,by simp [gO],zR J J jt (by rw [aCY J])⟩
 ·obtain rfl:i=n+1:=by omega
  have hE:w=(sf g (ja p n) (ja q n)):=by
   rw [List.take_of_length_le J,List.take_of_length_le J] at jt
   exact jt
  subst hE
  refine bu ?_
  exact mL [27] rfl rfl (eM ao rfl rfl mA.symm)
open H0 in
theorem aCe (p q:List Rat) (n:Nat) (mj:0<p.length) (ni:0<q.length) (hn:n<=1000) (zX:p.length<=n+1) (hqn:q.length<=n+1) (hpq:p.length=n+1\/q.length=n+1) (hps:qY p n) (vX:qY q n):av Tryz.prog 251 [.list 3 (p.map ae),.list 3 (q.map ae)] (.list 3 ((sf (·-·) (ja p n) (ja q n)).map ae)):=by
 refine aN Tryz.func251 ?_
 refine bq ?_
 refine cp fJ (awG p q 170 (·-·) n mj ni hn zX hqn hpq hps vX (fun i=>p6 _ _ (by have:=anD hn mj zX hps i;have:=anD hn ni hqn vX i;omega))) ?_
 refine ax ?_
 exact dC
namespace alJ
theorem aH {p q:Prop} (k:q) (e:p=q:=by simp only [e1,e2,e3,e4,p1,p2,p3,q1,q2,q3,l1,t0,t1,r1,r2,r3,r4,Nat.zero_add,Nat.reduceMul,Nat.reduceAdd,b1,b2,b3,b4,b5,b6,i1,i2,i3,i4,i5,i6,Nat.reduceBEq,cy,List.length_set,afR,aec,wE,ji,elz,ela,aP ao,cH,LV.kill,bN];exact rfl):p:=e.mpr k
end alJ
open alJ in
theorem auU (p q:List Rat) (R:Nat) (mj:0<p.length) (ni:0<q.length) (h:p.length-1+(q.length-1)<=40) (eN:1<=R) (hR:R<=67108864) (oA:∀ x∈p,rl x<=R) (qw:∀ x∈q,rl x<=R):av Tryz.prog 284 [.list 3 (p.map ae),.list 3 (q.map ae)] (.a7 [.list 3 ((mb p q).map ae),iL 0]):=by
 have fv:p.length<=41:=by omega
 have iH:q.length<=41:=by omega
 refine aN Tryz.func284 ?_
 have ji:True:=trivial
 have elz:True:=trivial
 have ela:True:=trivial
 refine bB ?_
 refine ak rfl jz ?_
 refine aL ?_
 refine ak rfl jz ?_
 refine bq ?_
 refine ak rfl wK ?_
 refine aJ ?_
 refine aC rfl ?_ ?_<;>intro af0 x9
 ·omega
 ·refine bf ?_
  refine dy 28 rfl ?_ ?_<;>intro uJ ow
  ·exfalso
   omega
  ·refine aZ ?_
   refine aC rfl ?_ ?_<;>intro ahx h31
   ·omega
   ·refine aZ ?_
    refine cp aK (agH _ J) ?_
    refine ar ?_
    refine cp aK (agH _ J) ?_
    refine aL ?_
    refine ak rfl wK ?_
    refine cp aK (agH _ J) ?_
    refine bq ?_
    refine ak rfl wK ?_
    refine ak rfl cB ?_
    refine eI rfl rfl (.kK (n:=(p.length-1+(q.length-1)+1)) (m:=(p.length-1+(q.length-1)+1)) ml ml om om om) ?_
    refine bu ?_
    refine dG (fun(i:Nat) L=>((((((((((St.mk L.slot (hp [(44,⟨3,(allM p q i).map ae,true⟩)])).put (some 0) (.list 3 (p.map ae))).put (some 1) (.list 3 (q.map ae))).put (some 8) (.list 3 ((g6 (p.length-1)).map ae))).put (some 9) (.list 3 ((g6 (q.length-1)).map ae))).put (some 10) (.list 3 ((g6 (p.length-1+(q.length-1))).map ae))).put (some 11) (.ref 44 3 0 (p.length-1+(q.length-1)+1))).put (some 45) (.list 3 (p.map ae))).put (some 46) (ah p.length)).put (some 47) (ah i))) (fun i=>i<=p.length) (fun i=>p.length-i) 0 (Nat.zero_le _) ?_
    rintro i L1 hi
    refine az ?_
    refine aC rfl ?_ ?_<;>intro aB1 h48
    ·have hip:i<p.length:=by omega
     have eX:=xC (n:=p.length-1) J _ (dg (i:=i) (by rw [wE];omega))
     have qj:=oA _ (dg (i:=i) hip)
     have hx3:=cO ((g6 (p.length-1)).getD i 0) (p.getD i 0)
     refine bo ?_
     refine aY 10 an ?_
     refine bf ?_
     try simp only [t1,cy]
     refine cp aq (gf _ _ J) ?_
     refine bu ?_
     refine dG (fun(j:Nat) L=>(((((((((((((((St.mk L.slot (hp [(44,⟨3,(wT ((g6 (p.length-1)).getD i 0*p.getD i 0) i (g6 (q.length-1)) q (allM p q i) j).map ae,true⟩),(13,⟨3,[ae ((g6 (p.length-1)).getD i 0*p.getD i 0)],true⟩)])).put (some 0) (.list 3 (p.map ae))).put (some 1) (.list 3 (q.map ae))).put (some 8) (.list 3 ((g6 (p.length-1)).map ae))).put (some 9) (.list 3 ((g6 (q.length-1)).map ae))).put (some 10) (.list 3 ((g6 (p.length-1+(q.length-1))).map ae))).put (some 11) (.ref 44 3 0 (p.length-1+(q.length-1)+1))).put (some 45) (.list 3 (p.map ae))).put (some 46) (ah p.length)).put (some 47) (ah i)).put (some 12) (ah i)).put (some 13) (.aA 13 3 0 0)).put (some 59) (.list 3 (q.map ae))).put (some 60) (ah q.length)).put (some 61) (ah j))) (fun j=>j<=q.length) (fun j=>q.length-j) 0 (Nat.zero_le _) ?_
     rintro j L2 hj
     refine az ?_
     refine aC rfl ?_ ?_<;>intro api h62
     ·have hjq:j<q.length:=by omega
      have ji:((i:Int)+(j:Int)).toNat=i+j:=by omega
      have hlr:(wT ((g6 (p.length-1)).getD i 0*p.getD i 0) i (g6 (q.length-1)) q (allM p q i) j).length=(p.length-1+(q.length-1)+1):=by rw [afR,aec]
      have hS:=adM fv iH eN oA qw i
      have ho:=ajb (i:=i) J hS (show rl ((g6 (p.length-1)).getD i 0*p.getD i 0)<=R+2 by omega) (xC (n:=q.length-1) J) qw eN j
      have fg:=apG (i:=i) (j:=j) J iH hj hR
      have l9:=fR J ho (i+j)
      have y9:=xC (n:=q.length-1) J _ (dg (i:=j) (by rw [wE];omega))
      have uB:=qw _ (dg (i:=j) hjq)
      have hg4:=cO ((g6 (q.length-1)).getD j 0) (q.getD j 0)
      have hg5:=cO ((g6 (p.length-1)).getD i 0*p.getD i 0) ((g6 (q.length-1)).getD j 0*q.getD j 0)
      refine bB ?_
      refine aY 23 an ?_
      refine aJ ?_
      refine ak rfl wK ?_
      refine aJ ?_
      refine ak rfl wK ?_
      refine bo ?_
      try simp only [t1,cy,Nat.zero_add]
      refine cp aq (gf _ _ J) ?_
      try simp only [t1,cy,Nat.zero_add]
      refine cp aq (gf _ _ J) ?_
      try simp only [t1,cy,Nat.zero_add]
      refine cp aq (iw _ _ J) ?_
      refine bB ?_
      exact vF
     ·obtain rfl:j=q.length:=by omega
      refine az ?_
      refine cq (aw.kill _ 13) ?_
      refine ax ?_
      exact jS
    ·obtain rfl:i=p.length:=by omega
     refine dj ?_
     refine jL (fun(k:Nat) (w:List Rat) L=>((((((St.mk L.slot (hp [(44,⟨3,w.map ae,true⟩)])).put (some 10) (.list 3 ((g6 (p.length-1+(q.length-1))).map ae))).put (some 11) (.ref 44 3 0 (p.length-1+(q.length-1)+1))).put (some 89) (.ref 44 3 0 (p.length-1+(q.length-1)+1))).put (some 90) (ah (p.length-1+(q.length-1)+1))).put (some 91) (ah k))) (fun k w=>k<=(p.length-1+(q.length-1)+1)/\w.length=(p.length-1+(q.length-1)+1)/\w.take k=(mb p q).take k/\∀ x,k<=x->w.getD x 0=(allM p q p.length).getD x 0) (fun k w=>(p.length-1+(q.length-1)+1)-k) 0 (allM p q p.length) ⟨Nat.zero_le _,aec _ _ _,rfl,fun x _=>rfl⟩ ?_
     rintro k w L3 ⟨hk,gO,jt,hz⟩
     refine az ?_
     refine aC rfl ?_ ?_<;>intro aEc h92
     ·have jO:k<(p.length-1+(q.length-1)+1):=by omega
      have hS:=adM fv iH eN oA qw p.length
      have fg:=apG (i:=p.length) (j:=0) fv iH J hR
      have l9:=fR J hS k
      have y9:=xC (n:=p.length-1+(q.length-1)) h _ (dg (i:=k) (by rw [wE];omega))
      have hzk:=hz k (Nat.le_refl _)
      rw [<-hzk] at l9
      refine bB ?_
      refine aY 12 an ?_
      refine bB ?_
      try simp only [t1,cy,Nat.zero_add]
      refine cp aq (ajg _ _ J) ?_
      refine bB ?_
      exact fU (k+1) (w.set k (w.getD k 0/(g6 (p.length-1+(q.length-1))).getD k 0)) ⟨J,by simp [gO],zR (by rw [y6];omega) (by rw [y6,gO]) jt (by rw [aAA J,hz k (Nat.le_refl _)]),fun x hx=>by rw [xO _ _ _ _ J,if_neg J];exact hz x J⟩
     ·obtain rfl:k=(p.length-1+(q.length-1)+1):=by omega
      have hE:w=mb p q:=by
       rw [List.take_of_length_le J,List.take_of_length_le (by rw [y6];omega)] at jt
       exact jt
      refine dp ?_
      rw [<-hE]
      exact ahB [44] rfl rfl (eM ao rfl rfl J) rfl (.pure rfl)
end Go.Proofs.YtckppbhafancnaaGreat
namespace Go.Lg
theorem aw.cell {L:St} (b:Nat) {sz:Nat} {x y:LV} {mt:Bool} (hb:L.heap b=some ⟨sz,[x],mt⟩) (h:∀ Z μ w cs,ay Z μ w x cs->ay Z μ w y cs):aw L (L.bG b (some ⟨sz,[y],mt⟩)):=by
 rintro n W X Z0 a w ⟨dL,bD,μ,Z,hc,hr⟩
 refine⟨dL,bD,μ,Z,?_,hr⟩
 have hs:∀ c,(L.bG b (some ⟨sz,[y],mt⟩)).heap c=if c=b then some ⟨sz,[y],mt⟩ else L.heap c:=fun c=>rfl
 refine⟨hc.cd,hc.ke,hc.iK,hc.ki,hc.inj,hc.own,hc.x0,hc.mC,hc.x1,fun c id blk g1 g2=>?_,fun c id blk g1 g2=>?_,fun c id g1=>?_⟩
 ·rw [hs] at g2
  split at g2
  ·rename_i e;subst e;cases g2;exact hc.ir c id ⟨sz,[x],mt⟩ g1 hb
  ·exact hc.ir c id blk g1 g2
 ·rw [hs] at g2
  split at g2
  ·rename_i e;subst e;cases g2;exact hc.bR c id ⟨sz,[x],mt⟩ g1 hb
  ·exact hc.bR c id blk g1 g2
 ·obtain⟨blk,k1,k2⟩:=hc.heap c id g1
  rw [hs]
  by_cases e:c=b
  ·subst e
   rw [if_pos rfl]
   rw [hb] at k1
   cases k1
   refine⟨_,rfl,?_⟩
   obtain⟨cs,T,part,rest,e1,e2,e3⟩:=k2
   refine⟨cs,T,part,rest,e1,e2,?_⟩
   simp only [aM] at e3 ⊢
   obtain⟨c1,c2,q1,q2,q3,q4⟩:=e3
   exact⟨c1,c2,q1,q2,h _ _ _ _ q3,q4⟩
  ·rw [if_neg e];exact⟨blk,k1,k2⟩
theorem aw.tH (L:St) (d sz:Nat) (hd:L.heap d=none):aw L (L.bG d (some ⟨sz,[],true⟩)):=by
 rintro n W X Z0 a w ⟨dL,bD,μ,Z,hc,hr⟩
 refine⟨dL,bD,μ,Z,?_,hr⟩
 refine hc.ae6 fun c id ur=>?_
 have:c≠d:=by rintro rfl;rw [rP hc hd] at ur;cases ur
 simp [St.bG,this]
theorem ab8 (d sz:Nat) (x y:LV) (Z:Nat->Prop) (μ:Nat->Option Nat) (w:World) (cs:List Value) (h:ay Z μ w (.agg [x,y,.v (.slice none 0 0)]) cs):ay Z μ w (.agg [x,y,.ref d sz 0 0]) cs:=by
 simp only [ay,b7] at h ⊢
 obtain⟨c1,c2,e1,e2,e3,c3,c4,e4,e5,e6,c5,c6,e7,e8,e9,e10⟩:=h
 exact⟨c1,c2,e1,e2,e3,c3,c4,e4,e5,e6,c5,c6,e7,e8,.inl ⟨e9.1,trivial⟩,e10⟩
end Go.Lg
namespace Go.Proofs.YtckppbhafancnaaGreat
open Go.Lg
def _root_.Go.Lg.V3.at (p:V3):Nat->Rat
 | 0=>p.x
 | 1=>p.y
 | _=>p.z
def bj (po:List aF) (k:Nat):List Rat:=po.map fun q=>q.w*q.p.at k
def aX (po:List aF):List Rat:=po.map fun q=>q.w
theorem n8 (po:List aF) (k:Nat):(bj po k).length=po.length:=by simp [bj]
theorem me (po:List aF):(aX po).length=po.length:=by simp [aX]
theorem abC {R:Nat} {p:V3} (h:cj R p):∀ k,rl (p.at k)<=R
 | 0=>h.1
 | 1=>h.2.1
 | _+2=>h.2.2
theorem adN {R:Nat} {po:List aF} (h:∀ q∈po,oF R q) (k:Nat):∀ x∈bj po k,rl x<=2*R:=fun x hx=>by
 obtain⟨q,hq,rfl⟩:=List.mem_map.1 hx
 obtain⟨h1,h2,_⟩:=h q hq
 have h3:=abC h1 k
 have h4:=cO q.w (q.p.at k)
 show rl (q.w*q.p.at k)<=_
 omega
theorem abZ {R:Nat} {po:List aF} (h:∀ q∈po,oF R q):∀ x∈aX po,rl x<=R:=fun x hx=>by
 obtain⟨q,hq,rfl⟩:=List.mem_map.1 hx
 exact(h q hq).2.1
def fD (po:List aF) (k:Nat):List Rat:=sf (·-·) (mb (gk (bj po k)) (aX po)) (mb (bj po k) (gk (aX po)))
theorem aow {p:List Rat} {n:Nat} (hp:p.length=n+1) (h:∀ x∈p,rl x<=1073741824):qY p n:=⟨h,fun k hk=>by
 obtain rfl:k=0:=by omega
 exact h⟩
theorem aiu (p q:List Rat) (n:Nat) (hn:n<=40) (hp:p.length=n+1) (hq:q.length=n+1) (oA:∀ x∈p,rl x<=1073741824) (qw:∀ x∈q,rl x<=1073741824):av Tryz.prog 251 [.list 3 (p.map ae),.list 3 (q.map ae)] (.list 3 ((sf (·-·) p q).map ae)):=by
 have:=aCe p q n J J J J J (.inl hp) (aow hp oA) (aow hq qw)
 rwa [amj J,amj J] at this
theorem arD {p q:List Rat} {R:Nat} (h:p.length-1+(q.length-1)<=40) (fv:p.length<=41) (iH:q.length<=41) (eN:1<=R) (hR:R<=100) (oA:∀ x∈p,rl x<=R) (qw:∀ x∈q,rl x<=R):∀ x∈mb p q,rl x<=344700:=fun x hx=>by
 obtain⟨k,hk,rfl⟩:=List.mem_map.1 hx
 have hS:=adM fv iH eN oA qw p.length
 have fg:p.length*(q.length*(2*R+5))<=41*(41*205):=Nat.mul_le_mul fv (Nat.mul_le_mul iH J)
 have l9:=fR J hS k
 have y9:=fR (S:=2) ai (xC (n:=p.length-1+(q.length-1)) h) k
 have h3:=oT ((allM p q p.length).getD k 0) ((g6 (p.length-1+(q.length-1))).getD k 0)
 omega
theorem anv {R:Nat} {p q:List Rat} {g:Rat->Rat->Rat} (hg:∀ a b,rl (g a b)<=rl a+rl b+1) (hR:1<=R) (hp:∀ x∈p,rl x<=R) (hq:∀ x∈q,rl x<=R):∀ x∈sf g p q,rl x<=2*R+1:=fun x hx=>by
 obtain⟨i,_,rfl⟩:=List.mem_map.1 hx
 have h1:=fR hR hp i
 have h2:=fR hR hq i
 have h3:=hg (p.getD i 0) (q.getD i 0)
 omega
structure mf (po:List aF) (d:Nat):Prop where
 hl:po.length=d+1
 hd:1<=d
 h6:d<=6
 ok:∀ q∈po,oF 1 q
section
variable {po:List aF} {d:Nat} (h:mf po d)
theorem mf.n (h:mf po d) (k:Nat):(bj po k).length=d+1/\∀ x∈bj po k,rl x<=2:=⟨by rw [n8,h.hl],adN h.ok k⟩
theorem mf.w (h:mf po d):(aX po).length=d+1/\∀ x∈aX po,rl x<=2:=⟨by rw [me,h.hl],fun x hx=>Nat.le_trans (abZ h.ok x hx) ai⟩
theorem mf.dn (h:mf po d) (k:Nat):(gk (bj po k)).length=d/\∀ x∈gk (bj po k),rl x<=8:=by
 obtain⟨h1,h2⟩:=h.n k
 have:=h.hd
 have:=h.h6
 exact⟨by rw [abo,h1,if_neg J];omega,ad7 ai J h2⟩
theorem mf.dw (h:mf po d):(gk (aX po)).length=d/\∀ x∈gk (aX po),rl x<=8:=by
 obtain⟨h1,h2⟩:=h.w
 have:=h.hd
 have:=h.h6
 exact⟨by rw [abo,h1,if_neg J];omega,ad7 ai J h2⟩
theorem mf.m1 (h:mf po d) (k:Nat):(mb (gk (bj po k)) (aX po)).length=2*d-1+1/\∀ x∈mb (gk (bj po k)) (aX po),rl x<=344700:=by
 obtain⟨h1,h2⟩:=h.dn k
 obtain⟨h3,h4⟩:=h.w
 have:=h.hd
 have:=h.h6
 exact⟨by rw [y6,h1,h3];omega,arD (R:=8) J J J ai ai h2 (fun x hx=>Nat.le_trans (h4 x hx) ai)⟩
theorem mf.m2 (h:mf po d) (k:Nat):(mb (bj po k) (gk (aX po))).length=2*d-1+1/\∀ x∈mb (bj po k) (gk (aX po)),rl x<=344700:=by
 obtain⟨h1,h2⟩:=h.n k
 obtain⟨h3,h4⟩:=h.dw
 have:=h.hd
 have:=h.h6
 exact⟨by rw [y6,h1,h3];omega,arD (R:=8) J J J ai ai (fun x hx=>Nat.le_trans (h2 x hx) ai) h4⟩
theorem mf.t (h:mf po d) (k:Nat):(fD po k).length=2*d-1+1/\∀ x∈fD po k,rl x<=689401:=by
 obtain⟨h1,h2⟩:=h.m1 k
 obtain⟨_,h4⟩:=h.m2 k
 exact⟨by rw [fD,aeD,h1],fun x hx=>anv iq ai h2 h4 x hx⟩
end
theorem afZ {Z:Nat->Prop} {μ:Nat->Option Nat} {w:World} {cs:List Value} (d sz:Nat) (h:ay Z μ w (.v (.slice none 0 0)) cs):ay Z μ w (.ref d sz 0 0) cs:=by
 simp only [ay] at h ⊢
 exact .inl ⟨h.1,trivial⟩
theorem ax7 (a b c d:Nat) (sz:Nat) (Z:Nat->Prop) (μ:Nat->Option Nat) (w:World) (cs:List Value) (h:ay Z μ w (.agg [.v (.slice none 0 0),.v (.slice none 0 0),.v (.slice none 0 0),.v (.slice none 0 0)]) cs) :
  ay Z μ w (.agg [.ref a sz 0 0,.ref b sz 0 0,.ref c sz 0 0,.ref d sz 0 0]) cs:=by
 simp only [ay.eq_4,b7] at h ⊢
 obtain⟨c1,c2,e1,e2,e3,c3,c4,e4,e5,e6,c5,c6,e7,e8,e9,c7,c8,e10,e11,e12,e13⟩:=h
 exact⟨c1,c2,e1,e2,afZ _ _ e3,c3,c4,e4,e5,afZ _ _ e6,c5,c6,e7,e8,afZ _ _ e9,c7,c8,e10,e11,afZ _ _ e12,e13⟩
theorem zF {α β:Type} [Inhabited α] (f:α->β) (l:List α) {j:Nat} (h:j<l.length):(l.map f).take j++[f (l.getD j default)]=(l.map f).take (j+1):=by
 rw [List.take_add_one,List.getElem?_map,List.getElem?_eq_getElem h,List.getD_eq_getElem?_getD,List.getElem?_eq_getElem h];rfl
theorem qM {po:List aF} {j:Nat} (h:j<po.length):po.getD j default∈po:=by
 rw [List.getD_eq_getElem?_getD,List.getElem?_eq_getElem h];exact List.getElem_mem h
open H0 in
theorem abM (p q:List Rat) (R:Nat) (mj:0<p.length) (ni:0<q.length) (h:p.length-1+(q.length-1)<=40) (eN:1<=R) (hR:R<=67108864) (oA:∀ x∈p,rl x<=R) (qw:∀ x∈q,rl x<=R):av Tryz.prog 252 [.list 3 (p.map ae),.list 3 (q.map ae)] (.list 3 ((mb p q).map ae)):=by
 refine aN Tryz.func252 ?_
 refine bq ?_
 refine cp aq (auU p q R mj ni h eN hR oA qw) ?_
 refine dj ?_
 exact dC
theorem ah1 {a:Rat} (h:cM a=0):a=0:=by
 rcases aAe a with⟨g,e⟩ | ⟨_,e⟩ | ⟨_,e⟩
 ·exact g
 ·rw [e] at h;cases h
 ·rw [e] at h;cases h
namespace aqC
theorem aH {p q:Prop} (k:q) (e:p=q:=by simp only [e1,e2,e3,e4,p1,p2,p3,q1,q2,q3,l1,t0,t1,r1,r2,r3,r4,Nat.zero_add,Nat.reduceMul,Nat.reduceAdd,b1,b2,b3,b4,b5,b6,i1,i2,i3,i4,i5,i6,Nat.reduceBEq,cy,ejm,List.length_set];exact rfl):p:=e.mpr k
end aqC
open aqC in
theorem aCW (p:List Rat) (n:Nat) (fv:p.length=n) (gU:0<n) (hn:n<=1048576):lH Tryz.prog 179 ⟨3,p.map ae,true⟩ [.ref 0 3 0 n] (.a7 []) ⟨3,p.reverse.map ae,true⟩:=by
 refine ud Tryz.func179 ?_
 have ejm:True:=trivial
 refine ax ?_
 refine ak rfl jz ?_
 refine aZ ?_
 refine rf (fun(i j:Nat) (o:List Rat) L=>((((St.mk L.slot (hp [(0,⟨3,o.map ae,true⟩)])).put (some 0) (.ref 0 3 0 n)).put (some 2) (ah i)).put (some 3) (ah j))) (fun i j o=>j+i+1=n/\o.length=n/\∀ x,x<n->o.getD x 0=if x<i\/n<=x+i then p.getD (n-1-x) 0 else p.getD x 0) (fun i j o=>j) 0 (n-1) p ⟨J,fv,fun x hx=>by rw [if_neg J]⟩ ?_
 rintro i j o L1 ⟨qI,cN,hg⟩
 refine bf ?_
 refine aC rfl ?_ ?_<;>intro ta h9
 ·have ejm:((j:Int)-1)=((j-1:Nat):Int):=by omega
  refine ax ?_
  refine fS 13 [2,3] an ?_
  refine ahZ ?_
  exact qc (i+1) (j-1) ((o.set i (o.getD j 0)).set j (o.getD i 0)) ⟨J,by simp [cN],azi fv cN J qI hg⟩
 ·refine ax ?_
  have hE:=asY fv cN J hg
  rw [<-hE]
  exact as4 rfl rfl (aW ao _)
namespace aqj
theorem aH {p q:Prop} (k:q) (e:p=q:=by simp only [e1,e2,e3,e4,p1,p2,p3,q1,q2,q3,l1,t0,t1,r1,r2,r3,r4,Nat.zero_add,Nat.reduceMul,Nat.reduceAdd,b1,b2,b3,b4,b5,b6,i1,i2,i3,i4,i5,i6,Nat.reduceBEq,cy,r1r,aP ao,cH,dO,LV.kill,bN];exact rfl):p:=e.mpr k
end aqj
open aqj in
theorem aB0 (p:List Rat) (a b:Rat) (mj:0<p.length) (hl:p.length<=1048576) (ma:∀ x∈p,rl x<=274877906944) (cu:rl a+rl b<=1073741824) (g1:1-a≠0->HS p a/\HS (lD p a) ((b-a)/(1-a))) (g2:1-a=0->b≠0->HS p b/\HS (nZ p b) (1/b)):av Tryz.prog 94 [.list 3 (p.map ae),ae a,ae b] (.list 3 ((ua p a b).map ae)):=by
 have ib:=iq 1 a
 have nv:=iq b a
 have zd:rl 1=1:=rfl
 refine aN Tryz.func94 ?_
 refine bq ?_
 refine cp aK (uk 1 ai ai) ?_
 refine bq ?_
 refine cp aq (p6 1 a J) ?_
 refine aR ?_
 refine cp aK (uW (1-a) J) ?_
 refine aJ ?_
 refine aC rfl ?_ ?_<;>intro o7 rv
 ·have aQ:1-a≠0:=apW rv
  obtain⟨gA,gB⟩:=g1 aQ
  have hE:ua p a b=nZ (lD p a) ((b-a)/(1-a)):=by rw [ua,if_pos aQ]
  refine ax ?_
  refine cp aq (acK p a gA) ?_
  refine bf ?_
  refine aY 12 an ?_
  refine aJ ?_
  refine cp aq (p6 b a J) ?_
  refine ar ?_
  refine cp aq (ajg (b-a) (1-a) J) ?_
  refine cp aq (acK (lD p a) ((b-a)/(1-a)) gB) ?_
  refine gy ?_
  rw [hE]
  exact dC
 ·have aQ:1-a=0:=ah1 J
  refine az ?_
  refine cp aK (uW b J) ?_
  refine aJ ?_
  refine aC rfl ?_ ?_<;>intro ar5 h44
  ·have xx:b≠0:=apW h44
   obtain⟨gA,gB⟩:=g2 aQ xx
   have hE:ua p a b=lD (nZ p b) (1/b):=by rw [ua,if_neg (by rw [aQ];simp),if_pos xx]
   refine ax ?_
   refine cp aq (acK p b gA) ?_
   refine bu ?_
   refine cp aq (ajg 1 b J) ?_
   refine cp aq (acK (nZ p b) (1/b) gB) ?_
   refine gy ?_
   rw [hE]
   exact dC
  ·have xx:b=0:=ah1 J
   have hE:ua p a b=p.reverse:=by rw [ua,if_neg (by rw [aQ];simp),if_neg (by rw [xx];simp)]
   refine aZ ?_
   refine yD [] rfl rfl (.cons (.pure (eB ao _ _)) .nil) (agM p hl ma) (aW ao _) rfl ?_
   refine az ?_
   refine vy 1000977 rfl rfl rfl (aW ao _) (.cons .ref .nil) (.ref mj) (aCW p p.length rfl mj hl) rfl (aW ao _) ?_
   refine bq ?_
   rw [hE]
   exact mL [1000977] rfl rfl (eM ao rfl rfl aO)
def lin (α β:Rat):Rat->List Rat->List Rat
 | c,[]=>[β*c]
 | c,x :: l=>(β*c+α*x) :: lin α β x l
inductive KS:Nat->List Rat->Prop
 | z {s:Int} {l:List Rat}:l≠[]->s=1\/s=-1->(∀ x∈l,cM x=s)->KS 0 l
 | r {n:Nat} {l:List Rat} {a b:Rat}:KS n l->0<a->0<b->KS (n+1) (lin (-a) b 0 l)
theorem aaC {a b:Rat}:fi a b<0↔a<b:=by
 unfold fi;split
 ·simp [*]
 ·split<;>simp [*]
theorem ajm {P:Program} {L:St} {a u:Nat} {T U:TypeId} {b c sz sy:Nat} {x y x' y':LV} {m m':Bool} {n n':Nat} {ag ag':Bool} (bs:List Nat) (h0:bs.contains 0=false) (h:L.slot a=.aA b sz 0 0) (hb:L.heap b=some ⟨sz,[x],m⟩)
  (hx:x.au=sz) (bW:x.at 0 n ag=some x) (hT:bp P T n ag) (hi:cG (L.bR bs).heap x y) (h':L.slot u=.aA c sy 0 0) (hc:L.heap c=some ⟨sy,[x'],m'⟩)
  (hx':x'.au=sy) (ajF:x'.at 0 n' ag'=some x') (hT':bp P U n' ag') (lT:cG (L.bR bs).heap x' y'):nt P [.cell a T,.cell u U] L (.a7 [y,y']) [] :=
 ⟨[x,x'],[y,y'],(L.bR bs).heap,[],.cons ⟨b,sz,0,0,_,x,n,ag,h,hb,rfl,rfl,hx,bW,hT⟩ (.cons ⟨c,sy,0,0,_,x',n',ag',h',hc,rfl,rfl,hx',ajF,hT'⟩ .nil),pv bs h0,.cons (.cf hi) (.cons (.cf lT) .nil),List.nodup_nil,rfl,fun k b h=>by simp at h,rfl⟩
section
variable {P:Program} {H:bK} {ρ:Operand->LV} {T E:TypeId}
end
theorem awg (po:List aF) (i:Nat):(po.map (·.p)).getD i default=(po.getD i default).p:=by
 rw [List.getD_eq_getElem?_getD,List.getD_eq_getElem?_getD,List.getElem?_map]
 cases po[i]?<;>rfl
def abv {α:Type} (pr:α->Bool) (l:List α):Int:=if l.any pr then(l.findIdx pr:Nat) else -1
theorem abR {α:Type} [Inhabited α] {pr:α->Bool} {l:List α} {i:Nat} (hi:i<l.length) (h0:∀ j,j<i->pr (l.getD j default)=false) (h:pr (l.getD i default)=true):abv pr l=(i:Int):=by
 have hg:∀ j (hj:j<l.length),l.getD j default=l[j]:=fun j hj=>by rw [List.getD_eq_getElem?_getD,List.getElem?_eq_getElem hj];rfl
 have e:l.findIdx pr=i:=by
  rw [List.findIdx_eq hi]
  refine⟨by rw [<-hg i hi];exact h,fun j hj=>?_⟩
  rw [<-hg j J];exact h0 j hj
 have ha:l.any pr=true:=List.any_eq_true.2 ⟨l[i],List.getElem_mem hi,by rw [<-hg i hi];exact h⟩
 unfold abv
 rw [if_pos ha,e]
theorem aB7 {α:Type} [Inhabited α] {pr:α->Bool} {l:List α} (h0:∀ j,j<l.length->pr (l.getD j default)=false):abv pr l=-1:=by
 have ha:l.any pr=false:=by
  rw [List.any_eq_false]
  intro x hx
  obtain⟨i,hi,rfl⟩:=List.mem_iff_getElem.1 hx
  have:=h0 i hi
  rw [List.getD_eq_getElem?_getD,List.getElem?_eq_getElem hi] at this
  simpa using this
 unfold abv
 rw [if_neg (by rw [ha];decide)]
theorem anJ {α:Type} [Inhabited α] {l:List α} {i:Nat} (h:i<l.length):l.getD i default∈l:=by
 rw [List.getD_eq_getElem?_getD,List.getElem?_eq_getElem h];exact List.getElem_mem h
theorem aol {a b:Nat} (h:al a=al b):a=b:=by rw [<-bU a,h,bU]
section
variable {a b:Rat}
theorem asd (h2:decide (al a.num.natAbs=al b.num.natAbs)=false):false=decide (a=b):=by
 symm;rw [decide_eq_false_iff_not];rintro rfl;simp at h2
theorem aw7 (h:(decide (a<0)==decide (b<0))=true) (h2:decide (al a.num.natAbs=al b.num.natAbs)=true):decide (al (iG a)=al (iG b))=decide (a=b):=by
 rw [decide_eq_decide,age]
 exact⟨fun h3=>⟨eq_of_beq h,aol (of_decide_eq_true h2),aol h3⟩,fun h3=>by rw [h3.2.2]⟩
end
def fk (k:List Rat) (t:Rat):Nat->Nat
 | 0=>0
 | i+1=>fk k t i+(if k.getD i 0=t then 1 else 0)
theorem ace (k:List Rat) (t:Rat):∀ i,fk k t i<=i
 | 0=>Nat.le_refl _
 | i+1=>by have:=ace k t i;rw [fk];split<;>omega
def cT (k:List Rat):Nat->List Rat
 | 0=>[]
 | i+1=>if i=0\/k.getD i 0≠k.getD (i-1) 0 then cT k i++[k.getD i 0] else cT k i
theorem akL (k:List Rat):∀ i,(cT k i).length<=i
 | 0=>Nat.le_refl _
 | i+1=>by
  have:=akL k i
  rw [cT];split
  ·simp;omega
  ·omega
theorem agq (k:List Rat):∀ i,i<=k.length->∀ x∈cT k i,x∈k
 | 0,_,x,h=>by cases h
 | i+1,hi,x,h=>by
  rw [cT] at h
  split at h
  ·rcases List.mem_append.1 h with h | h
   ·exact agq k i J x h
   ·rw [List.mem_singleton.1 h];exact dg J
  ·exact agq k i J x h
structure yr (k:List Rat) (d:Nat):Prop where
 d1:1<=d
 d6:d<=6
 len:2*d+2<=k.length
 max:k.length<=d+41
 yX:∀ i,i+1<k.length->k.getD i 0<=k.getD (i+1) 0
 ne:k.getD 0 0≠k.getD (k.length-1) 0
 auS:∀ t∈k,(t=k.getD 0 0\/t=k.getD (k.length-1) 0)->fk k t k.length=d+1
 ink:∀ t∈k,t≠k.getD 0 0->t≠k.getD (k.length-1) 0->fk k t k.length<=d
 sz:∀ x∈k,rl x<=64
theorem aeU {k:List Rat}:∀ i,i<=k.length->(∀ j,1<=j->j<i->k.getD j 0≠k.getD (j-1) 0)->cT k i=k.take i
 | 0,_,_=>rfl
 | i+1,hi,h=>by
  rw [cT,aeU i J (fun j h1 h2=>h j h1 J),if_pos (by
   by_cases e:i=0
   ·exact .inl e
   ·exact .inr (h i J J)),List.take_add_one,List.getD_eq_getElem?_getD,List.getElem?_eq_getElem J];rfl
theorem aeH {k:List Rat} {i:Nat} (h0:0<i) (h:k.getD i 0≠k.getD (i-1) 0):cT k (i+1)=cT k i++[k.getD i 0]:=by rw [cT,if_pos (.inr h)]
theorem abx {k:List Rat} {i:Nat} (h0:0<i) (h:k.getD i 0=k.getD (i-1) 0):cT k (i+1)=cT k i:=by rw [cT,if_neg (fun e=>e.elim (fun e=>by omega) (fun e=>e h))]
theorem awF {w:List Rat} {m n:Nat} (hm:m<=n) (hw:w.length=n):(w.map ae).take m++List.replicate (n-m) (ae 0)++(w.map ae).drop (m+(n-m))=(w.take m++List.replicate (n-m) 0).map ae:=by
 rw [List.drop_of_length_le bm]
 simp [List.map_take]
theorem zC {l:List Rat} {k:Nat} (h:k<l.length):l.take k++[l.getD k 0]=l.take (k+1):=by
 rw [List.take_add_one,List.getElem?_eq_getElem h,List.getD_eq_getElem?_getD,List.getElem?_eq_getElem h];rfl
theorem avE {α:Type} {e:α->LV} {ag:Bool} {bs:List Nat} {L:St} {b sz len:Nat} {l m:List α} {t:Bool} (he:gE e sz ag) (hb:L.heap b=some ⟨sz,(l++m).map e,t⟩) (px:bs.contains b=true) (hl:len=l.length):cG (L.bR bs).heap (.ref b sz 0 len) (.list sz (l.map e)):=by
 have:=acj (off:=0) (len:=len) hb px (aW he _) bm
 subst hl
 rwa [List.drop_zero,<-List.map_take,List.take_left] at this
open H0 in
theorem v7 (a b:Rat) (h:rl a+rl b<=1099511627776):av Tryz.prog 156 [ae a,ae b] (bL (decide (a=b))):=by
 have a1:=kY a
 have a3:=lK a
 have c1:=kY b
 have c3:=lK b
 refine aN Tryz.func156 ?_
 refine gy ?_
 refine dy 10 rfl ?_ ?_<;>intro l8 rC
 ·refine ax ?_
  refine cp aq (aeT _ _ J J) ?_
  refine aL ?_
  refine dy 17 rfl ?_ ?_<;>intro abb yU
  ·refine ax ?_
   refine cp aq (aeT _ _ J J) ?_
   refine aZ ?_
   rw [<-aw7 l8 abb]
   exact dC
  ·refine bB ?_
   rw [<-asd abb]
   exact dC
 ·refine im ?_
  rw [<-anw l8]
  exact dC
namespace als
theorem aH {p q:Prop} (k:q) (e:p=q:=by simp only [e1,e2,e3,e4,p1,p2,p3,q1,q2,q3,l1,t0,t1,r1,r2,r3,r4,Nat.zero_add,Nat.reduceMul,Nat.reduceAdd,b1,b2,b3,b4,b5,b6,i1,i2,i3,i4,i5,i6,Nat.reduceBEq,cy,ji,va,List.set_cons_zero,List.set_cons_succ,Nat.reduceEqDiff,reduceIte,if_true,if_false,dU,eo,aP bg,aP bw,aP ao,cH,dO,LV.kill,bN];exact rfl):p:=e.mpr k
end als
open als in
theorem avk (f:Nat) (k:List Rat) (h0:0<k.length) (hl:k.length<=1048576) (hs:∀ i,i+1<k.length->k.getD i 0<=k.getD (i+1) 0) (hf:∀ x∈k,∀ y∈k,av Tryz.prog f [ae x,ae y] (iL (fi x y))):av Tryz.prog 239 [.list 3 (k.map ae),.cV f []] (bL true):=by
 refine aN Tryz.func239 ?_
 have ji:True:=trivial
 have va:True:=trivial
 refine bB ?_
 refine ak rfl jz ?_
 refine ax ?_
 refine dG (fun(i:Nat) L=>((((St.mk L.slot (hp [])).put (some 0) (.list 3 (k.map ae))).put (some 1) (.cV f [])).put (some 5) (ah i))) (fun i=>i<k.length) (fun i=>i) (k.length-1) J ?_
 rintro i L1 hi
 refine aR ?_
 refine aC rfl ?_ ?_<;>intro l8 rC
 ·have dA:0<i:=by omega
  have ji:((i:Int)-1).toNat=i-1:=by omega
  have va:((i:Int)).toNat=i:=by omega
  have hc:=hf _ (dg (p:=k) (i:=i) hi) _ (dg (p:=k) (i:=i-1) J)
  have jd:=hs (i-1) J
  rw [Nat.sub_add_cancel J] at jd
  have hcg:0<=fi (k.getD i 0) (k.getD (i-1) 0):=sG.2 jd
  refine aZ ?_
  refine aY 12 an ?_
  refine aR ?_
  refine ak rfl jz ?_
  refine aL ?_
  refine mG [] rfl rfl (.cV (f:=f) (cap:=[]) (args:=[ae (k.getD i 0),ae (k.getD (i-1) 0)]) rfl (.cons eJ (.cons eJ .nil)) ⟨rfl,fun _ h=>by cases h⟩ hc.1 ai (fun _ h=>by cases h)) (hc.2 _) ?_
  refine aJ ?_
  refine aC rfl ?_ ?_<;>intro o7 rv
  ·omega
  ·refine aZ ?_
   refine ak rfl jz ?_
   refine aJ ?_
   exact iJ (i-1) J
 ·refine bo ?_
  exact mF
namespace agA
theorem aH {p q:Prop} (k:q) (e:p=q:=by simp only [e1,e2,e3,e4,p1,p2,p3,q1,q2,q3,l1,t0,t1,r1,r2,r3,r4,Nat.zero_add,Nat.reduceMul,Nat.reduceAdd,b1,b2,b3,b4,b5,b6,i1,i2,i3,i4,i5,i6,Nat.reduceBEq,cy,List.set_cons_zero,List.set_cons_succ,Nat.reduceEqDiff,reduceIte,if_true,if_false,dU,eo,aP bg,aP bw,aP ao,cH,dO,LV.kill,bN];exact rfl):p:=e.mpr k
end agA
open agA in
theorem agk (k:List Rat) (hl:k.length<=1048576) (hr:∀ x∈k,rl x<=549755813888) (t:Rat) (ht:rl t<=549755813888):av Tryz.prog 158 [.list 3 (k.map ae),ae t] (ah (fk k t k.length)):=by
 refine aN Tryz.func158 ?_
 refine nj ?_
 refine dG (fun(i:Nat) L=>((((((St.mk L.slot (hp [(3,⟨3,[ae t],true⟩)])).put (some 3) (.aA 3 3 0 0)).put (some 5) (ah (fk k t i))).put (some 8) (.list 3 (k.map ae))).put (some 9) (ah k.length)).put (some 10) (ah i))) (fun i=>i<=k.length) (fun i=>k.length-i) 0 (Nat.zero_le _) ?_
 rintro i L1 hi
 refine az ?_
 refine aC rfl ?_ ?_<;>intro aey zi
 ·have dA:i<k.length:=by omega
  have hx:=hr _ (dg (i:=i) J)
  have yY:=ace k t i
  refine mH ?_
  refine cp aq (v7 (k.getD i 0) t J) ?_
  refine aL ?_
  refine aC rfl ?_ ?_<;>intro yH uA
  ·have hT:fk k t (i+1)=fk k t i+1:=by rw [fk,if_pos uA]
   refine aL ?_
   refine ak rfl cB ?_
   refine ax ?_
   refine cq (aw.kill _ 7) ?_
   refine ak rfl cB ?_
   refine aJ ?_
   exact jS
  ·have hT:fk k t (i+1)=fk k t i:=by rw [fk,if_neg uA];rfl
   refine aJ ?_
   refine cq (aw.kill _ 7) ?_
   refine ak rfl cB ?_
   refine aJ ?_
   exact jS
 ·obtain rfl:i=k.length:=by omega
  refine bu ?_
  exact mF
namespace ap0
theorem aH {p q:Prop} (k:q) (e:p=q:=by simp only [e1,e2,e3,e4,p1,p2,p3,q1,q2,q3,l1,t0,t1,r1,r2,r3,r4,Nat.zero_add,Nat.reduceMul,Nat.reduceAdd,b1,b2,b3,b4,b5,b6,i1,i2,i3,i4,i5,i6,Nat.reduceBEq,cy,ji,va,eik,eia,tF,eyl,ewa,ewb,Nat.zero_add,Nat.add_zero,List.length_set,List.length_map,List.set_cons_zero,List.set_cons_succ,Nat.reduceEqDiff,reduceIte,if_true,if_false,dU,eo,aP bg,aP bw,aP ao,cH,dO,LV.kill,bN];exact rfl):p:=e.mpr k
end ap0
open ap0 in
theorem aub (f:Nat) (l:List Rat) (h0:0<l.length) (hl:l.length<=1048576) (hf:∀ x∈l,∀ y∈l,av Tryz.prog f [ae x,ae y] (bL (decide (x=y)))):lH Tryz.prog 154 ⟨3,l.map ae,true⟩ [.ref 0 3 0 l.length,.cV f []] (.ref 0 3 0 (cT l l.length).length) ⟨3,((cT l l.length)++List.replicate (l.length-(cT l l.length).length) 0).map ae,true⟩:=by
 refine ud Tryz.func154 ?_
 have ji:True:=trivial
 have va:True:=trivial
 have eik:True:=trivial
 have eia:True:=trivial
 have tF:True:=trivial
 have eyl:True:=trivial
 have ewa:True:=trivial
 have ewb:True:=trivial
 refine dp ?_
 refine aC rfl ?_ ?_<;>intro l8 rC
 ·obtain aDn:l.length=1:=by omega
  have hE:(cT l l.length)=l:=by rw [aeU _ (Nat.le_refl _) (fun j h1 h2=>by omega),List.take_length]
  refine bf ?_
  first | (rw [hE,Nat.sub_self,List.replicate_zero,List.append_nil];exact sw rfl .ref rfl rfl (aW ao _)) | (exact sw rfl .ref (by first | rfl | (simp;done)) rfl (aW ao _))
 ·refine bq ?_
  refine dG (fun(i:Nat) L=>((((St.mk L.slot (hp [(0,⟨3,l.map ae,true⟩)])).put (some 0) (.ref 0 3 0 l.length)).put (some 1) (.cV f [])).put (some 5) (ah i))) (fun i=>1<=i/\i<=l.length/\∀ j,1<=j->j<i->l.getD j 0≠l.getD (j-1) 0) (fun i=>l.length-i) 1 ⟨Nat.le_refl _,J,fun j h1 h2=>by omega⟩ ?_
  rintro i L1 ⟨qx,hil,aQ⟩
  refine bq ?_
  refine aC rfl ?_ ?_<;>intro nH lJ
  ·have dA:i<l.length:=by omega
   have ji:((i:Int)-1).toNat=i-1:=by omega
   have va:((i:Int)).toNat=i:=by omega
   have hc:=hf _ (dg (p:=l) (i:=i) dA) _ (dg (p:=l) (i:=i-1) J)
   refine aZ ?_
   refine aY 11 an ?_
   refine aR ?_
   refine ak rfl jz ?_
   refine aL ?_
   try simp only [t1,cy,ji,va,Nat.zero_add]
   refine mG [] rfl rfl (.cV (f:=f) (cap:=[]) (args:=[ae (l.getD i 0),ae (l.getD (i-1) 0)]) rfl (.cons eJ (.cons eJ .nil)) ⟨rfl,fun _ h=>by cases h⟩ hc.1 ai (fun _ h=>by cases h)) (hc.2 _) ?_
   refine aL ?_
   refine aC rfl ?_ ?_<;>intro uJ ow
   ·have hdi:cT l (i+1)=cT l i:=abx J ow
    have jr:cT l i=l.take i:=aeU i hil aQ
    have hln:(l.take i).length=i:=by rw [List.length_take];omega
    have cQ:1<=1/\i+1<=l.length/\l.length=l.length/\(cT l (i+1)).length+1<=i+1/\l.take (cT l (i+1)).length=cT l (i+1)/\∀ x,i+1-1<=x->l.getD x 0=l.getD x 0:=⟨Nat.le_refl _,J,rfl,by rw [hdi,jr,hln];omega,by rw [hdi,jr,hln],fun _ _=>rfl⟩
    have eia:(cT l (i+1)).length=i:=by rw [hdi,jr,hln]
    refine ax ?_
    refine ak rfl (.th (a:=i) (h:=l.length) rfl Tryz.underlying25 cJ (fun y hy=>by cases hy;exact⟨_,rfl⟩) (fun h=>by cases h) (fun y hy=>by cases hy) (fun _=>rfl) om om om) ?_
    refine bB ?_
    refine jL (fun(j:Nat) (w:List Rat) L=>((((((St.mk L.slot (hp [(0,⟨3,w.map ae,true⟩)])).put (some 0) (.ref 0 3 0 l.length)).put (some 1) (.cV f [])).put (some 5) (ah (cT l (i+j)).length)).put (some 6) (.ref 0 3 i (l.length-i))).put (some 7) (ah j))) (fun j w=>1<=j/\i+j<=l.length/\w.length=l.length/\(cT l (i+j)).length+1<=i+j/\w.take (cT l (i+j)).length=(cT l (i+j))/\∀ x,i+j-1<=x->w.getD x 0=l.getD x 0) (fun j w=>l.length-(i+j)) 1 l cQ ?_
    rintro j w L2 ⟨hj1,qI,gO,kX,jt,hwx⟩
    refine bq ?_
    refine aC rfl ?_ ?_<;>intro xf vR
    ·have hi3:i+j<l.length:=by omega
     have ewa:w.getD (i+j) 0=l.getD (i+j) 0:=hwx _ J
     have ewb:w.getD (i+(j-1)) 0=l.getD (i+j-1) 0:=by rw [show i+(j-1)=i+j-1 by omega];exact hwx _ J
     have eik:((j:Int)-1).toNat=j-1:=by omega
     have hc:=hf _ (dg (p:=l) (i:=i+j) hi3) _ (dg (p:=l) (i:=i+j-1) J)
     have tD:(cT l (i+j)).length<l.length:=by omega
     refine aZ ?_
     refine aY 12 an ?_
     refine aR ?_
     refine ak rfl jz ?_
     refine aL ?_
     try simp only [t1,cy,eik,ewa,ewb]
     refine mG [] rfl rfl (.cV (f:=f) (cap:=[]) (args:=[ae (l.getD (i+j) 0),ae (l.getD (i+j-1) 0)]) rfl (.cons eJ (.cons eJ .nil)) ⟨rfl,fun _ h=>by cases h⟩ hc.1 ai (fun _ h=>by cases h)) (hc.2 _) ?_
     refine aJ ?_
     refine aC rfl ?_ ?_<;>intro ym h49
     ·have hy:=aeH (k:=l) (i:=i+j) J h49
      have eyl:(cT l (i+(j+1))).length=(cT l (i+j)).length+1:=by rw [<-Nat.add_assoc,hy];simp
      have w9:(cT l (i+j+1)).length=(cT l (i+j)).length+1:=by rw [hy];simp
      have hnA:1<=j+1/\i+(j+1)<=l.length/\(w.set (cT l (i+j)).length (l.getD (i+j) 0)).length=l.length/\(cT l (i+(j+1))).length+1<=i+(j+1)/\(w.set (cT l (i+j)).length (l.getD (i+j) 0)).take (cT l (i+(j+1))).length=cT l (i+(j+1))/\∀ x,i+(j+1)-1<=x->(w.set (cT l (i+j)).length (l.getD (i+j) 0)).getD x 0=l.getD x 0:=⟨J,J,by simp [gO],by rw [<-Nat.add_assoc,w9];omega,by rw [<-Nat.add_assoc,w9,hy,List.take_add_one,List.take_set_of_le (Nat.le_refl _),jt,List.getElem?_set_self J];rfl,fun x hx=>by rw [xO _ _ _ _ J,if_neg J];exact hwx x J⟩
      refine bq ?_
      try simp only [t1,cy,ewa,Nat.zero_add]
      refine aZ ?_
      refine ak rfl cB ?_
      refine az ?_
      refine ak rfl cB ?_
      refine aJ ?_
      exact fU (j+1) (w.set (cT l (i+j)).length (l.getD (i+j) 0)) hnA
     ·have hy:=abx (k:=l) (i:=i+j) J h49
      have eyl:(cT l (i+(j+1))).length=(cT l (i+j)).length:=by rw [<-Nat.add_assoc,hy]
      have hnB:1<=j+1/\i+(j+1)<=l.length/\w.length=l.length/\(cT l (i+(j+1))).length+1<=i+(j+1)/\w.take (cT l (i+(j+1))).length=cT l (i+(j+1))/\∀ x,i+(j+1)-1<=x->w.getD x 0=l.getD x 0:=⟨J,J,gO,by rw [<-Nat.add_assoc,hy];omega,by rw [<-Nat.add_assoc,hy];exact jt,fun x hx=>hwx x J⟩
      refine aZ ?_
      refine ak rfl cB ?_
      refine aJ ?_
      exact fU (j+1) w hnB
    ·obtain rfl:j=l.length-i:=by omega
     have eia:i+(l.length-i)=l.length:=by omega
     have fH:=kX
     rw [eia] at kX jt
     have tF:=awF (w:=w) (m:=(cT l l.length).length) (n:=l.length) J gO
     rw [jt] at tF
     refine bq ?_
     refine ak rfl (.th (a:=(cT l (i+(l.length-i))).length) (h:=l.length) rfl Tryz.underlying25 cJ (fun y hy=>by cases hy;exact⟨_,rfl⟩) (fun h=>by cases h) (fun y hy=>by cases hy) (fun _=>rfl) om om om) ?_
     refine bI rfl (.clr (n:=l.length-(cT l (i+(l.length-i))).length) (off:=0+(cT l (i+(l.length-i))).length) (z:=ae 0) (blk:=⟨3,w.map ae,true⟩) rfl rfl rfl rfl ky Tryz.underlying25 (oa ▸ jY) (ao.au 0)) ?_
     refine az ?_
     refine ak rfl (.adV rfl Tryz.underlying25 cJ rfl om om) ?_
     refine bq ?_
     first | (rw [hE,Nat.sub_self,List.replicate_zero,List.append_nil];exact sw rfl .ref rfl rfl (aW ao _)) | (exact sw rfl .ref (by first | rfl | (simp;done)) rfl (aW ao _))
   ·have hnx:∀ j,1<=j->j<i+1->l.getD j 0≠l.getD (j-1) 0:=fun j h1 h2=>by
     rcases Nat.lt_succ_iff_lt_or_eq.1 h2 with e | rfl
     ·exact aQ j h1 e
     ·exact ow
    refine aZ ?_
    refine ak rfl cB ?_
    refine aJ ?_
    exact iJ (i+1) ⟨J,J,hnx⟩
  ·obtain rfl:i=l.length:=by omega
   have hE:(cT l l.length)=l:=by rw [aeU _ (Nat.le_refl _) aQ,List.take_length]
   refine bu ?_
   first | (rw [hE,Nat.sub_self,List.replicate_zero,List.append_nil];exact sw rfl .ref rfl rfl (aW ao _)) | (exact sw rfl .ref (by first | rfl | (simp;done)) rfl (aW ao _))
namespace ahP
theorem aH {p q:Prop} (k:q) (e:p=q:=by simp only [e1,e2,e3,e4,p1,p2,p3,q1,q2,q3,l1,t0,t1,r1,r2,r3,r4,Nat.zero_add,Nat.reduceMul,Nat.reduceAdd,b1,b2,b3,b4,b5,b6,i1,i2,i3,i4,i5,i6,Nat.reduceBEq,cy,Rat.add_zero,gr,fB,Nat.zero_add,kW,kJ,iA,List.length_cons,List.length_nil,List.nil_append,List.map_nil,List.take_nil,List.append_nil,List.set_cons_zero,List.set_cons_succ,Nat.reduceEqDiff,reduceIte,if_true,if_false,dU,eo,aP bg,aP bw,aP ao,cH,dO,LV.kill,bN];exact rfl):p:=e.mpr k
end ahP
open ahP in
theorem aop (p:List Rat) (hl:p.length<=1048576) (ma:∀ x∈p,rl x<=274877906944):nk Tryz.prog 155 [.list 3 (p.map ae)] (.ref 1 3 0 p.length) [⟨3,p.map ae,true⟩]:=by
 refine fnO Tryz.func155 ?_
 have gr:True:=trivial
 have fB:True:=trivial
 refine bq ?_
 refine eI rfl rfl (.kK (n:=0) (m:=p.length) ml ml om om om) ?_
 refine bu ?_
 refine dG (fun(k:Nat) L=>(((((St.mk L.slot (hp [(8,⟨3,(p.take k).map ae,true⟩)])).put (some 3) (.ref 8 3 0 k)).put (some 9) (.list 3 (p.map ae))).put (some 10) (ah p.length)).put (some 11) (ah k))) (fun k=>k<=p.length) (fun k=>p.length-k) 0 (Nat.zero_le _) ?_
 rintro k L1 hk
 refine az ?_
 refine aC rfl ?_ ?_<;>intro aaL h12
 ·have kT:k<p.length:=by omega
  have hrk:=ma _ (dg kT)
  have hA:=iw (p.getD k 0) 0 (by rw [show rl 0=1 from rfl];omega)
  rw [Rat.add_zero] at hA
  have gr:=zC (l:=p) kT
  have fB:((p.take k).map ae).take k=(p.take k).map ae:=List.take_of_length_le wI
  refine gy ?_
  refine ak rfl nQ ?_
  refine cp aq (hA) ?_
  refine ar ?_
  refine bI rfl ap7 ?_
  refine ax ?_
  refine cq ((aw.kill _ 5).trans (aw.kill _ 19)) ?_
  refine ak rfl cB ?_
  refine aJ ?_
  exact iJ (k+1) J
 ·obtain rfl:k=p.length:=by omega
  have hE:p.take p.length=p:=List.take_length
  refine bu ?_
  rw [hE]
  exact acA rfl rfl (aW ao _)
namespace fN
theorem aH {p q:Prop} (k:q) (e:p=q:=by simp only [e1,e2,e3,e4,p1,p2,p3,q1,q2,q3,l1,t0,t1,r1,r2,r3,r4,Nat.zero_add,Nat.reduceMul,Nat.reduceAdd,b1,b2,b3,b4,b5,b6,i1,i2,i3,i4,i5,i6,Nat.reduceBEq,List.set_cons_zero,List.set_cons_succ,Nat.reduceEqDiff,reduceIte,if_true,if_false,dU,eo,aP bg,aP bw,aP ao,cH,dO,LV.kill,bN];exact rfl):p:=e.mpr k
end fN
open fN in
theorem aqR (k:List Rat) (h0:0<k.length) (hl:k.length<=1048576) (hr:∀ x∈k,rl x<=274877906944):av Tryz.prog 84 [.list 3 (k.map ae)] (.list 3 ((cT k k.length).map ae)):=by
 refine aN Tryz.func84 ?_
 refine bf ?_
 refine yD [] rfl rfl (.cons (.pure (eB ao _ _)) .nil) (aop k hl hr) (aW ao _) rfl ?_
 refine vy 1000065 rfl rfl rfl (aW ao _) (.cons .ref (.cons (.cf (.pure rfl)) .nil)) (.ref h0) (aub 156 k h0 hl (fun x hx y hy=>v7 x y (by have:=hr x hx;have:=hr y hy;omega))) rfl (aW ao _) ?_
 refine ax ?_
 exact mL [1000065] rfl rfl (avE ao rfl rfl rfl)
open H0 in
theorem ahs (k:List Rat) (d:Nat) (h:d+1<=k.length) (hl:k.length<=1048576):av Tryz.prog 152 [.list 3 (k.map ae),ah d] (ah (k.length-d-1)):=by
 refine aN Tryz.func152 ?_
 refine bB ?_
 refine ak rfl te ?_
 refine ak rfl te ?_
 refine ax ?_
 refine dB ?_ (.pure rfl)
 simp only [e1,e2,e3,e4,p1,p2,p3,q1,q2,q3,Nat.reduceBEq]
 congr 2
 omega
namespace amY
theorem aH {p q:Prop} (k:q) (e:p=q:=by simp only [e1,e2,e3,e4,p1,p2,p3,q1,q2,q3,l1,t0,t1,r1,r2,r3,r4,Nat.zero_add,Nat.reduceMul,Nat.reduceAdd,b1,b2,b3,b4,b5,b6,i1,i2,i3,i4,i5,i6,Nat.reduceBEq,cy,rW,List.set_cons_zero,List.set_cons_succ,Nat.reduceEqDiff,reduceIte,if_true,if_false,dU,eo,aP bg,aP bw,aP ao,cH,dO,LV.kill,bN];exact rfl):p:=e.mpr k
end amY
open amY in
theorem azZ (k:List Rat) (d:Nat) (h:yr k d):av Tryz.prog 151 [.list 3 (k.map ae),ah d] (iL 0):=by
 have ks:=h.d1
 have hd6:=h.d6
 have hlen:=h.len
 have aDe:=h.max
 have hr:∀ x∈k,rl x<=274877906944:=fun x hx=>Nat.le_trans (h.sz x hx) ai
 have rW:((k.length:Int)-1).toNat=k.length-1:=by omega
 have qC:=h.sz _ (dg (p:=k) (i:=0) J)
 have ib:=h.sz _ (dg (p:=k) (i:=k.length-1) J)
 have hS:av Tryz.prog 239 [.list 3 (k.map ae),.cV 92 []] (bL true):=avk 92 k J J h.yX (fun x hx y hy=>lL x y (by have:=h.sz x hx;have:=h.sz y hy;omega))
 refine aN Tryz.func151 ?_
 refine bo ?_
 refine ak rfl te ?_
 refine ak rfl te ?_
 refine bq ?_
 refine dy 18 rfl ?_ ?_<;>intro rz rp
 ·omega
 ·refine az ?_
  refine aC rfl ?_ ?_<;>intro nH lJ
  ·omega
  ·refine aZ ?_
   refine ak rfl (.bin rfl rfl (afi J J)) ?_
   refine ak rfl v8 ?_
   refine ax ?_
   refine aC rfl ?_ ?_<;>intro ads h22
   ·omega
   ·refine aR ?_
    refine aC rfl ?_ ?_<;>intro aal xq
    ·omega
    ·refine aZ ?_
     refine aY 15 an ?_
     refine ar ?_
     refine cp aq (hS) ?_
     refine bf ?_
     refine ak (a6 (v:=false) rfl rfl (rfl) rfl) (.bin rfl rfl (xD J J)) ?_
     refine aL ?_
     try simp only [t1,cy,rW]
     refine cp aq (v7 (k.getD 0 0) (k.getD (k.length-1) 0) J) ?_
     refine aJ ?_
     refine eE (b:=_) rfl (decide_eq_false h.ne) ?_
     refine az ?_
     refine cp aK (aqR k J J hr) ?_
     refine aZ ?_
     refine dG (fun(i:Nat) L=>((((((St.mk L.slot (hp [])).put (some 0) (.list 3 (k.map ae))).put (some 1) (ah d)).put (some 48) (.list 3 ((cT k k.length).map ae))).put (some 49) (ah (cT k k.length).length)).put (some 50) (ah i))) (fun i=>i<=(cT k k.length).length) (fun i=>(cT k k.length).length-i) 0 (Nat.zero_le _) ?_
     rintro i L1 hi
     refine az ?_
     refine aC rfl ?_ ?_<;>intro aC4 h51
     ·have kX:=akL k k.length
      have dA:i<(cT k k.length).length:=by omega
      have hm:=agq k k.length (Nat.le_refl _) _ (dg dA)
      have hrt:=h.sz _ hm
      have he1:=h.auS _ hm
      have he2:=h.ink _ hm
      refine mH ?_
      refine cp aq (agk k J (fun x hx=>Nat.le_trans (hr x hx) ai) ((cT k k.length).getD i 0) J) ?_
      refine ax ?_
      refine aY 16 an ?_
      refine ax ?_
      refine cp aq (v7 ((cT k k.length).getD i 0) (k.getD 0 0) J) ?_
      refine ar ?_
      refine dy 62 rfl ?_ ?_<;>intro api h62
      ·refine aR ?_
       try simp only [t1,cy,rW]
       refine bo ?_
       refine ak (a6 (v:=true) rfl rfl (rfl) rfl) (.bin rfl rfl (py J J)) ?_
       refine aJ ?_
       refine dy 79 rfl ?_ ?_<;>intro xM h79
       ·have:=he1 (by first | exact .inl h62 | exact .inr h73)
        omega
       ·refine aJ ?_
        refine vA (a6 (v:=false) rfl rfl (sg) rfl) ?_
        refine vA (a6 (v:=false) rfl rfl (sg) rfl) ?_
        refine vA (a6 (v:=false) rfl rfl (sg) rfl) ?_
        refine ak (a6 (v:=false) rfl rfl (xM) rfl) (.oO rfl (sg)) ?_
        refine aR ?_
        refine cq (aw.kill _ 7) ?_
        refine ak rfl cB ?_
        refine aJ ?_
        exact jS
      ·refine ax ?_
       refine ak (a6 (v:=false) rfl rfl (api) rfl) (.bin rfl rfl (xD J J)) ?_
       refine aL ?_
       try simp only [t1,cy,rW]
       refine cp aq (v7 ((cT k k.length).getD i 0) (k.getD (k.length-1) 0) J) ?_
       refine bf ?_
       refine dy 73 rfl ?_ ?_<;>intro aqv h73
       ·refine aL ?_
        refine ak (a6 (v:=true) rfl rfl (aqv) rfl) (.bin rfl rfl (py J J)) ?_
        refine aJ ?_
        refine dy 79 rfl ?_ ?_<;>intro xM h79
        ·have:=he1 (by first | exact .inl h62 | exact .inr h73)
         omega
        ·refine aJ ?_
         refine vA (a6 (v:=false) rfl rfl (sg) rfl) ?_
         refine vA (a6 (v:=false) rfl rfl (sg) rfl) ?_
         refine vA (a6 (v:=false) rfl rfl (sg) rfl) ?_
         refine ak (a6 (v:=false) rfl rfl (xM) rfl) (.oO rfl (sg)) ?_
         refine aR ?_
         refine cq (aw.kill _ 7) ?_
         refine ak rfl cB ?_
         refine aJ ?_
         exact jS
       ·refine bq ?_
        refine ak (a6 (v:=true) rfl rfl (sg) rfl) (.move _) ?_
        refine ak (a6 (v:=true) rfl rfl (sg) rfl) (.move _) ?_
        refine ak (a6 (v:=true) rfl rfl (sg) rfl) (.bin rfl rfl rfl) ?_
        refine ak (a6 (v:=false) rfl rfl (rfl) rfl) (.mM rfl (sg)) ?_
        refine aJ ?_
        refine aC rfl ?_ ?_<;>intro aD1 h87
        ·have:=he2 h62 h73
         omega
        ·refine aJ ?_
         refine cq (aw.kill _ 7) ?_
         refine ak rfl cB ?_
         refine aJ ?_
         exact jS
     ·refine bo ?_
      exact mF
def lj (s:Rat × Rat):Rat × Rat:=if iU s 0=true then(0,fO (s.1*s.1) (s.2*s.2)) else(gg (s.1*s.1) (s.2*s.2),fO (s.1*s.1) (s.2*s.2))
def yk (a b:Rat × Rat):Rat × Rat:=mw (mw (mw (a.1*b.1,a.1*b.1) (a.1*b.2,a.1*b.2)) (a.2*b.1,a.2*b.1)) (a.2*b.2,a.2*b.2)
def rcS (b:Rat × Rat):Rat × Rat:=(gg (1/b.1) (1/b.2),fO (1/b.1) (1/b.2))
def sF (a b:Rat × Rat):Rat × Rat:=yk a (rcS b)
def cZ (R:Nat) (s:Rat × Rat):Prop:=rl s.1<=R/\rl s.2<=R
theorem cZ.le {R S:Nat} {s:Rat × Rat} (h:cZ R s) (k:R<=S):cZ S s:=⟨Nat.le_trans h.1 k,Nat.le_trans h.2 k⟩
theorem agP {a b:Rat} {R:Nat} (ha:rl a<=R) (hb:rl b<=R):rl (gg a b)<=R:=by unfold gg;split<;>assumption
theorem agb {a b:Rat} {R:Nat} (ha:rl a<=R) (hb:rl b<=R):rl (fO a b)<=R:=by unfold fO;split<;>assumption
theorem aaA {R:Nat} {s t:Rat × Rat} (hs:cZ R s) (ht:cZ R t):cZ R (mw s t):=⟨agP hs.1 ht.1,agb hs.2 ht.2⟩
theorem acL {R S:Nat} {a b:Rat × Rat} (ha:cZ R a) (hb:cZ S b):cZ (R+S) (yk a b):=by
 obtain⟨a1,a2⟩:=ha
 obtain⟨b1,b2⟩:=hb
 have h:∀ x y:Rat,rl x<=R->rl y<=S->cZ (R+S) (x*y,x*y):=fun x y hx hy=>by
  have:=cO x y
  exact⟨by show rl (x*y)<=_;omega,by show rl (x*y)<=_;omega⟩
 exact aaA (aaA (aaA (h _ _ a1 b1) (h _ _ a1 b2)) (h _ _ a2 b1)) (h _ _ a2 b2)
theorem al8 {R:Nat} {b:Rat × Rat} (hb:cZ R b):cZ (R+1) (rcS b):=by
 have h:∀ x:Rat,rl x<=R->rl (1/x)<=R+1:=fun x hx=>by
  have:=oT 1 x
  have:rl 1=1:=rfl
  omega
 exact⟨agP (h _ hb.1) (h _ hb.2),agb (h _ hb.1) (h _ hb.2)⟩
theorem aqe {R S:Nat} {a b:Rat × Rat} (ha:cZ R a) (hb:cZ S b):cZ (R+(S+1)) (sF a b):=acL ha (al8 hb)
theorem avC {R:Nat} {s:Rat × Rat} (hs:cZ R s) (hR:1<=R):cZ (2*R) (lj s):=by
 have h1:=cO s.1 s.1
 have h2:=cO s.2 s.2
 have h3:=hs.1
 have h4:=hs.2
 have h0:rl 0=1:=rfl
 unfold lj
 split
 ·exact⟨by show rl 0<=_;omega,agb J J⟩
 ·exact⟨agP J J,agb J J⟩
structure _root_.Go.Lg.oE where
 x:Rat × Rat
 y:Rat × Rat
 z:Rat × Rat
abbrev lM (b:oE):LV:=.agg [aD b.x,aD b.y,aD b.z]
theorem vS:gE lM 18 true:=by
 refine⟨fun b=>?_,fun b=>rfl,fun b=>?_⟩
 ·simp [lM,LV.au,cF,bS.au]
 ·simp [lM,LV.pure,aG,bS.pure]
def nw (R:Nat) (b:oE):Prop:=cZ R b.x/\cZ R b.y/\cZ R b.z
open fN in
theorem ahI (a b:Rat × Rat) (R:Nat) (hR:R<=1000000000) (ha:cZ R a) (hb:cZ R b):av Tryz.prog 188 [aD a,aD b] (aD (yk a b)):=by
 obtain⟨a1,a2⟩:=ha
 obtain⟨y1,y2⟩:=hb
 have m11:=cO a.1 b.1
 have m12:=cO a.1 b.2
 have m21:=cO a.2 b.1
 have m22:=cO a.2 b.2
 have hP:∀ x:Rat,rl x<=2*R->cZ (2*R) (x,x):=fun x hx=>⟨hx,hx⟩
 have c0:=hP (a.1*b.1) J
 have c1:=aaA c0 (hP (a.1*b.2) J)
 have c2:=aaA c1 (hP (a.2*b.1) J)
 obtain⟨d1,d2⟩:=c1
 obtain⟨f1,f2⟩:=c2
 refine aN Tryz.func188 ?_
 refine dp ?_
 refine cp aq (gf a.1 b.1 J) ?_
 refine cp aK (pY (a.1*b.1) J) ?_
 refine aiA ?_
 refine bF ?_
 refine az ?_
 refine bY (b:=_) rfl ai ?_
 refine bo ?_
 refine aY 8 an ?_
 refine aZ ?_
 refine cp aq (gf a.1 b.2 J) ?_
 refine cp aK (pY (a.1*b.2) J) ?_
 refine cp aq (sQ ((a.1*b.1),(a.1*b.1)) ((a.1*b.2),(a.1*b.2)) (by show rl (a.1*b.1)+rl (a.1*b.2)<=_;omega) (by show rl (a.1*b.1)+rl (a.1*b.2)<=_;omega)) ?_
 refine ax ?_
 refine cq (aw.kill _ 7) ?_
 refine ax ?_
 refine bF ?_
 refine az ?_
 refine bY (b:=_) rfl ai ?_
 refine bo ?_
 refine aY 8 an ?_
 refine aZ ?_
 refine cp aq (gf a.2 b.1 J) ?_
 refine cp aK (pY (a.2*b.1) J) ?_
 refine cp aq (sQ (mw ((a.1*b.1),(a.1*b.1)) ((a.1*b.2),(a.1*b.2))) ((a.2*b.1),(a.2*b.1)) (by show _+rl (a.2*b.1)<=_;omega) (by show _+rl (a.2*b.1)<=_;omega)) ?_
 refine ax ?_
 refine cq (aw.kill _ 7) ?_
 refine ax ?_
 refine bF ?_
 refine az ?_
 refine bY (b:=_) rfl ai ?_
 refine bo ?_
 refine aY 8 an ?_
 refine aZ ?_
 refine cp aq (gf a.2 b.2 J) ?_
 refine cp aK (pY (a.2*b.2) J) ?_
 refine cp aq (sQ (mw (mw ((a.1*b.1),(a.1*b.1)) ((a.1*b.2),(a.1*b.2))) ((a.2*b.1),(a.2*b.1))) ((a.2*b.2),(a.2*b.2)) (by show _+rl (a.2*b.2)<=_;omega) (by show _+rl (a.2*b.2)<=_;omega)) ?_
 refine ax ?_
 refine cq (aw.kill _ 7) ?_
 refine ax ?_
 refine bF ?_
 refine az ?_
 refine eE (b:=_) rfl ai ?_
 refine bu ?_
 exact rh
open H0 in
theorem aee (s:Rat × Rat) (x:Rat) (h1:rl s.1+rl x<=549755813888) (h2:rl x+rl s.2<=549755813888):av Tryz.prog 103 [aD s,ae x] (bL (iU s x)):=by
 refine aN Tryz.func103 ?_
 refine bu ?_
 refine cp aq (lL _ _ J) ?_
 refine aL ?_
 refine dy 10 rfl ?_ ?_<;>intro l8 rC
 ·refine aJ ?_
  refine cp aq (lL _ _ J) ?_
  refine az ?_
  rw [<-aoX l8]
  exact dC
 ·refine bB ?_
  rw [<-arR l8]
  exact dC
open fN in
theorem aw6 (s:Rat × Rat) (R:Nat) (hR:R<=1000000000) (ha:cZ R s):av Tryz.prog 183 [aD s] (aD (lj s)):=by
 obtain⟨a1,a2⟩:=ha
 have m1:=cO s.1 s.1
 have m2:=cO s.2 s.2
 have h0:rl 0=1:=rfl
 refine aN Tryz.func183 ?_
 refine aR ?_
 refine aY 12 an ?_
 refine ax ?_
 refine cp aq (gf s.1 s.1 J) ?_
 refine ax ?_
 refine cp aq (gf s.2 s.2 J) ?_
 refine cp aq (zo (s.1*s.1) (s.2*s.2) J) ?_
 refine bf ?_
 refine ak rfl nQ ?_
 refine cp aq (aee s 0 J J) ?_
 refine aL ?_
 refine aC rfl ?_ ?_<;>intro abb yU
 ·have hS:lj s=(0,fO (s.1*s.1) (s.2*s.2)):=if_pos yU
  refine ar ?_
  refine ak rfl nQ ?_
  refine bo ?_
  rw [hS]
  exact rh
 ·have hS:lj s=(gg (s.1*s.1) (s.2*s.2),fO (s.1*s.1) (s.2*s.2)):=if_neg (by rw [yU];decide)
  refine bq ?_
  rw [hS]
  exact rh
open fN in
theorem aaE (a b:Rat × Rat) (R:Nat) (hR:R<=100000000) (ha:cZ R a) (hb:cZ R b) (hz:iU b 0=false):av Tryz.prog 186 [aD a,aD b] (.a7 [aD (sF a b),iL 0]):=by
 have ha2:=ha.le (Nat.le_succ R)
 have hrc:=al8 hb
 obtain⟨y1,y2⟩:=hb
 have h0:rl 0=1:=rfl
 have ib:rl 1=1:=rfl
 have qd1:=oT 1 b.1
 have qd2:=oT 1 b.2
 have r7:av Tryz.prog 107 [iL 1] (ae 1):=uk 1 ai ai
 have oR:=td 1 b.1 J
 have zr:=td 1 b.2 J
 refine aN Tryz.func186 (ht:=(jh (bS.pure _) rfl)) ?_
 refine bu ?_
 refine ak rfl nQ ?_
 refine cp aq (aee b 0 J J) ?_
 refine aL ?_
 refine aC rfl ?_ ?_<;>intro aeu h13
 ·rw [hz] at aeu
  cases aeu
 ·refine ax ?_
  refine cp aK (r7) ?_
  refine bq ?_
  refine cp aq (oR) ?_
  refine dp ?_
  refine cp aq (zr) ?_
  refine bq ?_
  refine aY 5 an ?_
  refine aJ ?_
  refine cp aq (zo (1/b.1) (1/b.2) J) ?_
  refine cp aq (ahI a (rcS b) (R+1) J ha2 hrc) ?_
  refine aZ ?_
  exact sN [] rfl rfl rfl (bS.au _) (yh _) lE (.pure (bS.pure _)) rfl (.pure rfl)
def tW (l:List Int) (k:Nat):V3:=⟨(my l k).1,(my l (my l k).2).1,(my l (my l (my l k).2).2).1⟩
def rJ (l:List Int) (k:Nat):Nat:=(my l (my l (my l k).2).2).2
theorem anO {l:List Int} {k:Nat} (hl:l.length<=500) (hk:k<=500):rJ l k<=500:=adr hl (adr hl (adr hl hk))
def dwV (l:List Int) (k:Nat):Rat:=((1+(dQ l k 3).tmod 3:Int):Rat)
def dpK (l:List Int) (k:Nat):Nat:=bz l (rJ l k)
theorem aiO (l:List Int) (k:Nat):1<=1+(dQ l k 3).tmod 3/\1+(dQ l k 3).tmod 3<=3:=by
 have h:=mZ (l:=l) (k:=k) (n:=3) ai
 rw [Int.tmod_eq_emod_of_nonneg h.1]
 omega
theorem ay9 (l:List Int) (k:Nat):0<dwV l k:=by
 have:=aiO l k
 exact Rat.intCast_pos.2 J
theorem aj2 {l:List Int} {k:Nat} (hl:l.length<=500) (hk:k<=500):dpK l k<=500:=l6 hl (anO hl hk)
def dqK (l:List Int):Nat->Nat->Nat
 | k,0=>k
 | k,c+1=>dqK l (dpK l k) c
theorem ak0 {l:List Int} (hl:l.length<=500):∀ (k c:Nat),k<=500->dqK l k c<=500
 | k,0,h=>h
 | k,c+1,h=>ak0 hl _ c (aj2 hl h)
def kS (l:List Int) (k:Nat):Rat:=((dQ l k 4-2:Int):Rat)
theorem apZ (l:List Int) (k:Nat):rl (kS l k)<=1/\rl (kS l k+1)<=1:=by
 have h:=mZ (l:=l) (k:=k) (n:=4) ai
 refine⟨abN J,?_⟩
 have e:kS l k+1=((dQ l k 4-1:Int):Rat):=by
  unfold kS
  rw [show dQ l k 4-1=(dQ l k 4-2)+1 by omega,Rat.intCast_add];rfl
 rw [e]
 exact abN J
def cD (l:List Int) (k:Nat) (n:Nat):Nat:=(1+dQ l k (n:Int)).toNat
theorem aiX (l:List Int) (k:Nat) {n:Nat} (hn:0<n):1<=cD l k n/\cD l k n<=n/\(cD l k n:Int)=1+dQ l k (n:Int):=by
 have h:=mZ (l:=l) (k:=k) (n:=(n:Int)) J
 unfold cD
 omega
theorem anG {P:Program} {ops:Array Oper} {D:Array Bool} {L:St} {K:St->Prop} {fuel:Nat} (i j k:Nat) (o o2 o3:Oper) (hr:Region.ready .any ops D=[i,j,k]) (ho:ops[i]?=some o) (ho2:ops[j]?=some o2) (ho3:ops[k]?=some o3)
  (h:opsL P false ops [o] L (fun L'=>ic P ops fuel (D.setIfInBounds i true) L' K)) (h2:opsL P false ops [o2] L (fun L'=>ic P ops fuel (D.setIfInBounds j true) L' K)) (h3:opsL P false ops [o3] L (fun L'=>ic P ops fuel (D.setIfInBounds k true) L' K)):ic P ops (fuel+1) D L K:=by
 simp only [opsL] at h h2 h3
 refine⟨fun e=>(by rw [hr] at e;cases e),fun x hx=>?_⟩
 rw [hr] at hx
 simp only [List.mem_cons,List.not_mem_nil,or_false] at hx
 rcases hx with rfl | rfl | rfl
 ·obtain⟨L',h1,h4⟩:=h
  exact⟨o,L',ho,h1,h4⟩
 ·obtain⟨L',h1,h4⟩:=h2
  exact⟨o2,L',ho2,h1,h4⟩
 ·obtain⟨L',h1,h4⟩:=h3
  exact⟨o3,L',ho3,h1,h4⟩
theorem an3 {α:Type} (n:Nat) (t:α):List.replicate n t++[t]=List.replicate (n+1) t:=by
 rw [List.replicate_succ']
section
variable {P:Program} {H:bK} {ρ:Operand->LV} {T:TypeId}
theorem yT {o0 o1:Operand} {p:V3} {r:Rat} [z:ZI P T (.agg [.agg [ae 0,ae 0,ae 0],ae 0])] [s:SI P T [(9,true),(3,true)]] (h0:ρ o0=aS p) (h1:ρ o1=ae r) :
  aB P H ρ (.build T #[(0,o0),(1,o1)]) (aT ⟨p,r⟩):=by
 have:=aB.bd (H:=H) (ρ:=ρ) (ps:=#[(0,o0),(1,o1)]) (z:=z) (s:=s) (by simp [lay,LV.au,cF,ao.au,ao.isAgg,qL]) (by
  intro q hq
  simp only [List.mem_cons,List.not_mem_nil,or_false] at hq
  rcases hq with rfl | rfl
  ·exact⟨_,rfl,by rw [h0];simp [lay,bg.au,LV.au,cF,ao.au];rfl,by rw [h0];exact LV.eF (bg.pure _),by rw [h0];exact LV.dZ (bg.pure _)⟩
  ·exact⟨_,rfl,by rw [h1];simp [lay,ao.au,ao.isAgg],by rw [h1];exact LV.eF (ao.pure _),by rw [h1];exact LV.dZ (ao.pure _)⟩)
 simp only [iD,List.map,List.foldl,List.set,h0,h1] at this
 exact this
end
theorem atz {P:Program} {L:St} {a:Nat} {T:TypeId} {b sz:Nat} {x y:LV} {m:Bool} {n:Nat} {ag:Bool} {blk:a8} (bs:List Nat) (h0:bs.contains 0=false) (h:L.slot a=.aA b sz 0 0) (hb:L.heap b=some ⟨sz,[x],m⟩)
  (hx:x.au=sz) (bW:x.at 0 n ag=some x) (hT:bp P T n ag) (hi:cG (L.bR bs).heap x y) (hc:(L.bR bs).heap 0=some blk) (hm:blk.mt=true) (hp:aG blk.vals=true):u9 P [.cell a T] L y blk :=
 ⟨[x],[y],(L.bR bs).heap,.cons ⟨b,sz,0,0,_,x,n,ag,h,hb,rfl,rfl,hx,bW,hT⟩ .nil,pv bs h0,.cons (.cf hi) .nil,hc,hm,hp,rfl⟩
namespace air
theorem aH {p q:Prop} (k:q) (e:p=q:=by simp only [e1,e2,e3,e4,p1,p2,p3,q1,q2,q3,l1,t0,t1,r1,r2,r3,r4,Nat.zero_add,Nat.reduceMul,Nat.reduceAdd,b1,b2,b3,b4,b5,b6,i1,i2,i3,i4,i5,i6,Nat.reduceBEq,l1,List.set_cons_zero,List.set_cons_succ,Nat.reduceEqDiff,reduceIte,if_true,if_false,dU,eo,aP bw,aP ao,cH,dO,LV.kill,bN,acB];exact rfl):p:=e.mpr k
end air
open air in
theorem awl (l:List Int) (k:Nat) (hl:l.length<=500) (hk:k<=500):lH Tryz.prog 145 ⟨2,[ik l k],true⟩ [.aA 0 2 0 0] (aS (tW l k)) ⟨2,[ik l (rJ l k)],true⟩:=by
 have k1:=adr (l:=l) hl hk
 have k2:=adr (l:=l) hl k1
 refine ud Tryz.func145 ?_
 refine bf ?_
 refine kj 0 rfl rfl rfl (cY l _) (.cons .ptr .nil) .ptr (ahl l k J J) rfl (cY l _) (ao.pure _) ?_
 refine ar ?_
 refine kj 0 rfl rfl rfl (cY l _) (.cons .ptr .nil) .ptr (ahl l (my l k).2 J J) rfl (cY l _) (ao.pure _) ?_
 refine ar ?_
 refine kj 0 rfl rfl rfl (cY l _) (.cons .ptr .nil) .ptr (ahl l (my l (my l k).2).2 J J) rfl (cY l _) (ao.pure _) ?_
 refine aZ ?_
 exact adW rfl rfl cs (dJ cs rfl) ij (.pure pu) rfl rfl (cY l _)
theorem vp {a b:List Rat} {i:Nat} (h:i<a.length):(a++b).getD i 0=a.getD i 0:=by
 rw [List.getD_eq_getElem?_getD,List.getD_eq_getElem?_getD,List.getElem?_append_left h]
theorem vk {a b:List Rat} {i:Nat} (h:a.length<=i):(a++b).getD i 0=b.getD (i-a.length) 0:=by
 rw [List.getD_eq_getElem?_getD,List.getD_eq_getElem?_getD,List.getElem?_append_right h]
theorem rZ {n i:Nat} {T:Rat} (h:i<n):(List.replicate n T).getD i 0=T:=by
 rw [List.getD_eq_getElem?_getD,List.getElem?_eq_getElem lr];simp
theorem akt (a b:List Rat) (t:Rat):∀ i,i<=a.length->fk (a++b) t i=fk a t i
 | 0,_=>rfl
 | i+1,h=>by rw [fk,fk,akt a b t i J,vp J]
theorem aei (a b:List Rat) (t:Rat):∀ i,fk (a++b) t (a.length+i)=fk a t a.length+fk b t i
 | 0=>by rw [Nat.add_zero,akt _ _ _ _ (Nat.le_refl _)];rfl
 | i+1=>by
  rw [<-Nat.add_assoc,fk,aei a b t i,fk,vk J,Nat.add_sub_cancel_left];omega
theorem ab4 (n:Nat) (T t:Rat):∀ i,i<=n->fk (List.replicate n T) t i=if T=t then i else 0
 | 0,_=>by split<;>rfl
 | i+1,h=>by
  rw [fk,ab4 n T t i J,rZ J]
  split<;>rfl
theorem au3 {P:Program} {L:St} {a u v:Nat} {T U:TypeId} {b c sz sy:Nat} {x y x' y' z z':LV} {m m':Bool} {n n':Nat} {ag ag':Bool} (bs:List Nat) (h0:bs.contains 0=false) (h:L.slot a=.aA b sz 0 0) (hb:L.heap b=some ⟨sz,[x],m⟩)
  (hx:x.au=sz) (bW:x.at 0 n ag=some x) (hT:bp P T n ag) (hi:cG (L.bR bs).heap x y) (h':L.slot u=.aA c sy 0 0) (hc:L.heap c=some ⟨sy,[x'],m'⟩)
  (hx':x'.au=sy) (ajF:x'.at 0 n' ag'=some x') (hT':bp P U n' ag') (lT:cG (L.bR bs).heap x' y') (hz:L.slot v=z) (hiz:cG (L.bR bs).heap z z'):nt P [.cell a T,.cell u U,.tmp v] L (.a7 [y,y',z']) [] :=
 ⟨[x,x',z],[y,y',z'],(L.bR bs).heap,[],.cons ⟨b,sz,0,0,_,x,n,ag,h,hb,rfl,rfl,hx,bW,hT⟩ (.cons ⟨c,sy,0,0,_,x',n',ag',h',hc,rfl,rfl,hx',ajF,hT'⟩ (.cons hz .nil)),pv bs h0,.cons (.cf hi) (.cons (.cf lT) (.cons (.cf hiz) .nil)),List.nodup_nil,rfl,fun k b h=>by simp at h,rfl⟩
theorem adS {p:List Rat} {x:Rat} (hl:p.length<=10) (hp:∀ y∈p,rl y<=700000) (hx:rl x<=100000):HS p x:=by
 have h1:=iq 1 x
 have h0:rl 1=1:=rfl
 refine⟨rl (1-x)+rl x+1,Nat.le_refl _,J,fun y hy=>?_⟩
 have h2:=hp y hy
 have h3:2 ^ p.length<=2 ^ 10:=Nat.pow_le_pow_right ai hl
 have h4:(rl y+(rl (1-x)+rl x+1))*2 ^ p.length<=1000000*2 ^ 10:=Nat.mul_le_mul J h3
 omega
open H0 in
theorem agR (s:Rat × Rat) (h:rl s.2+rl s.1<=549755813888):av Tryz.prog 164 [aD s] (ae (s.2-s.1)):=by
 refine aN Tryz.func164 ?_
 refine bu ?_
 refine cp aq (p6 s.2 s.1 h) ?_
 refine ax ?_
 exact fq
section
variable {P:Program} {H:bK} {ρ:Operand->LV} {T E:TypeId}
theorem bdW {o1:Operand} {r:Rat} [z:ZI P T (.agg [.agg [ae 0,ae 0,ae 0],ae 0])] [s:SI P T [(9,true),(3,true)]] (h1:ρ o1=ae r) :
  aB P H ρ (.build T #[(1,o1)]) (aT ⟨⟨0,0,0⟩,r⟩):=by
 have:=aB.bd (H:=H) (ρ:=ρ) (ps:=#[(1,o1)]) (z:=z) (s:=s) (by simp [lay,LV.au,cF,ao.au,ao.isAgg,qL]) (by
  intro q hq
  simp only [List.mem_cons,List.not_mem_nil,or_false] at hq
  subst hq
  exact⟨_,rfl,by rw [h1];simp [lay,ao.au,ao.isAgg],by rw [h1];exact LV.eF (ao.pure _),by rw [h1];exact LV.dZ (ao.pure _)⟩)
 simp only [iD,List.map,List.foldl,List.set,h1] at this
 exact this
theorem ajk {o0 o1:Operand} {a b:Rat} [u:UN P T (.array 3 E)] [t:TI P E 3 true] [z:ZI P T (.agg [ae 0,ae 0,ae 0])] (h0:ρ o0=ae a) (h1:ρ o1=ae b):aB P H ρ (.build T #[(0,o0),(1,o1)]) (aS ⟨a,b,0⟩):=by
 have:=aB.vg (H:=H) (ρ:=ρ) (ps:=#[(0,o0),(1,o1)]) (u:=u) (t:=t) (z:=z) (by simp [lay,ao.au,ao.isAgg]) (by
  intro q hq
  simp only [List.mem_cons,List.not_mem_nil,or_false] at hq
  rcases hq with rfl | rfl
  ·exact aeB
  ·exact⟨_,rfl,by rw [h1];simp [lay,ao.au,ao.isAgg],by rw [h1];exact LV.eF (ao.pure _),by rw [h1];exact LV.dZ (ao.pure _)⟩)
 simp only [iD,List.map,List.foldl,List.set,h0,h1] at this
 exact this
end
open fN in
theorem aAn :av Tryz.prog 73 [iL 0] (aS ⟨1,0,0⟩):=by
 have h1:av Tryz.prog 13 [iL 1] (ae 1):=oQ 1 ai ai
 refine aN Tryz.func73 (ht:=(fun r=>LV.cP r _ (bg.pure _))) ?_
 refine dp ?_
 refine cp aK (h1) ?_
 refine bo ?_
 exact qo
open fN in
theorem avw :av Tryz.prog 73 [iL 1] (aS ⟨0,1,0⟩):=by
 have h1:av Tryz.prog 13 [iL 1] (ae 1):=oQ 1 ai ai
 refine aN Tryz.func73 (ht:=(fun r=>LV.cP r _ (bg.pure _))) ?_
 refine dp ?_
 refine cp aK (h1) ?_
 refine bo ?_
 exact qo
theorem avz {P:Program} {H:bK} {ρ:Operand->LV} {T E:TypeId} [u:UN P T (.array 3 E)] [t:TI P E 3 true] [z:ZI P T (.agg [ae 0,ae 0,ae 0])]:aB P H ρ (.build T #[]) (aS ⟨0,0,0⟩) :=
 aB.vg (H:=H) (ρ:=ρ) (ps:=#[]) (u:=u) (t:=t) (z:=z) (by simp [lay,ao.au,ao.isAgg]) (fun q hq=>by simp at hq)
theorem avI {p:List Rat} (h:0<p.length):(gz p).1<=(gz p).2:=by
 have:=(afe p p.length).1 0 h
 exact Rat.le_trans this.1 this.2
theorem sq_pos {s:Rat × Rat} (h:0<s.1) (h2:s.1<=s.2):lj s=(s.1*s.1,s.2*s.2)/\iU (lj s) 0=false:=by
 have hn:iU s 0=false:=by unfold iU;rw [decide_eq_false cA];rfl
 have hm:s.1*s.1<=s.2*s.2:=Rat.le_trans (Rat.mul_le_mul_of_nonneg_left h2 (Rat.le_of_lt h)) (Rat.mul_le_mul_of_nonneg_right h2 cA)
 have hp:=Rat.mul_pos h h
 have e:lj s=(s.1*s.1,s.2*s.2):=by
  unfold lj
  rw [if_neg (by rw [hn];decide)]
  unfold gg fO
  rw [if_neg cA]
  split
  ·rfl
  ·have:s.1*s.1=s.2*s.2:=by grind
   rw [this]
 refine⟨e,?_⟩
 rw [e]
 unfold iU
 rw [decide_eq_false (by show ¬(s.1*s.1<=0);grind)];rfl
def spK (po:List aF) (k:Nat):Rat × Rat:=yk (sF (gz (fD po k)) (lj (gz (aX po)))) (1,1)
def spd (po:List aF):oE:=⟨spK po 0,spK po 1,spK po 2⟩
section
variable {po:List aF} {d:Nat} (h:mf po d)
include h
end
def km (s:Rat × Rat) (n:Int):Rat:=s.1+nx n*(s.2-s.1)
open fN in
theorem aor (s:Rat × Rat) (n:Int) (R:Nat) (hR:R<=1000000) (hs:cZ R s) (hn:-9223372036854775808<=n/\n<=9223372036854775807):av Tryz.prog 18 [aD s,iL n] (ae (km s n)):=by
 obtain⟨a1,a2⟩:=hs
 have hp:=aqo n
 have m1:=iq s.2 s.1
 have m2:=cO (nx n) (s.2-s.1)
 refine aN Tryz.func18 ?_
 refine aR ?_
 refine aY 11 an ?_
 refine aJ ?_
 refine cp aK (aw0 n hn) ?_
 refine ax ?_
 refine cp aq (xi s.2 s.1 J) ?_
 refine cp aq (rE (nx n) (s.2-s.1) J) ?_
 refine cp aq (nz s.1 (nx n*(s.2-s.1)) J) ?_
 refine ax ?_
 exact fq
def eG (k:List Rat) (at_:Nat) (t:Rat):Nat->Nat->Rat
 | 0,i=>if i=at_ then 1 else 0
 | d+1,i=>if at_<i\/i+(d+1)<at_ then 0 else
   (t-k.getD i 0)/(k.getD (i+(d+1)) 0-k.getD i 0)*eG k at_ t d i+(k.getD (i+(d+1)+1) 0-t)/(k.getD (i+(d+1)+1) 0-k.getD (i+1) 0)*eG k at_ t d (i+1)
theorem aeb {a b c d:Rat} {R:Nat} (ha:rl a<=R) (hb:rl b<=R) (hc:rl c<=R) (hd:rl d<=R):rl (a-b)<=2*R+1/\rl (c-d)<=2*R+1/\rl ((a-b)/(c-d))<=4*R+2:=by
 have h1:=iq a b
 have h2:=iq c d
 have h3:=oT (a-b) (c-d)
 exact⟨J,J,J⟩
theorem adA {k:List Rat} {at_:Nat} {t:Rat} {R:Nat} (hR:3<=R) (hk:∀ x∈k,rl x<=R) (ht:rl t<=R):∀ d i,rl (eG k at_ t d i)<=(10*R)*2 ^ d-(8*R+5)
 | 0,i=>by
  rw [eG];split
  ·show 1<=_;rw [Nat.pow_zero];omega
  ·show 1<=_;rw [Nat.pow_zero];omega
 | d+1,i=>by
  have g:∀ j,rl (k.getD j 0)<=R:=fR J hk
  have a1:=adA (at_:=at_) hR hk ht d i
  have a2:=adA (at_:=at_) hR hk ht d (i+1)
  have p1:=(aeb ht (g i) (g (i+(d+1))) (g i)).2.2
  have p2:=(aeb (g (i+(d+1)+1)) ht (g (i+(d+1)+1)) (g (i+1))).2.2
  have h2:2 ^ (d+1)=2*2 ^ d:=by rw [Nat.pow_succ];omega
  have h1:1<=2 ^ d:=Nat.one_le_two_pow
  have hm:(10*R)*2 ^ (d+1)=2*((10*R)*2 ^ d):=by rw [h2];rw [Nat.mul_left_comm]
  have dY:10*R<=(10*R)*2 ^ d:=Nat.le_mul_of_pos_right _ J
  rw [eG]
  split
  ·show 1<=_;rw [hm];omega
  ·have m1:=cO ((t-k.getD i 0)/(k.getD (i+(d+1)) 0-k.getD i 0)) (eG k at_ t d i)
   have m2:=cO ((k.getD (i+(d+1)+1) 0-t)/(k.getD (i+(d+1)+1) 0-k.getD (i+1) 0)) (eG k at_ t d (i+1))
   have s1:=jx ((t-k.getD i 0)/(k.getD (i+(d+1)) 0-k.getD i 0)*eG k at_ t d i) ((k.getD (i+(d+1)+1) 0-t)/(k.getD (i+(d+1)+1) 0-k.getD (i+1) 0)*eG k at_ t d (i+1))
   rw [hm]
   omega
def mS (po:List aF) (x:Rat):V3:=iZ (1/cL (aX po) x) ⟨cL (bj po 0) x,cL (bj po 1) x,cL (bj po 2) x⟩
theorem aaj {po:List aF} {k i:Nat} (h:i<po.length):(bj po k).getD i 0=(po.getD i default).w*(po.getD i default).p.at k:=by
 unfold bj
 rw [List.getD_eq_getElem?_getD,List.getElem?_map,List.getElem?_eq_getElem h,List.getD_eq_getElem?_getD,List.getElem?_eq_getElem h];rfl
theorem abc {po:List aF} {i:Nat} (h:i<po.length):(aX po).getD i 0=(po.getD i default).w:=by
 unfold aX
 rw [List.getD_eq_getElem?_getD,List.getElem?_map,List.getElem?_eq_getElem h,List.getD_eq_getElem?_getD,List.getElem?_eq_getElem h];rfl
theorem wo {a b c:Nat} (h:a=b+c) (h2:a<=9223372036854775807):dk .sub .i64 (a:Nat) (b:Nat)=some (.int .i64 ((c:Nat):Int)):=by
 rw [xD J J];congr 2;omega
theorem aoi {f:Nat->Rat} {R:Nat} (hR:1<=R):∀ n,(∀ i,i<n->rl (f i)<=R)->rl (sm n f)<=1+n*(R+1)
 | 0,_=>by show 1<=_;omega
 | n+1,h=>by
  have h1:=aoi hR n (fun i hi=>h i J)
  have h2:=h n J
  have h3:=jx (sm n f) (f n)
  rw [sm,Nat.succ_mul];omega
open H0 in
theorem aoa (a b:Rat) (h:rl a+rl b<=1000000):av Tryz.prog 274 [ae a,ae b] (ae (a/b)):=by
 refine aN Tryz.func274 ?_
 refine bo ?_
 refine cp aq (ami a b J) ?_
 refine gy ?_
 exact fq
open agA in
theorem asf (k:List Rat) (at_:Nat) (t:Rat) (hl:k.length<=1000) (bW:at_<=1000) (hk:∀ x∈k,rl x<=1000) (ht:rl t<=1000) (i:Nat):av Tryz.prog 232 [.list 3 (k.map ae),ah i,iL 0,ah at_,ae t] (ae (eG k at_ t 0 i)):=by
 have r7:av Tryz.prog 13 [iL 1] (ae 1):=oQ 1 ai ai
 refine aN Tryz.func232 ?_
 refine dp ?_
 refine aC rfl ?_ ?_<;>intro oI kg
 ·refine bf ?_
  refine aC rfl ?_ ?_<;>intro abb yU
  ·have hV:eG k at_ t 0 i=1:=by rw [eG,if_pos J]
   refine aL ?_
   refine cp aK (r7) ?_
   refine az ?_
   rw [hV]
   exact fq
  ·have hV:eG k at_ t 0 i=0:=by rw [eG,if_neg J]
   refine ax ?_
   refine ak rfl nQ ?_
   refine aZ ?_
   rw [hV]
   exact fq
 ·first | exact absurd oI ai | cases oI | exact absurd rfl kg
namespace aoU
theorem aH {p q:Prop} (k:q) (e:p=q:=by simp only [e1,e2,e3,e4,p1,p2,p3,q1,q2,q3,l1,t0,t1,r1,r2,r3,r4,Nat.zero_add,Nat.reduceMul,Nat.reduceAdd,b1,b2,b3,b4,b5,b6,i1,i2,i3,i4,i5,i6,Nat.reduceBEq,cy,eia,eib,eic,List.set_cons_zero,List.set_cons_succ,Nat.reduceEqDiff,reduceIte,if_true,if_false,dU,eo,aP bg,aP bw,aP ao,cH,dO,LV.kill,bN];exact rfl):p:=e.mpr k
end aoU
open aoU in
theorem aA4 (k:List Rat) (at_:Nat) (t:Rat) (hl:k.length<=1000) (bW:at_<=1000) (hk:∀ x∈k,rl x<=1000) (ht:rl t<=1000) (d:Nat) (hd:d+1<=7) (ih:∀ i,i+d+1<k.length->av Tryz.prog 232 [.list 3 (k.map ae),ah i,ah d,ah at_,ae t] (ae (eG k at_ t d i))) (i:Nat) (hi:i+(d+1)+1<k.length):av Tryz.prog 232 [.list 3 (k.map ae),ah i,ah (d+1),ah at_,ae t] (ae (eG k at_ t (d+1) i)):=by
 have g:∀ j,rl (k.getD j 0)<=1000:=fR ai hk
 have pp1:=aeb ht (g i) (g (i+(d+1))) (g i)
 have pp2:=aeb (g (i+(d+1)+1)) ht (g (i+(d+1)+1)) (g (i+1))
 have nq1:=adA (at_:=at_) ai hk ht d i
 have nq2:=adA (at_:=at_) ai hk ht d (i+1)
 have xc:2 ^ d<=2 ^ 6:=Nat.pow_le_pow_right ai J
 have m1:=cO ((t-k.getD i 0)/(k.getD (i+(d+1)) 0-k.getD i 0)) (eG k at_ t d i)
 have m2:=cO ((k.getD (i+(d+1)+1) 0-t)/(k.getD (i+(d+1)+1) 0-k.getD (i+1) 0)) (eG k at_ t d (i+1))
 have rX:=ih i J
 have kT:=ih (i+1) J
 refine aN Tryz.func232 ?_
 have eia:True:=trivial
 have eib:True:=trivial
 have eic:True:=trivial
 refine dp ?_
 refine aC rfl ?_ ?_<;>intro oI kg
 ·omega
 ·refine bq ?_
  refine dy 23 rfl ?_ ?_<;>intro p7 oS
  ·have hV:eG k at_ t (d+1) i=0:=by rw [eG,if_pos J]
   refine bo ?_
   refine ak rfl nQ ?_
   refine aZ ?_
   rw [hV]
   exact fq
  ·refine aJ ?_
   refine ak (a6 (v:=false) rfl rfl (p7) rfl) (.bin rfl rfl (tp J)) ?_
   refine ax ?_
   refine aC rfl ?_ ?_<;>intro aal xq
   ·have hV:eG k at_ t (d+1) i=0:=by rw [eG,if_pos J]
    refine aL ?_
    refine ak rfl nQ ?_
    refine aZ ?_
    rw [hV]
    exact fq
   ·have hV:eG k at_ t (d+1) i=(t-k.getD i 0)/(k.getD (i+(d+1)) 0-k.getD i 0)*eG k at_ t d i+(k.getD (i+(d+1)+1) 0-t)/(k.getD (i+(d+1)+1) 0-k.getD (i+1) 0)*eG k at_ t d (i+1):=by rw [eG,if_neg J]
    refine aJ ?_
    refine aY 19 an ?_
    refine aZ ?_
    refine cp aq (xi t (k.getD i 0) (by have:=g i;omega)) ?_
    refine aJ ?_
    refine ak rfl wK ?_
    refine az ?_
    refine cp aq (xi (k.getD (i+(d+1)) 0) (k.getD i 0) (by have:=g i;have:=g (i+(d+1));omega)) ?_
    refine cp aq (aoa (t-k.getD i 0) (k.getD (i+(d+1)) 0-k.getD i 0) J) ?_
    refine aZ ?_
    refine aY 24 an ?_
    refine aJ ?_
    refine ak rfl wK ?_
    refine ak rfl cB ?_
    refine aJ ?_
    refine cp aq (xi (k.getD (i+(d+1)+1) 0) t (by have:=g (i+(d+1)+1);omega)) ?_
    refine aJ ?_
    refine ak rfl wK ?_
    refine ak rfl cB ?_
    refine ax ?_
    refine ak rfl cB ?_
    refine aL ?_
    refine cp aq (xi (k.getD (i+(d+1)+1) 0) (k.getD (i+1) 0) (by have:=g (i+1);have:=g (i+(d+1)+1);omega)) ?_
    refine cp aq (aoa (k.getD (i+(d+1)+1) 0-t) (k.getD (i+(d+1)+1) 0-k.getD (i+1) 0) J) ?_
    refine aZ ?_
    refine aY 20 an ?_
    refine ax ?_
    refine ak rfl jz ?_
    refine aL ?_
    refine cp am5 (rX) ?_
    refine cp aq (rE _ (eG k at_ t d i) J) ?_
    refine aJ ?_
    refine ak rfl cB ?_
    refine ar ?_
    refine ak rfl jz ?_
    refine aL ?_
    refine cp am5 (kT) ?_
    refine cp aq (rE _ (eG k at_ t d (i+1)) J) ?_
    refine cp aq (nz _ _ J) ?_
    refine ax ?_
    rw [hV]
    exact fq
theorem ajZ (k:List Rat) (at_:Nat) (t:Rat) (hl:k.length<=1000) (bW:at_<=1000) (hk:∀ x∈k,rl x<=1000) (ht:rl t<=1000):∀ (d:Nat) (hd:d<=7) (i:Nat) (hi:i+d+1<k.length),av Tryz.prog 232 [.list 3 (k.map ae),ah i,ah d,ah at_,ae t] (ae (eG k at_ t d i))
 | 0,_,i,_=>asf k at_ t hl bW hk ht i
 | d+1,hd,i,hi=>aA4 k at_ t hl bW hk ht d hd (fun i hi=>ajZ k at_ t hl bW hk ht d J i hi) i J
def jP (l:List V3) (k:Nat):Nat->Rat × Rat
 | 0=>((l.getD 0 default).at k,(l.getD 0 default).at k)
 | j+1=>mw (jP l k j) ((l.getD (j+1) default).at k,(l.getD (j+1) default).at k)
def nV (l:List V3):oE:=⟨jP l 0 (l.length-1),jP l 1 (l.length-1),jP l 2 (l.length-1)⟩
theorem aBv (a b:Rat × Rat):(mw a b).1<=a.1/\(mw a b).1<=b.1/\a.2<=(mw a b).2/\b.2<=(mw a b).2:=by
 unfold mw gg fO
 refine⟨?_,?_,?_,?_⟩<;>simp only<;>split<;>grind
theorem anA (l:List V3) (k:Nat):∀ n i,i<=n->(jP l k n).1<=(l.getD i default).at k/\(l.getD i default).at k<=(jP l k n).2
 | 0,i,h=>by
  obtain rfl:i=0:=by omega
  exact⟨Rat.le_refl,Rat.le_refl⟩
 | n+1,i,h=>by
  obtain⟨h1,h2,h3,h4⟩:=aBv (jP l k n) ((l.getD (n+1) default).at k,(l.getD (n+1) default).at k)
  rw [jP]
  rcases Nat.lt_or_ge i (n+1) with hi | hi
  ·obtain⟨g1,g2⟩:=anA l k n i J
   exact⟨Rat.le_trans h1 g1,Rat.le_trans g2 h3⟩
  ·obtain rfl:i=n+1:=by omega
   exact⟨h2,h4⟩
theorem acz {l:List V3} {R:Nat} (h:∀ i,i<l.length->cj R (l.getD i default)) (k:Nat):∀ n,n<l.length->cZ R (jP l k n)
 | 0,hn=>⟨abC (h 0 hn) k,abC (h 0 hn) k⟩
 | n+1,hn=>aaA (acz h k n J) ⟨abC (h _ hn) k,abC (h _ hn) k⟩
theorem aiq {a b:Rat} (ha:0<=a) (hb:0<=b):∀ (n:Nat) (f:Nat->Rat),(∀ i,i<=n->0<=f i)->0<=fE a b n f
 | 0,f,h=>h 0 (Nat.le_refl _)
 | n+1,f,h=>by
  rw [fE]
  refine aiq ha hb n _ fun i hi=>?_
  have h1:=Rat.mul_nonneg ha (h i J)
  have h2:=Rat.mul_nonneg hb (h (i+1) J)
  exact Rat.add_nonneg h1 h2
section
variable {po:List aF} {d:Nat} (h:mf po d)
include h
end
section
variable {po:List aF} {d:Nat} (h:mf po d)
include h
end
open fN in
theorem atS (a b c w:Rat) (R:Nat) (hR:R<=100000000) (ha:rl a<=R) (hb:rl b<=R) (hc:rl c<=R) (hw:rl w<=R):av Tryz.prog 64 [.agg [ae a,ae b,ae c,ae w]] (aT ⟨iZ (1/w) ⟨a,b,c⟩,w⟩):=by
 have r7:av Tryz.prog 13 [iL 1] (ae 1):=oQ 1 ai ai
 have ib:rl 1=1:=rfl
 have hq:=oT 1 w
 refine aN Tryz.func64 (ht:=(fun g=>LV.cP g _ (bw.pure _))) ?_
 refine aR ?_
 refine aY 15 an ?_
 simp only [List.getD_cons_zero]
 refine cp aK (r7) ?_
 refine aL ?_
 refine cp aq (avA 1 w J) ?_
 refine aR ?_
 refine cp aq (aj3 (1/w) ⟨a,b,c⟩ (R+1) J J ⟨by show rl a<=_;omega,by show rl b<=_;omega,by show rl c<=_;omega⟩) ?_
 refine aL ?_
 refine pH (yT rfl rfl) ?_
 refine ax ?_
 exact fW [] rfl rfl rfl cs (dJ cs rfl) rT (.pure pu)
theorem agl {a b:Rat}:∀ (n:Nat) (c:Nat->Rat) (R:Nat),(∀ i,rl (c i)<=R)->rl (fE a b n c)<=(R+(rl a+rl b+1))*2 ^ n
 | 0,c,R,h=>by
  have:=h 0
  show rl (c 0)<=_
  omega
 | n+1,c,R,h=>by
  have:=agl (a:=a) (b:=b) n (fun i=>a*c i+b*c (i+1)) (2*R+(rl a+rl b+1)) (fun i=>by
   have h0:=h i
   have h1:=h (i+1)
   have m0:=cO a (c i)
   have m1:=cO b (c (i+1))
   have s0:=jx (a*c i) (b*c (i+1))
   omega)
  rw [fE]
  refine Nat.le_trans this ?_
  rw [Nat.pow_succ,Nat.mul_comm (2 ^ n) 2,<-Nat.mul_assoc]
  exact Nat.mul_le_mul_right _ J
theorem wM (bs:List Nat):uI bs []=[]:=rfl
def sS (t:Rat) (f:Nat->Rat):Nat->Rat:=fun i=>(1-t)*f i+t*f (i+1)
def sI (t:Rat):Nat->(Nat->Rat)->(Nat->Rat)
 | 0,f=>f
 | n+1,f=>sI t n (sS t f)
theorem azJ (s t:Rat) (f:Nat->Rat):sS s (sS t f)=sS t (sS s f):=by
 funext i;unfold sS;grind
theorem agh (t s:Rat):∀ (n:Nat) (f:Nat->Rat),sI t n (sS s f)=sS s (sI t n f)
 | 0,f=>rfl
 | n+1,f=>by rw [sI,sI,azJ,agh t s n]
theorem ah7 (t:Rat) (n:Nat) (f:Nat->Rat):sI t (n+1) f=sS t (sI t n f):=by rw [sI,agh]
theorem ac7 (t c d:Rat):∀ (n:Nat) (f g:Nat->Rat),sI t n (fun i=>c*f i+d*g i)=fun i=>c*sI t n f i+d*sI t n g i
 | 0,f,g=>rfl
 | n+1,f,g=>by
  rw [sI,sI,sI,<-ac7 t c d n]
  congr 1;funext i;unfold sS;grind
theorem rD (t:Rat):∀ (n:Nat) (f:Nat->Rat) (i:Nat),sI t n f i=fE (1-t) t n (fun m=>f (i+m))
 | 0,f,i=>rfl
 | n+1,f,i=>by rw [sI,rD t n,fE];rfl
theorem avf (a b x:Rat) (f:Nat->Rat) (i:Nat):(1-x)*sS a f i+x*sS b f i=sS (a+x*(b-a)) f i:=by unfold sS;grind
def oX (a b:Rat) (n:Nat) (f:Nat->Rat) (j:Nat):Rat:=sI a (n-j) (sI b j f) 0
theorem azV (a b x:Rat) {n j:Nat} (f:Nat->Rat) (h:j+1<=n):(1-x)*oX a b n f j+x*oX a b n f (j+1)=oX a b (n-1) (sS (a+x*(b-a)) f) j:=by
 unfold oX
 obtain⟨m,rfl⟩:∃ m,n=j+1+m:=⟨n-(j+1),J⟩
 rw [show j+1+m-j=m+1 by omega,show j+1+m-(j+1)=m by omega,show j+1+m-1-j=m by omega]
 rw [sI,<-agh b a,sI]
 have e:=ac7 a (1-x) x m (sI b j (sS a f)) (sI b j (sS b f))
 have e2:=ac7 b (1-x) x j (sS a f) (sS b f)
 rw [<-e2] at e
 have e3:(fun i=>(1-x)*sS a f i+x*sS b f i)=sS (a+x*(b-a)) f:=by funext i;exact avf a b x f i
 rw [e3] at e
 exact(congrFun e 0).symm
theorem aiV (a b x:Rat) {n:Nat}:∀ (k:Nat) (f:Nat->Rat) (j:Nat),j+k<=n->sI x k (oX a b n f) j=oX a b (n-k) (sI (a+x*(b-a)) k f) j
 | 0,f,j,h=>rfl
 | k+1,f,j,h=>by
  rw [ah7]
  unfold sS
  rw [aiV a b x k f j J,aiV a b x k f (j+1) J,azV _ _ _ _ J,<-ah7,Nat.sub_sub]
theorem anH (a b x:Rat) (n:Nat) (f:Nat->Rat):sI x n (oX a b n f) 0=sI (a+x*(b-a)) n f 0:=by
 rw [aiV _ _ _ _ _ _ J,Nat.sub_self];rfl
theorem aon {p:List Rat} {a b:Rat} (ha:a≠1) {j:Nat} (hj:j<p.length):(dI p a b).getD j 0=oX a b (p.length-1) (fun i=>p.getD i 0) j:=by
 have aQ:(1:Rat)-a≠0:=by grind
 have hq:(b-a)/(1-a)*(1-a)=b-a:=Rat.div_mul_cancel aQ
 unfold dI
 rw [if_neg ha,afy (by rw [wh];exact hj)]
 generalize (b-a)/(1-a)=s at hq
 have key:∀ (k:Nat) (i:Nat),i+k<=p.length-1->sI s k (fun i=>(lD p a).getD i 0) i=sI a (p.length-1-i-k) (sI b k (fun m=>p.getD (i+m) 0)) 0:=by
  intro k
  induction k with
  | zero =>
   intro i hi
   show (lD p a).getD i 0=_
   rw [afN J,rD,Nat.sub_zero]
   exact qN _ _ _ _ _ fun m _=>by rw [Nat.zero_add];rfl
  | succ k ih =>
   intro i hi
   rw [ah7]
   unfold sS
   rw [ih i J,ih (i+1) J]
   obtain⟨m,hm⟩:∃ m,p.length-1-i-k=m+1:=⟨p.length-1-i-k-1,J⟩
   rw [hm,show p.length-1-(i+1)-k=m by omega,show p.length-1-i-(k+1)=m by omega,sI]
   have hsh:(fun m=>p.getD (i+1+m) 0)=fun m=>(fun m=>p.getD (i+m) 0) (m+1):=by funext m;simp only;congr 1;omega
   rw [hsh]
   generalize (fun m=>p.getD (i+m) 0)=f
   rw [<-agh]
   have e:=ac7 a (1-s) s m (sI b k (sS a f)) (sI b k (fun m=>f (m+1)))
   have e2:=ac7 b (1-s) s k (sS a f) (fun m=>f (m+1))
   rw [<-e2] at e
   have e3:(fun i=>(1-s)*sS a f i+s*f (i+1))=sS b f:=by
    funext i;unfold sS
    have h1:(1-s)*(1-a)=1-b:=by grind
    have h2:(1-s)*a+s=b:=by grind
    rw [<-h1,<-h2];grind
   rw [e3] at e
   exact(congrFun e 0).symm
 have:=key j 0 J
 rw [rD] at this
 simp only [Nat.zero_add,Nat.sub_zero] at this
 rw [this];rfl
structure jW (po:List aF) (d R:Nat):Prop where
 hl:po.length=d+1
 hd:1<=d
 h6:d<=6
 ok:∀ q∈po,oF R q
theorem mf.r {po:List aF} {d:Nat} (h:mf po d):jW po d 1:=⟨h.hl,h.hd,h.h6,h.ok⟩
def yn (po:List aF) (x y:Rat) (j:Nat):aF :=
 ⟨⟨(dI (bj po 0) x y).getD j 0/(dI (aX po) x y).getD j 0,(dI (bj po 1) x y).getD j 0/(dI (aX po) x y).getD j 0,(dI (bj po 2) x y).getD j 0/(dI (aX po) x y).getD j 0⟩,(dI (aX po) x y).getD j 0⟩
def jR (po:List aF) (x y:Rat):List aF:=(List.range po.length).map (yn po x y)
theorem qy (po:List aF) (x y:Rat):(jR po x y).length=po.length:=by simp [jR]
theorem ai1 {po:List aF} {x y:Rat} {j:Nat} (h:j<po.length):(jR po x y).getD j default=yn po x y j:=by
 unfold jR;rw [List.getD_eq_getElem?_getD,List.getElem?_eq_getElem lr];simp
theorem u5 (p:List Rat) (a b:Rat):(dI p a b).length=p.length:=by rw [<-alg,azT]
theorem abE {a b:Rat} (ha:0<=a) (hb:0<=b) (cu:0<a+b):∀ (n:Nat) (f:Nat->Rat),(∀ i,i<=n->0<f i)->0<fE a b n f
 | 0,f,h=>h 0 (Nat.le_refl _)
 | n+1,f,h=>by
  rw [fE]
  refine abE ha hb cu n _ fun i hi=>?_
  have a1:=h i J
  have a2:=h (i+1) J
  have b1:=Rat.mul_nonneg ha (Rat.le_of_lt a1)
  have b2:=Rat.mul_nonneg hb (Rat.le_of_lt a2)
  rcases Rat.le_iff_lt_or_eq.1 ha with h0 | h0
  ·have:=Rat.mul_pos h0 a1;grind
  ·have:=Rat.mul_pos (show 0<b by grind) a2;grind
theorem axf {a b:Rat} (ha:0<=a) (ha1:a<=1) (hb:0<=b) (wu:b<=1) {n j:Nat} {f:Nat->Rat} (hj:j<=n) (h:∀ i,i<=n->0<f i):0<oX a b n f j:=by
 unfold oX
 rw [rD]
 refine abE cA ha cA _ _ fun m hm=>?_
 rw [rD]
 exact abE cA hb cA _ _ fun m2 dY=>h _ J
theorem aa5 {a b:Rat} {R S:Nat} (ha:rl (1-a)+rl a+1<=S) (hb:rl (1-b)+rl b+1<=S) {n j:Nat} (hn:n<=6) (hj:j<=n) {f:Nat->Rat} (h:∀ i,rl (f i)<=R):rl (oX a b n f j)<=((R+S)*64+S)*64:=by
 unfold oX
 have hp:∀ k,k<=6->2 ^ k<=64:=fun k hk=>Nat.pow_le_pow_right (n:=2) ai hk
 have h1:∀ m,rl (sI b j f m)<=(R+S)*64:=fun m=>by
  rw [rD]
  have:=agl (a:=1-b) (b:=b) j (fun i=>f (m+i)) R (fun i=>h _)
  refine Nat.le_trans this (Nat.mul_le_mul J (hp j J))
 rw [rD]
 have:=agl (a:=1-a) (b:=a) (n-j) (fun i=>sI b j f (0+i)) ((R+S)*64) (fun i=>h1 _)
 exact Nat.le_trans this (Nat.mul_le_mul J (hp (n-j) J))
section
variable {po:List aF} {d R:Nat} (h:jW po d R) {x y:Rat} (fx:0<=x) (eX:x<1) (gW:0<=y) (jZ:y<=1)
include h
theorem aa4 (k:Nat):(bj po k).length=d+1:=by rw [n8,h.hl]
theorem ac8:(aX po).length=d+1:=by rw [me,h.hl]
theorem aCl {i:Nat} (hi:i<=d):0<(aX po).getD i 0:=by
 have hl:=h.hl
 rw [abc J]
 exact(h.ok _ (qM J)).2.2
theorem aut:aX (jR po x y)=dI (aX po) x y:=by
 have hl:=h.hl
 have hw:=ac8 h
 refine List.ext_getElem (by rw [me,qy,u5,me]) fun j h1 h2=>?_
 rw [me,qy] at h1
 have e1:=abc (po:=jR po x y) (i:=j) (by rw [qy];exact h1)
 rw [ai1 h1] at e1
 rw [List.getD_eq_getElem?_getD,List.getElem?_eq_getElem (by rw [me,qy];exact h1)] at e1
 have e2:(yn po x y j).w=(dI (aX po) x y).getD j 0:=rfl
 rw [e2,List.getD_eq_getElem?_getD,List.getElem?_eq_getElem h2] at e1
 exact e1
include eX
theorem adI {j:Nat} (hj:j<=d):(dI (aX po) x y).getD j 0=oX x y d (fun i=>(aX po).getD i 0) j:=by
 have hw:=ac8 h
 rw [aon cA J,hw,Nat.add_sub_cancel]
theorem abK (k:Nat) {j:Nat} (hj:j<=d):(dI (bj po k) x y).getD j 0=oX x y d (fun i=>(bj po k).getD i 0) j:=by
 have hw:=aa4 h k
 rw [aon cA J,hw,Nat.add_sub_cancel]
include fx gW jZ
theorem af5 {j:Nat} (hj:j<=d):0<(dI (aX po) x y).getD j 0:=by
 rw [adI h eX hj]
 exact axf fx (Rat.le_of_lt eX) gW jZ hj fun i hi=>aCl h hi
theorem ag6 (k:Nat) (hk:k<3):bj (jR po x y) k=dI (bj po k) x y:=by
 have hl:=h.hl
 refine List.ext_getElem (by rw [n8,qy,u5,n8]) fun j h1 h2=>?_
 rw [n8,qy] at h1
 have e1:=aaj (po:=jR po x y) (k:=k) (i:=j) (by rw [qy];exact h1)
 rw [ai1 h1] at e1
 rw [List.getD_eq_getElem?_getD,List.getElem?_eq_getElem (by rw [n8,qy];exact h1)] at e1
 have hp:=af5 h fx eX gW jZ (j:=j) J
 have e2:(yn po x y j).w*(yn po x y j).p.at k=(dI (bj po k) x y).getD j 0:=by
  have aQ:(dI (aX po) x y).getD j 0≠0:=by grind
  have hm:∀ q:Rat,(dI (aX po) x y).getD j 0*(q/(dI (aX po) x y).getD j 0)=q:=fun q=>by rw [Rat.mul_comm];exact Rat.div_mul_cancel aQ
  match k,hk with
  | 0,_=>exact hm _
  | 1,_=>exact hm _
  | 2,_=>exact hm _
 rw [e2,List.getD_eq_getElem?_getD,List.getElem?_eq_getElem h2] at e1
 exact e1
theorem asm (s:Rat):mS (jR po x y) s=mS po (x+s*(y-x)):=by
 have hl:=h.hl
 have hw:=ac8 h
 have ew:cL (dI (aX po) x y) s=cL (aX po) (x+s*(y-x)):=by
  have:=anH x y s d (fun i=>(aX po).getD i 0)
  rw [rD,rD] at this
  rw [s6 (by rw [u5];omega),s6 J,u5,hw,Nat.add_sub_cancel]
  simp only [Nat.zero_add] at this
  rw [<-this]
  exact qN _ _ _ _ _ fun i hi=>adI h eX J
 have en:∀ k,cL (dI (bj po k) x y) s=cL (bj po k) (x+s*(y-x)):=fun k=>by
  have hn:=aa4 h k
  have:=anH x y s d (fun i=>(bj po k).getD i 0)
  rw [rD,rD] at this
  rw [s6 (by rw [u5];omega),s6 J,u5,hn,Nat.add_sub_cancel]
  simp only [Nat.zero_add] at this
  rw [<-this]
  exact qN _ _ _ _ _ fun i hi=>abK h eX k J
 unfold mS
 rw [aut h,ag6 h fx eX gW jZ 0 ai,ag6 h fx eX gW jZ 1 ai,ag6 h fx eX gW jZ 2 ai,ew,en,en,en]
end
theorem al0 {po:List aF} {d R:Nat} (h:jW po d R) {x y:Rat} (fx:0<=x) (eX:x<1) (gW:0<=y) (jZ:y<=1) {S:Nat} (hx:rl (1-x)+rl x+1<=S) (hy:rl (1-y)+rl y+1<=S) (hR:1<=R):jW (jR po x y) d (2*(((2*R+S)*64+S)*64)):=by
 have hl:=h.hl
 have h6:=h.h6
 refine⟨by rw [qy,hl],h.hd,h.h6,fun q hq=>?_⟩
 obtain⟨j,hj,rfl⟩:=List.mem_map.1 hq
 have hj:j<po.length:=by simpa using hj
 have hw:rl ((dI (aX po) x y).getD j 0)<=((2*R+S)*64+S)*64:=by
  rw [adI h eX J]
  exact aa5 hx hy h6 J fun i=>fR J (fun z hz=>Nat.le_trans (abZ h.ok z hz) J) i
 have hn:∀ k,rl ((dI (bj po k) x y).getD j 0)<=((2*R+S)*64+S)*64:=fun k=>by
  rw [abK h eX k J]
  exact aa5 hx hy h6 J fun i=>fR J (adN h.ok k) i
 have hd:∀ k,rl ((dI (bj po k) x y).getD j 0/(dI (aX po) x y).getD j 0)<=2*(((2*R+S)*64+S)*64):=fun k=>by
  have:=oT ((dI (bj po k) x y).getD j 0) ((dI (aX po) x y).getD j 0)
  have:=hn k
  omega
 refine⟨⟨hd 0,hd 1,hd 2⟩,?_,af5 h fx eX gW jZ J⟩
 show rl ((dI (aX po) x y).getD j 0)<=_
 omega
theorem agX {f:Nat} (hc:∀ s t:Rat × Rat,rl s.1+rl t.1<=34359738368->rl s.2+rl t.2<=34359738368->av Tryz.prog f [aD s,aD t] (aD (mw s t))) {l:List V3} {R:Nat} (hR:R<=1000000) (hb:∀ i,i<l.length->cj R (l.getD i default)) (k j:Nat) (hj:j+1<l.length) :
  av Tryz.prog f [aD (jP l k j),aD ((l.getD (j+1) default).at k,(l.getD (j+1) default).at k)] (aD (jP l k (j+1))):=by
 have q:=acz hb k j J
 have g:=abC (hb (j+1) hj) k
 have h1:R+R<=34359738368:=by omega
 exact hc _ _ (Nat.le_trans (Nat.add_le_add q.1 g) h1) (Nat.le_trans (Nat.add_le_add q.2 g) h1)
theorem axU:(LV.agg [.agg [ae 0,ae 0],.agg [ae 0,ae 0],.agg [ae 0,ae 0]]).au=18:=by simp [LV.au,cF,ao.au]
theorem aC0 (a b c:Rat × Rat):(LV.agg [aD a,aD b,aD c]).au=18:=vS.au ⟨a,b,c⟩
theorem dr1 (l:List V3) (j:Nat):(l.drop 1).getD j default=l.getD (j+1) default:=by
 rw [List.getD_eq_getElem?_getD,List.getD_eq_getElem?_getD,List.getElem?_drop,Nat.add_comm]
namespace aoZ
theorem aH {p q:Prop} (k:q) (e:p=q:=by simp only [e1,e2,e3,e4,p1,p2,p3,q1,q2,q3,l1,t0,t1,r1,r2,r3,r4,Nat.zero_add,Nat.reduceMul,Nat.reduceAdd,b1,b2,b3,b4,b5,b6,i1,i2,i3,i4,i5,i6,Nat.reduceBEq,axU,aC0,dr1,cy,List.length_drop,List.length_map,List.set_cons_zero,List.set_cons_succ,Nat.reduceEqDiff,reduceIte,if_true,if_false,dU,eo,aP bg,aP bw,aP ao,cH,dO,LV.kill,bN];exact rfl):p:=e.mpr k
end aoZ
open aoZ in
theorem aB8 (l:List V3) (h0:0<l.length) (hl:l.length<=1000) (R:Nat) (hR:R<=1000000) (hb:∀ i,i<l.length->cj R (l.getD i default)):av Tryz.prog 98 [.list 9 (l.map aS)] (.a7 [lM (nV l),iL 0]):=by
 obtain⟨z1,z2,z3⟩:=hb 0 h0
 refine aN Tryz.func98 (ht:=(jh (vS.pure _) rfl)) ?_
 refine nh ?_
 refine aC rfl ?_ ?_<;>intro l8 rC
 ·omega
 ·refine bq ?_
  refine bF ?_
  refine az ?_
  refine bY (b:=_) rfl ai ?_
  refine mQ ?_
  refine cp aK (pY (l.getD 0 default).x J) ?_
  refine aR ?_
  refine ak rfl (.z5 (a:=1) bg rfl Tryz.underlying165 ij rfl om) ?_
  refine aZ ?_
  refine dG (fun(j:Nat) L=>(((((((((St.mk L.slot (hp [(2,⟨18,[.agg [.agg [ae 0,ae 0],.agg [ae 0,ae 0],.agg [ae 0,ae 0]]],true⟩),(4,⟨18,[.agg [aD (jP l 0 j),.agg [ae 0,ae 0],.agg [ae 0,ae 0]]],true⟩)])).put (some 0) (.list 9 (l.map aS))).put (some 2) (.aA 2 18 0 0)).put (some 4) (.aA 4 18 0 0)).put (some 5) (iL 0)).put (some 12) (iL 0)).put (some 24) (.list 9 ((l.drop 1).map aS))).put (some 25) (ah (l.length-1))).put (some 26) (ah j))) (fun j=>j<=l.length-1) (fun j=>l.length-1-j) 0 (Nat.zero_le _) ?_
  rintro j L2 hj
  refine az ?_
  refine aC rfl ?_ ?_<;>intro u4 h27
  ·have g7:j<l.length-1:=by omega
   obtain⟨g1,g2,g3⟩:=hb (j+1) J
   have hH0:av Tryz.prog 182 [aD (jP l 0 j),aD ((l.getD (j+1) default).x,(l.getD (j+1) default).x)] (aD (jP l 0 (j+1))):=agX (fun s t h1 h2=>sQ s t J J) hR hb 0 j J
   refine bu ?_
   refine aY 10 an ?_
   refine aR ?_
   refine cp aK (pY (l.getD (j+1) default).x J) ?_
   refine cp aq (hH0) ?_
   refine aZ ?_
   refine cq (aw.kill _ 7) ?_
   refine ak rfl cB ?_
   refine aJ ?_
   exact vF
  ·obtain rfl:j=l.length-1:=by omega
   refine bo ?_
   refine bF ?_
   refine az ?_
   refine bY (b:=_) rfl ai ?_
   refine mQ ?_
   refine cp aK (pY (l.getD 0 default).y J) ?_
   refine aR ?_
   refine ak rfl (.z5 (a:=1) bg rfl Tryz.underlying165 ij rfl om) ?_
   refine aZ ?_
   refine dG (fun(j:Nat) L=>(((((((((St.mk L.slot (hp [(2,⟨18,[.agg [.agg [ae 0,ae 0],.agg [ae 0,ae 0],.agg [ae 0,ae 0]]],true⟩),(4,⟨18,[.agg [aD (jP l 0 (l.length-1)),aD (jP l 1 j),.agg [ae 0,ae 0]]],true⟩)])).put (some 0) (.list 9 (l.map aS))).put (some 2) (.aA 2 18 0 0)).put (some 4) (.aA 4 18 0 0)).put (some 5) (iL 1)).put (some 12) (iL 1)).put (some 24) (.list 9 ((l.drop 1).map aS))).put (some 25) (ah (l.length-1))).put (some 26) (ah j))) (fun j=>j<=l.length-1) (fun j=>l.length-1-j) 0 (Nat.zero_le _) ?_
   rintro j L2 hj
   refine az ?_
   refine aC rfl ?_ ?_<;>intro u4 h27
   ·have g7:j<l.length-1:=by omega
    obtain⟨g1,g2,g3⟩:=hb (j+1) J
    have qW:av Tryz.prog 182 [aD (jP l 1 j),aD ((l.getD (j+1) default).y,(l.getD (j+1) default).y)] (aD (jP l 1 (j+1))):=agX (fun s t h1 h2=>sQ s t J J) hR hb 1 j J
    refine bu ?_
    refine aY 10 an ?_
    refine aR ?_
    refine cp aK (pY (l.getD (j+1) default).y J) ?_
    refine cp aq (qW) ?_
    refine aZ ?_
    refine cq (aw.kill _ 7) ?_
    refine ak rfl cB ?_
    refine aJ ?_
    exact vF
   ·obtain rfl:j=l.length-1:=by omega
    refine bo ?_
    refine bF ?_
    refine az ?_
    refine bY (b:=_) rfl ai ?_
    refine mQ ?_
    refine cp aK (pY (l.getD 0 default).z J) ?_
    refine aR ?_
    refine ak rfl (.z5 (a:=1) bg rfl Tryz.underlying165 ij rfl om) ?_
    refine aZ ?_
    refine dG (fun(j:Nat) L=>(((((((((St.mk L.slot (hp [(2,⟨18,[.agg [.agg [ae 0,ae 0],.agg [ae 0,ae 0],.agg [ae 0,ae 0]]],true⟩),(4,⟨18,[.agg [aD (jP l 0 (l.length-1)),aD (jP l 1 (l.length-1)),aD (jP l 2 j)]],true⟩)])).put (some 0) (.list 9 (l.map aS))).put (some 2) (.aA 2 18 0 0)).put (some 4) (.aA 4 18 0 0)).put (some 5) (iL 2)).put (some 12) (iL 2)).put (some 24) (.list 9 ((l.drop 1).map aS))).put (some 25) (ah (l.length-1))).put (some 26) (ah j))) (fun j=>j<=l.length-1) (fun j=>l.length-1-j) 0 (Nat.zero_le _) ?_
    rintro j L2 hj
    refine az ?_
    refine aC rfl ?_ ?_<;>intro u4 h27
    ·have g7:j<l.length-1:=by omega
     obtain⟨g1,g2,g3⟩:=hb (j+1) J
     have hH2:av Tryz.prog 182 [aD (jP l 2 j),aD ((l.getD (j+1) default).z,(l.getD (j+1) default).z)] (aD (jP l 2 (j+1))):=agX (fun s t h1 h2=>sQ s t J J) hR hb 2 j J
     refine bu ?_
     refine aY 10 an ?_
     refine aR ?_
     refine cp aK (pY (l.getD (j+1) default).z J) ?_
     refine cp aq (hH2) ?_
     refine aZ ?_
     refine cq (aw.kill _ 7) ?_
     refine ak rfl cB ?_
     refine aJ ?_
     exact vF
    ·obtain rfl:j=l.length-1:=by omega
     refine bo ?_
     refine bF ?_
     refine az ?_
     refine eE (b:=_) rfl ai ?_
     refine dp ?_
     exact sN [] rfl rfl rfl cs (dJ cs rfl) T97 (.pure pu) rfl (.pure rfl)
end Go.Proofs.YtckppbhafancnaaGreat
end
section
set_option linter.unusedVariables false
set_option linter.unusedSimpArgs false
namespace Go.Lg
def lN:Op->Bool
 | .move _=>true
 | .pick ..=>true
 | .binOp ..=>true
 | .load ..=>true
 | .fieldAddr ..=>true
 | .indexAddr ..=>true
 | .call ⟨.builtin .len,_,_⟩=>true
 | _=>false
theorem akA {op:Op} (h:lN op=true):tz op=false:=by
 unfold lN at h
 split at h<;>first | rfl | cases h
section
variable {P:Program} {H:bK} {ρ oz:Operand->LV}
theorem aB.aaB {op:Op} {r:LV} (h:aB P H ρ op r) (hp:lN op=true) (hr:∀ x∈op.operands,oz x=ρ x):aB P H oz op r:=by
 cases h with
 | move x=>rw [<-hr x bH];exact .move x
 | pick hc =>
  rename_i c x y t
  have e1:=hr x bH
  have e2:=hr y bH
  have:=aB.pick (P:=P) (H:=H) (ρ:=oz) (x:=x) (y:=y) ((hr _ bH).trans hc)
  rw [e1,e2] at this
  exact this
 | bin hx hy h=>exact .bin ((hr _ bH).trans hx) ((hr _ bH).trans hy) h
 | sh hx hy h=>exact .sh ((hr _ bH).trans hx) ((hr _ bH).trans hy) h
 | beq hx hy hT=>exact .beq ((hr _ bH).trans hx) ((hr _ bH).trans hy) hT
 | bne hx hy hT=>exact .bne ((hr _ bH).trans hx) ((hr _ bH).trans hy) hT
 | wb hx hy h=>exact .wb ((hr _ bH).trans hx) ((hr _ bH).trans hy) h
 | wL hx hy=>exact .wL ((hr _ bH).trans hx) ((hr _ bH).trans hy)
 | vU hx hy hT=>exact .vU ((hr _ bH).trans hx) ((hr _ bH).trans hy) hT
 | vT hx hy hT=>exact .vT ((hr _ bH).trans hx) ((hr _ bH).trans hy) hT
 | wY hx hy hT hE hs hd=>exact .wY ((hr _ bH).trans hx) ((hr _ bH).trans hy) hT hE hs hd
 | wv hq hT pM=>exact .wv ((hr _ bH).trans hq) hT pM
 | yj hq hT hk=>exact .yj ((hr _ bH).trans hq) hT hk
 | wC hq hT hc=>exact .wC ((hr _ bH).trans hq) hT hc
 | fu hq hb hs hi hx pM hT=>exact .fu ((hr _ bH).trans hq) hb hs hi hx pM hT
 | xz hx hT hE hi h0 hm=>exact .xz ((hr _ bH).trans hx) hT hE ((hr _ bH).trans hi) h0 hm
 | yC hx hT hE hf hi h0 pM=>exact .yC ((hr _ bH).trans hx) hT hE hf ((hr _ bH).trans hi) h0 pM
 | lV hx hT hE hi h0 pM hc=>exact .lV ((hr _ bH).trans hx) hT hE ((hr _ bH).trans hi) h0 pM hc
 | tB hx hT hE hi h0 hn=>exact .tB ((hr _ bH).trans hx) hT hE ((hr _ bH).trans hi) h0 hn
 | xb hx has hT=>exact .xb ((hr _ jH).trans hx) has hT
 | xR hx has hT=>exact .xR ((hr _ jH).trans hx) has hT
 | xL hx has hT=>exact .xL ((hr _ jH).trans hx) has hT
 | y5 hx has hT=>exact .y5 ((hr _ jH).trans hx) has hT
 | _=>first | (cases hp;done) | (simp [lN] at hp;done)
end
def vu (n e:Nat):Array Bool:=((List.range n).map fun i=>decide (i<e)).toArray
theorem ar2 {n e i:Nat} (h:i<n):(vu n e).getD i false=decide (i<e):=by
 unfold vu
 rw [Array.getD_eq_getD_getElem?]
 simp [h]
theorem aj1 (n e:Nat):(vu n e).size=n:=by simp [vu]
theorem aCS {n e:Nat} {D:Array Bool} (hs:D.size=n) (h:∀ i,i<n->D.getD i false=decide (i<e)):D=vu n e:=by
 refine Array.ext (by rw [aj1,hs]) fun i h1 h2=>?_
 have e1:=h i J
 have e2:=ar2 (n:=n) (e:=e) (i:=i) J
 rw [Array.getD_eq_getD_getElem?,Array.getElem?_eq_getElem h1] at e1
 rw [Array.getD_eq_getD_getElem?,Array.getElem?_eq_getElem h2] at e2
 simp only [Option.getD_some] at e1 e2
 rw [e1,e2]
def ahX (ops:Array Oper) (s e:Nat):Bool :=
 decide (s<=e) && decide (e<=ops.size) && ((List.range ops.size).all fun i=>(iE (ops.getD i default)).all (·<i)) &&
 ((List.range e).all fun i=>decide (i<s) || lN (ops.getD i default).op) &&
 ((List.range e).all fun i=>(List.range e).all fun j=>decide (i<s) || decide (j<s) || i==j || yN ops (ya ops.toList []) i j) &&
 ((List.range ops.size).all fun i=>decide (i<e) || (List.range e).all fun j=>decide (j<s) || ((ya ops.toList []).getD i 0).testBit j)
section
variable {P:Program} {ops:Array Oper}
theorem anx {K:St->Prop}:∀ (n:Nat) (D:Array Bool) (L:St),ic P ops n D L K->ic P ops (n+1) D L K
 | 0,D,L,h=>⟨fun _=>h.2,fun i hi=>by rw [h.1] at hi;cases hi⟩
 | n+1,D,L,h=>⟨h.1,fun i hi=>by
  obtain⟨o,L',h1,h2,h3⟩:=h.2 i hi
  exact⟨o,L',h1,h2,anx n _ _ h3⟩⟩
open Classical in
noncomputable def rO (ops:Array Oper) (g:Nat->St) (s e:Nat) (D:Array Bool) (t:Nat):LV :=
 if ∃ i o,s<=i/\i<e/\D.getD i false=true/\ops[i]?=some o/\o.dst=some t then(g e).slot t else(g s).slot t
theorem atx {fuel:Nat} {K:St->Prop} {L:St} {D:Array Bool} (s e:Nat) (l:List Oper) (hD:D=vu ops.size s) (hl:l=(ops.toList.drop s).take (e-s)) (eQ:ahX ops s e=true)
  (h:opsL P true ops l L (fun L'=>ic P ops fuel (vu ops.size e) L' K)):ic P ops (fuel+(e-s)) D L K:=by
 unfold ahX at eQ
 simp only [Bool.and_eq_true,decide_eq_true_eq,List.all_eq_true,List.mem_range,Bool.or_eq_true] at eQ
 obtain⟨⟨⟨⟨⟨hse,hen⟩,h1⟩,h2⟩,h3⟩,h4⟩:=eQ
 have fP:∀ i o,ops[i]?=some o->ops.getD i default=o:=fun i o h=>by rw [Array.getD_eq_getD_getElem?,h];rfl
 have l5:∀ i o,ops[i]?=some o->i<ops.size:=fun i o h=>(Array.getElem?_eq_some_iff.1 h).1
 have uj:∀ i,i<ops.size->∃ o,ops[i]?=some o:=fun i h=>⟨_,Array.getElem?_eq_getElem h⟩
 have nc:=aba ops ops.toList [] (fun i=>by simp) (fun i t h=>by simp at h)
 have sY:∀ i o,ops[i]?=some o->∀ j∈iE o,j<i:=fun i o h j hj=>h1 i (l5 i o h) j (by rw [fP i o h];exact hj)
 have aqg:∀ i o,ops[i]?=some o->s<=i->i<e->lN o.op=true:=fun i o h a b=>by
  rcases h2 i b with c | c
  ·omega
  ·rw [fP i o h] at c;exact c
 have sX:∀ i,i<ops.size->e<=i->∀ j,s<=j->j<e->lS ops j i:=fun i hi a j b c=>by
  rcases h4 i hi with q | q
  ·omega
  ·rcases q j c with q | q
   ·omega
   ·exact nc i j q
 have qT:∀ i j oi oj d,ops[i]?=some oi->ops[j]?=some oj->s<=i->i<e->s<=j->j<e->i≠j->oj.dst=some d->oi.dst≠some d/\(d∈oi.looksAt ops->if j<i then lS ops j i else lS ops i j):=by
  intro i j oi oj d hi hj si ei sj ej aQ mP
  rcases h3 i ei j ej with((q | q) | q) | q
  ·omega
  ·omega
  ·exact absurd (by simpa using q) aQ
  ·unfold yN at q
   rw [fP j oj hj,fP i oi hi,mP] at q
   simp only [Bool.and_eq_true,bne_iff_ne,ne_eq,Bool.or_eq_true,Bool.not_eq_true'] at q
   refine⟨q.1,fun pP=>?_⟩
   rcases q.2 with h' | h'
   ·rw [List.contains_iff_mem.2 pP] at h';cases h'
   ·split at h'<;>rename_i bE
    ·rw [if_pos bE];exact nc i j h'
    ·rw [if_neg bE];exact nc j i h'
 obtain⟨f,f0,fs,fK⟩:=xw _ _ h
 have hlen:l.length=e-s:=by rw [hl];simp;omega
 obtain⟨g,hg⟩:∃ g:Nat->St,g=fun i=>f (i-s):=⟨_,rfl⟩
 have gs0:g s=L:=by rw [hg];simp only [Nat.sub_self];exact f0
 have ge0:g e=f l.length:=by rw [hg,hlen]
 have gst:∀ i o,ops[i]?=some o->s<=i->i<e->Step P true ops o (g i) (g (i+1)):=fun i o h a b=>by
  have:=fs (i-s) o (by
   rw [hl,List.getElem?_take,if_pos J,List.getElem?_drop,show s+(i-s)=i by omega]
   simpa using h)
  rw [hg]
  simp only
  rw [show i+1-s=i-s+1 by omega]
  exact this
 rw [<-ge0] at fK
 have pe:∀ i o,ops[i]?=some o->s<=i->i<e->(g i).heap.le (g (i+1)).heap/\∀ t,o.dst≠some t->(g (i+1)).slot t=(g i).slot t:=fun i o h a b=>agv (akA (aqg i o h a b)) (gst i o h a b)
 have hle:∀ i j,s<=i->i<=j->j<=e->(g i).heap.le (g j).heap:=by
  intro i j si qI
  induction j with
  | zero =>
   intro _
   obtain rfl:i=0:=by omega
   exact bK.le_refl _
  | succ j ih =>
   intro kE
   by_cases c:i=j+1
   ·subst c;exact bK.le_refl _
   ·obtain⟨o,ho⟩:=uj j J
    exact bK.le_trans (ih J J) (pe j o ho J J).1
 have hconst:∀ i j t,s<=i->i<=j->j<=e->(∀ k o,i<=k->k<j->ops[k]?=some o->o.dst≠some t)->(g j).slot t=(g i).slot t:=by
  intro i j t si qI
  induction j with
  | zero =>
   intro _ _
   obtain rfl:i=0:=by omega
   rfl
  | succ j ih =>
   intro kE hk
   by_cases c:i=j+1
   ·subst c;rfl
   ·obtain⟨o,ho⟩:=uj j J
    rw [(pe j o ho J J).2 t (hk j o J J ho)]
    exact ih J J (fun k o a b=>hk k o a J)
 have abX:∀ i o t,ops[i]?=some o->s<=i->i<e->o.dst=some t->(g e).slot t=(g (i+1)).slot t:=fun i o t ho si ei jr =>
  hconst (i+1) e t J J (Nat.le_refl _) (fun k ok a b hk q=>(qT i k o ok t ho hk si ei J b J q).1 jr)
 let closed:Array Bool->Prop:=fun D=>∀ i o,ops[i]?=some o->D.getD i false=true->∀ j∈iE o,D.getD j false=true
 have vI:∀ D,closed D->∀ j i,lS ops j i->(∀ o,ops[i]?=some o->∀ k∈iE o,D.getD k false=true)->D.getD j false=true:=by
  intro D hD j i hA
  induction hA with
  | @one i o ho h=>intro hr;exact hr o ho _ h
  | @step k i o hA ho hk ih=>intro hr;exact ih (fun o' ko k' mK=>hD k o' ko (hr o ho k hk) k' mK)
 have main:∀ (n:Nat) (D:Array Bool) (L:St),D.size=ops.size->(∀ i,i<s->D.getD i false=true)->(∀ i,e<=i->D.getD i false=false)->closed D->(∀ t,L.slot t=rO ops g s e D t) ->
   (L.heap=(g e).heap\/(L.heap=(g s).heap/\∀ i,s<=i->i<e->D.getD i false=true->(g (i+1)).heap=(g i).heap))->(List.range e).countP (fun i=>!D.getD i false)<=n->ic P ops (fuel+n) D L K:=by
  intro n
  induction n with
  | zero =>
   intro D L bD bX gj ix jc hhp hct
   have dR:∀ i,i<e->D.getD i false=true:=fun i hi=>by
    have:(List.range e).countP (fun i=>!D.getD i false)=0:=by omega
    have:=List.countP_eq_zero.1 this i (List.mem_range.2 hi)
    simpa using this
   have eD:D=vu ops.size e:=aCS bD fun i hi=>by
    rcases Nat.lt_or_ge i e with c | c
    ·rw [dR i c,decide_eq_true c]
    ·rw [gj i c,decide_eq_false J]
   have eL:L=g e:=by
    have q1:L.slot=(g e).slot:=by
     funext t
     rw [jc t]
     unfold rO
     split
     ·rfl
     ·rename_i lG
      exact(hconst s e t (Nat.le_refl _) hse (Nat.le_refl _) (fun k o a b hk q=>lG ⟨k,o,a,b,dR k b,hk,q⟩)).symm
    have q2:L.heap=(g e).heap:=by
     rcases hhp with q | ⟨q,hq⟩
     ·exact q
     ·rw [q]
      have:∀ m,s<=m->m<=e->(g m).heap=(g s).heap:=by
       intro m
       induction m with
       | zero =>
        intro a _
        obtain rfl:s=0:=by omega
        rfl
       | succ m ih =>
        intro a b
        by_cases c:s=m+1
        ·rw [c]
        ·rw [hq m J J (dR m J)];exact ih J J
      exact(this e hse (Nat.le_refl _)).symm
    cases L;cases jd:g e
    rw [jd] at q1 q2
    simp only at q1 q2
    rw [q1,q2]
   rw [eD,eL];exact fK
  | succ n ih =>
   intro D L bD bX gj ix jc hhp hct
   by_cases dR:∀ i,i<e->D.getD i false=true
   ·have h0:(List.range e).countP (fun i=>!D.getD i false)=0:=List.countP_eq_zero.2 fun i hi=>by rw [dR i (List.mem_range.1 hi)];decide
    exact anx _ _ _ (ih D L bD bX gj ix jc hhp J)
   ·have sV:∀ i,i∈Region.ready .any ops D->s<=i/\i<e:=fun i hi=>by
     obtain⟨o,sE,rH,p3'⟩:=(nG bD).1 hi
     have bE:=l5 i o sE
     have pF:D.getD i false=false:=by rw [rF J false true];exact rH
     refine⟨?_,?_⟩
     ·rcases Nat.lt_or_ge i s with c | c
      ·rw [bX i c] at pF;cases pF
      ·exact c
     ·rcases Nat.lt_or_ge i e with c | c
      ·exact c
      ·exfalso
       refine dR fun j hj=>?_
       rcases Nat.lt_or_ge j s with d | d
       ·exact bX j d
       ·exact vI D ix j i (sX i bE c j d hj) (fun o' ko k hk=>by rw [sE] at ko;cases ko;exact p3' k hk)
    refine⟨fun hr=>?_,fun i hi=>?_⟩
    ·exfalso
     refine dR fun i=>?_
     induction i using Nat.strongRecOn with
     | _ i ihh =>
      intro hie
      cases hc:D.getD i false with
      | true=>rfl
      | false =>
       obtain⟨o,ho⟩:=uj i J
       have:i∈Region.ready .any ops D:=(nG bD).2 ⟨o,ho,by rw [rF J true false];exact hc,fun j hj=>by
        have:=sY i o ho j hj
        exact ihh j this J⟩
       rw [hr] at this;cases this
    ·obtain⟨si,ei⟩:=sV i hi
     obtain⟨o,ho,yG,uc⟩:=(nG bD).1 hi
     have pF:D.getD i false=false:=by rw [rF J false true];exact yG
     have gY:∀ k,(D.setIfInBounds i true).getD k false=true↔k=i\/D.getD k false=true:=fun k=>by
      by_cases c:i=k
      ·subst c
       rw [Array.getD_eq_getD_getElem?,Array.getElem?_setIfInBounds_self_of_lt J];simp
      ·rw [Array.getD_eq_getD_getElem?,Array.getElem?_setIfInBounds_ne c,<-Array.getD_eq_getD_getElem?]
       constructor
       ·exact fun h=>.inr h
       ·rintro(h | h)
        ·exact absurd h.symm c
        ·exact h
     have aas:closed (D.setIfInBounds i true):=fun k ok hk ef j hj=>by
      rcases(gY k).1 ef with rfl | h
      ·rw [ho] at hk;cases hk
       exact(gY j).2 (.inr (uc j hj))
      ·exact(gY j).2 (.inr (ix k ok hk h j hj))
     have aau:∀ o',ops[i]?=some o'->∀ k∈iE o',D.getD k false=true:=fun o' ko k hk=>(by rw [ho] at ko;cases ko;exact uc k hk)
     have aby:∀ t,t∈o.looksAt ops->(g i).slot t=L.slot t:=by
      intro t ht
      rw [jc t]
      by_cases hex:∃ j oj,s<=j/\j<e/\ops[j]?=some oj/\oj.dst=some t
      ·obtain⟨j,oj,sj,ej,hj,mP⟩:=hex
       have vD:∀ k ok,s<=k->k<e->ops[k]?=some ok->ok.dst=some t->k=j:=fun k ok sk ek hk jM =>
        Classical.byContradiction fun aQ=>(qT k j ok oj t hk hj sk ek sj ej aQ mP).1 jM
       have aqy:(∀ hh:D.getD j false=true,False)->rO ops g s e D t=(g s).slot t:=fun hh=>by
        unfold rO
        rw [if_neg]
        rintro⟨k,ok,sk,ek,ef,hk,jM⟩
        have:=vD k ok sk ek hk jM
        subst this
        exact hh ef
       by_cases jK:j=i
       ·subst jK
        rw [hconst s j t (Nat.le_refl _) si J (fun k ok a b hk q=>by have:=vD k ok a J hk q;omega),aqy (fun hh=>by rw [pF] at hh;cases hh)]
       ·have hp:=(qT i j o oj t ho hj si ei sj ej (Ne.symm jK) mP).2 ht
        by_cases bE:j<i
        ·rw [if_pos bE] at hp
         have tV:=vI D ix j i hp aau
         have e2:rO ops g s e D t=(g e).slot t:=by
          unfold rO
          rw [if_pos ⟨j,oj,sj,ej,tV,hj,mP⟩]
         rw [e2,abX j oj t hj sj ej mP]
         exact hconst (j+1) i t J J J (fun k ok a b hk q=>by have:=vD k ok J J hk q;omega)
        ·rw [if_neg bE] at hp
         rw [hconst s i t (Nat.le_refl _) si J (fun k ok a b hk q=>by have:=vD k ok a J hk q;omega),aqy (fun hh=>by
          have:=vI D ix i j hp (fun o' ko k' mK=>ix j o' ko hh k' mK)
          rw [pF] at this;cases this)]
      ·rw [hconst s i t (Nat.le_refl _) si J (fun k ok a b hk q=>hex ⟨k,ok,a,J,hk,q⟩)]
       unfold rO
       rw [if_neg]
       rintro⟨k,ok,sk,ek,ef,hk,jM⟩
       exact hex ⟨k,ok,sk,ek,hk,jM⟩
     have acX:∀ t,rO ops g s e (D.setIfInBounds i true) t=if o.dst=some t then(g (i+1)).slot t else L.slot t:=by
      intro t
      rw [jc t]
      by_cases jr:o.dst=some t
      ·rw [if_pos jr]
       unfold rO
       rw [if_pos ⟨i,o,si,ei,(gY i).2 (.inl rfl),ho,jr⟩]
       exact abX i o t ho si ei jr
      ·rw [if_neg jr]
       unfold rO
       congr 1
       apply propext
       constructor
       ·rintro⟨k,ok,sk,ek,ef,hk,jM⟩
        rcases(gY k).1 ef with rfl | h
        ·rw [ho] at hk;cases hk;exact absurd jM jr
        ·exact⟨k,ok,sk,ek,h,hk,jM⟩
       ·rintro⟨k,ok,sk,ek,ef,hk,jM⟩
        exact⟨k,ok,sk,ek,(gY k).2 (.inr ef),hk,jM⟩
     have acq:∀ res,dE ops (g i) o res->dE ops L o res:=fun res vW=>by
      unfold dE at vW ⊢
      cases hh:o.guard with
      | none=>rw [hh] at vW;exact vW
      | some pr =>
       obtain⟨j,want⟩:=pr
       rw [hh] at vW
       obtain⟨d,wg,q'⟩:=vW
       have e1:(g i).slot d=L.slot d:=aby d (by unfold Oper.looksAt;rw [hh];simp [wg])
       refine⟨d,wg,?_⟩
       show (∃ b,L.slot d=_/\_)\/(L.slot d=_/\_)
       rw [<-e1]
       exact q'
     have lC:∀ (r:LV) (H1:bK),(∀ t,o.dst=some t->(g (i+1)).slot t=r)->∀ t,(⟨(L.put o.dst r).slot,H1⟩:St).slot t=rO ops g s e (D.setIfInBounds i true) t:=fun r H1 hr t=>by
      rw [acX t]
      show (L.put o.dst r).slot t=_
      cases hd:o.dst with
      | none=>rw [if_neg aO];rfl
      | some d =>
       rw [fQ]
       by_cases c:t=d
       ·subst c
        rw [if_pos rfl,if_pos rfl,hr t hd]
       ·rw [if_neg c,if_neg (fun q=>c (by cases q;rfl))]
     have aoz:(List.range e).countP (fun k=>!(D.setIfInBounds i true).getD k false)<=n:=by
      have:(List.range e).countP (fun k=>!(D.setIfInBounds i true).getD k false)<(List.range e).countP (fun k=>!D.getD k false):=by
       apply ah4
       ·intro k _ hk
        cases hc:D.getD k false with
        | false=>rfl
        | true=>rw [(gY k).2 (.inr hc)] at hk;cases hk
       ·exact⟨i,List.mem_range.2 ei,by rw [pF];rfl,by rw [(gY i).2 (.inl rfl)];rfl⟩
      omega
     have aam:∀ L',Step P false ops o L L'->(∀ t,L'.slot t=rO ops g s e (D.setIfInBounds i true) t)->(L'.heap=(g e).heap\/(L'.heap=(g s).heap/\∀ k,s<=k->k<e->(D.setIfInBounds i true).getD k false=true->(g (k+1)).heap=(g k).heap)) ->
       ∃ o L',ops[i]?=some o/\Step P false ops o L L'/\ic P ops (fuel+n) (D.setIfInBounds i true) L' K:=fun L' cQ kz hh' =>
      ⟨o,L',ho,cQ,ih _ L' (by simpa using bD) (fun k hk=>(gY k).2 (.inr (bX k hk))) (fun k hk=>by
       cases hc:(D.setIfInBounds i true).getD k false with
       | false=>rfl
       | true =>
        rcases(gY k).1 hc with rfl | q
        ·omega
        ·rw [gj k hk] at q;cases q) aas kz hh' aoz⟩
     have fv:=aqg i o ho si ei
     cases gst i o ho si ei with
     | skip hg' h' =>
      refine aam (L.put o.dst (.a7 [])) (.skip (acq false hg') rfl) (fun t=>?_) ?_
      ·have:=lC (.a7 []) L.heap (fun t ht=>by rw [h',ht,fQ,if_pos rfl]) t
       exact this
      ·rw [jU]
       rcases hhp with q | ⟨q,hq⟩
       ·exact .inl q
       ·refine .inr ⟨q,fun k sk ek hk=>?_⟩
        rcases(gY k).1 hk with rfl | hk
        ·rw [h',jU]
        ·exact hq k sk ek hk
     | @val r fr H1 hg' hH dt kP h' =>
      obtain⟨dst,op,ty,pos,after,gd⟩:=o
      have qW:H1=(g (i+1)).heap:=by rw [h']
      have abG:H1.le (g e).heap:=by rw [qW];exact hle (i+1) e J J (Nat.le_refl _)
      cases kP with
      | alloc ha=>cases ha<;>cases fv
      | call hc=>cases hc<;>cases fv
      | pure hpp =>
       have fA:∀ x∈op.operands,L.ev x=(g i).ev x:=by
        intro x hx
        cases x with
        | tmp t =>
         have ht:t∈Oper.looksAt ops ⟨dst,op,ty,pos,after,gd⟩:=by
          unfold Oper.looksAt
          simp only [List.mem_append,List.mem_filterMap]
          exact .inl ⟨.tmp t,by simpa using hx,rfl⟩
         exact(aby t ht).symm
        | const v=>rfl
        | func f=>rfl
        | global f=>rfl
       have atd:=aB.aaB (aB.le abG hpp) fv fA
       have hLe:L.heap.le (g e).heap:=by
        rcases hhp with q | ⟨q,_⟩
        ·rw [q];exact bK.le_refl _
        ·rw [q];exact hle s e (Nat.le_refl _) hse (Nat.le_refl _)
       refine aam ⟨(L.put dst r).slot,(g e).heap⟩ (.val (fr:=[]) (acq true hg') hLe (fun _ _ hh=>by cases hh) (.pure atd) rfl) (lC r _ (fun t ht=>?_)) (.inl rfl)
       rw [h']
       show ((g i).put dst r).slot t=r
       have ht:dst=some t:=ht
       rw [ht,fQ,if_pos rfl]
     | st hg' o4 =>
      obtain⟨dst,op,ty,pos,after,gd⟩:=o
      have:=akA fv
      rw [o4.tail] at this;cases this
     | stM fH _ _=>cases fH
 have bD:D.size=ops.size:=by rw [hD];exact aj1 _ _
 have z7:∀ i,D.getD i false=true↔i<s:=fun i=>by
  rcases Nat.lt_or_ge i ops.size with c | c
  ·rw [hD,ar2 c,decide_eq_true_eq]
  ·constructor
   ·intro q
    rw [Array.getD_eq_getD_getElem?,Array.getElem?_eq_none J] at q
    cases q
   ·intro q;omega
 refine main (e-s) D L bD (fun i hi=>(z7 i).2 hi) (fun i hi=>?_) (fun i o ho hi j hj=>(z7 j).2 (by have:=sY i o ho j hj;have:=(z7 i).1 hi;omega)) (fun t=>?_) (.inr ⟨by rw [gs0],fun i si _ hi=>by have:=(z7 i).1 hi;omega⟩) ?_
 ·cases hc:D.getD i false with
  | false=>rfl
  | true=>have:=(z7 i).1 hc;omega
 ·unfold rO
  rw [if_neg,gs0]
  rintro⟨k,o,sk,_,hk,_⟩
  have:=(z7 k).1 hk
  omega
 ·have:∀ m,(List.range m).countP (fun i=>!D.getD i false)<=m-s:=by
   intro m
   induction m with
   | zero=>simp
   | succ m ih =>
    rw [List.range_succ,List.countP_append]
    have vG:List.countP (fun i=>!D.getD i false) [m]=if D.getD m false=true then 0 else 1:=by
     rw [List.countP_cons,List.countP_nil,Nat.zero_add]
     cases hc:D.getD m false<;>rfl
    rw [vG]
    split
    ·omega
    ·rename_i hc
     have:¬m<s:=fun q=>hc ((z7 m).2 q)
     omega
  exact this e
theorem agy {m:Nat} {K:St->Prop} {L:St} {D:Array Bool} {l0:List Oper} (s e fuel:Nat) (hm:m=fuel+(e-s)) (hD:D=vu l0.toArray.size s) (eQ:ahX l0.toArray s e=true)
  (h:opsL P true l0.toArray ((l0.drop s).take (e-s)) L (fun L'=>ic P l0.toArray fuel (vu l0.toArray.size e) L' K)):ic P l0.toArray m D L K:=by
 subst hm
 exact atx s e _ hD rfl eQ h
end
def acE:Op->Bool
 | .move _=>true
 | .binOp ..=>true
 | .fieldAddr ..=>true
 | .indexAddr ..=>true
 | .call ⟨.builtin .len,_,_⟩=>true
 | _=>false
def uS:Op->Bool
 | .store ..=>true
 | .call ⟨.value (.func _),_,_⟩=>true
 | op=>lN op
theorem at1 {op:Op} (h:acE op=true):lN op=true:=by
 unfold acE at h
 split at h<;>first | rfl | cases h
theorem aB.aCo {P:Program} {H H':bK} {ρ:Operand->LV} {op:Op} {r:LV} (h:aB P H ρ op r) (hp:acE op=true):aB P H' ρ op r:=by
 cases h with
 | move x=>exact .move x
 | bin hx hy h=>exact .bin hx hy h
 | sh hx hy h=>exact .sh hx hy h
 | beq hx hy hT=>exact .beq hx hy hT
 | bne hx hy hT=>exact .bne hx hy hT
 | wb hx hy h=>exact .wb hx hy h
 | wL hx hy=>exact .wL hx hy
 | vU hx hy hT=>exact .vU hx hy hT
 | vT hx hy hT=>exact .vT hx hy hT
 | wY hx hy hT hE hs hd=>exact .wY hx hy hT hE hs hd
 | wv hq hT pM=>exact .wv hq hT pM
 | yj hq hT hk=>exact .yj hq hT hk
 | xz hx hT hE hi h0 hm=>exact .xz hx hT hE hi h0 hm
 | yC hx hT hE hf hi h0 pM=>exact .yC hx hT hE hf hi h0 pM
 | lV hx hT hE hi h0 pM hc=>exact .lV hx hT hE hi h0 pM hc
 | tB hx hT hE hi h0 hn=>exact .tB hx hT hE hi h0 hn
 | xb hx has hT=>exact .xb hx has hT
 | xR hx has hT=>exact .xR hx has hT
 | xL hx has hT=>exact .xL hx has hT
 | y5 hx has hT=>exact .y5 hx has hT
 | _=>first | (cases hp;done) | (simp [acE] at hp;done)
theorem put_comm (L:St) {d e:Nat} (h:d≠e) (v r:LV):(L.put (some d) v).put (some e) r=(L.put (some e) r).put (some d) v:=by
 have:∀ t,((L.put (some d) v).put (some e) r).slot t=((L.put (some e) r).put (some d) v).slot t:=fun t=>by
  rw [fQ,fQ,fQ,fQ]
  by_cases h1:t=e
  ·rw [if_pos h1,if_neg J,if_pos h1]
  ·rw [if_neg h1,if_neg h1]
 exact congrArg (fun f=>St.mk f L.heap) (funext this)
theorem qe (L:St) {d:Nat} {e:Option Nat} (h:e≠some d) (v r:LV):(L.put (some d) v).put e r=(L.put e r).put (some d) v:=by
 cases e with
 | none=>rfl
 | some e=>exact put_comm L (fun q=>h (by rw [q])) v r
section
variable {P:Program} {ops:Array Oper}
theorem akh {L:St} {d:Nat} {v:LV} {o:Oper} (h:d∉o.looksAt ops):∀ x∈o.op.operands,(L.put (some d) v).ev x=L.ev x:=fun x hx=>by
 cases x with
 | tmp t =>
  have ht:t∈o.looksAt ops:=by
   unfold Oper.looksAt
   simp only [List.mem_append,List.mem_filterMap]
   exact .inl ⟨.tmp t,by simpa using hx,rfl⟩
  show (L.put (some d) v).slot t=L.slot t
  rw [fQ,if_neg (fun q=>h (by rw [<-q];exact ht))]
 | const v=>rfl
 | func f=>rfl
 | global f=>rfl
theorem qJ {L:St} {d:Nat} {v:LV} {o:Oper} {res:Bool} (h:d∉o.looksAt ops) (hg:dE ops (L.put (some d) v) o res):dE ops L o res:=by
 unfold dE at hg ⊢
 cases hh:o.guard with
 | none=>rw [hh] at hg;exact hg
 | some pr =>
  obtain⟨j,want⟩:=pr
  rw [hh] at hg
  obtain⟨t,wg,q'⟩:=hg
  have aQ:t≠d:=fun q=>h (by rw [<-q];unfold Oper.looksAt;rw [hh];simp [wg])
  have e1:(L.put (some d) v).slot t=L.slot t:=by rw [fQ,if_neg aQ]
  refine⟨t,wg,?_⟩
  show (∃ b,L.slot t=_/\_)\/(L.slot t=_/\_)
  rw [<-e1]
  exact q'
theorem uP {f:Operand} {xs:Array Operand} {rI:Array TypeId} {x:Operand} (h:x∈xs.toList):x∈(Op.call ⟨.value f,xs,rI⟩).operands:=by
 have:=Array.mem_toList_iff.1 h
 simp [Op.operands,Call.operands,this]
theorem avy {L L2:St} {d:Nat} {v:LV} {o:Oper} (hk:uS o.op=true) (hl:d∉o.looksAt ops) (hd:o.dst≠some d) (h:Step P false ops o (L.put (some d) v) L2) :
  ∃ L1,Step P false ops o L L1/\L2=L1.put (some d) v/\∀ t,o.dst≠some t->L1.slot t=L.slot t:=by
 have fA:=akh (L:=L) (v:=v) hl
 have jc:∀ (M:St) (r:LV) t,M.slot t=L.slot t->o.dst≠some t->(M.put o.dst r).slot t=L.slot t:=fun M r t hM aQ=>by
  cases hh:o.dst with
  | none=>exact hM
  | some e=>rw [fQ,if_neg (fun q=>aQ (by rw [hh,q]))];exact hM
 cases h with
 | skip hg hL=>exact⟨L.put o.dst (.a7 []),.skip (qJ hl hg) rfl,by rw [hL,qe L hd],fun t ht=>jc L _ t rfl ht⟩
 | @val r fr H1 hg hle dt kP hL =>
  obtain⟨dst,op,ty,pos,after,gd⟩:=o
  have ado:∀ x∈op.operands,L.ev x=(L.put (some d) v).ev x:=fun x hx=>(fA x hx).symm
  have abh:kO P H1 L.ev (dst.getD 0) op r fr:=by
   cases kP with
   | pure hp =>
    by_cases fv:lN op=true
    ·exact .pure (hp.aaB fv ado)
    ·cases hp with
     | yg hf nR hb hn he hx hr h1 h2 =>
      refine .pure (.yg hf nR hb hn he ?_ hr h1 h2)
      rw [<-hx]
      exact List.map_congr_left fun x tY=>ado x (uP tY)
     | _=>first | (exfalso;exact fv rfl) | (exfalso;revert hk fv;simp [uS,lN])
   | alloc ha=>cases ha<;>(exfalso;revert hk;simp [uS,lN])
   | call hc =>
    cases hc with
    | func ha ye hlen mo =>
     refine .call (.func ?_ ye hlen mo)
     rw [show (_:Array Operand).toList.map L.ev=_ from List.map_congr_left fun x tY=>ado x (uP tY)]
     exact ha
    | cV=>exfalso;revert hk;simp [uS,lN]
    | mk=>exfalso;revert hk;simp [uS,lN]
  refine⟨⟨(L.put dst r).slot,H1⟩,.val (qJ hl hg) hle dt abh rfl,?_,fun t ht=>jc L r t rfl ht⟩
  rw [hL]
  have:=qe L hd v r
  exact congrArg (fun M=>St.mk (St.slot M) H1) this
 | st hg o4 =>
  obtain⟨dst,op,ty,pos,after,gd⟩:=o
  cases o4 with
  | store hp hb hs hm hi hy lC hT aQ =>
   rename_i T p x b sz i o' blk y y'
   have e1:=fA p bH
   have e2:=fA x bH
   rw [e1] at hp
   rw [e2] at lC hT aQ
   refine⟨_,.st (qJ hl hg) (.store hp hb hs hm hi hy lC hT aQ),?_,fun t ht=>?_⟩
   ·exact qe (L.bG b _) hd v .any
   ·exact jc (L.bG b _) .any t rfl ht
  | _=>exfalso;revert hk;simp [uS,lN]
 | stM fH hg jl =>
  obtain⟨dst,op,ty,pos,after,gd⟩:=o
  cases jl with
  | call hb hm hp ha hn ye nC jn =>
   rename_i f xs rI args r b blk blk'
   have em:xs.toList.map (L.put (some d) v).ev=xs.toList.map L.ev:=List.map_congr_left fun x tY=>fA x (uP tY)
   rw [em] at ha hn
   refine⟨_,.stM fH (qJ hl hg) (.call hb hm hp ha hn ye nC jn),?_,fun t ht=>?_⟩
   ·exact qe (L.bG b _) hd v _
   ·exact jc (L.bG b _) _ t rfl ht
  | afM=>exfalso;revert hk;simp [uS,lN]
  | aco=>exfalso;revert hk;simp [uS,lN]
  | ovl hf nR hb hn he ht hE hx hy sT h1 h2 dq =>
   rw [fA _ (uP aO)] at hx
   rw [fA _ (uP aO)] at hy
   refine⟨_,.stM fH (qJ hl hg) (.ovl hf nR hb hn he ht hE hx hy sT h1 h2 dq),?_,fun t ht=>?_⟩
   ·exact qe L hd v _
   ·exact jc L _ t rfl ht
def arf (ops:Array Oper) (i:Nat) (D:Array Bool):Bool :=
 D.size==ops.size && !D.getD i true && (iE (ops.getD i default)).all (fun j=>D.getD j false) && (ops.getD i default).guard.isNone && acE (ops.getD i default).op &&
 (List.range ops.size).all fun j=>j==i || D.getD j true || (uS (ops.getD j default).op && ((ops.getD j default).dst != (ops.getD i default).dst) &&
  (match (ops.getD i default).dst with | some d=>!((ops.getD j default).looksAt ops).contains d || (iE (ops.getD j default)).contains i | none=>false) &&
  (match (ops.getD j default).dst with | some e=>!((ops.getD i default).looksAt ops).contains e | none=>true))
theorem adu {m:Nat} {K:St->Prop} {L:St} {D:Array Bool} {d:Nat} {v:LV} (i:Nat) {o:Oper} (ho:ops[i]?=some o) (abj:o.dst=some d) (eQ:arf ops i D=true) (hv:aB P L.heap L.ev o.op v)
  (h:ic P ops m (D.setIfInBounds i true) (L.put (some d) v) K):ic P ops (m+1) D L K:=by
 have fP:∀ i o,ops[i]?=some o->ops.getD i default=o:=fun i o h=>by rw [Array.getD_eq_getD_getElem?,h];rfl
 have sV:i<ops.size:=(Array.getElem?_eq_some_iff.1 ho).1
 let C:Array Bool->Prop:=fun D=>D.size=ops.size/\D.getD i false=false/\(∀ j∈iE o,D.getD j false=true)/\∀ j oj,ops[j]?=some oj->j≠i->D.getD j false=false ->
  uS oj.op=true/\oj.dst≠some d/\(d∈oj.looksAt ops->i∈iE oj)/\∀ e,oj.dst=some e->e∉o.looksAt ops
 unfold arf at eQ
 rw [fP i o ho,abj] at eQ
 simp only [Bool.and_eq_true,List.all_eq_true,List.mem_range,Bool.or_eq_true,beq_iff_eq,Bool.not_eq_true',Option.isNone_iff_eq_none,bne_iff_ne,ne_eq] at eQ
 obtain⟨⟨⟨⟨⟨bD,pF⟩,uc⟩,vW⟩,afQ⟩,dR⟩:=eQ
 have hC:C D:=by
  refine⟨bD,by rw [rF J false true];exact pF,uc,fun j oj hj aQ tV=>?_⟩
  have hjl:j<ops.size:=(Array.getElem?_eq_some_iff.1 hj).1
  have:=dR j hjl
  rw [fP j oj hj] at this
  rcases this with(q | q) | q
  ·exact absurd q aQ
  ·rw [rF J true false,tV] at q;cases q
  ·obtain⟨⟨⟨q1,q2⟩,q3⟩,q4⟩:=q
   refine⟨q1,q2,fun hm=>?_,fun e he hm=>?_⟩
   ·rcases q3 with q | q
    ·rw [List.contains_iff_mem.2 hm] at q;cases q
    ·exact List.contains_iff_mem.1 q
   ·rw [he] at q4
    simp only [Bool.not_eq_true'] at q4
    rw [List.contains_iff_mem.2 hm] at q4;cases q4
 have acO:∀ L:St,aB P L.heap L.ev o.op v->Step P false ops o L (L.put (some d) v):=fun L hv=>by
  refine .val (fr:=[]) (H1:=L.heap) (r:=v) (by unfold dE;rw [vW]) (bK.le_refl _) (fun _ _ hh=>by cases hh) (.pure hv) ?_
  rw [abj];rfl
 clear bD pF uc dR
 have main:∀ (n:Nat) (D:Array Bool) (L:St),C D->aB P L.heap L.ev o.op v->ic P ops n (D.setIfInBounds i true) (L.put (some d) v) K->ic P ops (n+1) D L K:=by
  intro n
  induction n with
  | zero =>
   intro D L ⟨c1,c2,c3,c4⟩ hv hh
   have qz:i∈Region.ready .any ops D:=(nG c1).2 ⟨o,ho,by rw [rF J true false];exact c2,c3⟩
   refine⟨fun hr=>(by rw [hr] at qz;cases qz),fun j hj=>?_⟩
   by_cases jK:j=i
   ·subst jK
    exact⟨o,_,ho,acO L hv,hh⟩
   ·exfalso
    obtain⟨oj,h1,h2,h3⟩:=(nG c1).1 hj
    have:j∈Region.ready .any ops (D.setIfInBounds i true):=(nG (by simpa using c1)).2 ⟨oj,h1,by
     rw [Array.getD_eq_getD_getElem?,Array.getElem?_setIfInBounds_ne (Ne.symm jK),<-Array.getD_eq_getD_getElem?];exact h2,fun k hk=>by
     by_cases nI:i=k
     ·subst nI
      rw [Array.getD_eq_getD_getElem?,Array.getElem?_setIfInBounds_self_of_lt J];rfl
     ·rw [Array.getD_eq_getD_getElem?,Array.getElem?_setIfInBounds_ne nI,<-Array.getD_eq_getD_getElem?];exact h3 k hk⟩
    rw [hh.1] at this;cases this
  | succ n ih =>
   intro D L ⟨c1,c2,c3,c4⟩ hv hh
   have qz:i∈Region.ready .any ops D:=(nG c1).2 ⟨o,ho,by rw [rF J true false];exact c2,c3⟩
   refine⟨fun hr=>(by rw [hr] at qz;cases qz),fun j hj=>?_⟩
   by_cases jK:j=i
   ·subst jK
    exact⟨o,_,ho,acO L hv,hh⟩
   ·obtain⟨oj,h1,h2,h3⟩:=(nG c1).1 hj
    have hjl:j<ops.size:=(Array.getElem?_eq_some_iff.1 h1).1
    have tV:D.getD j false=false:=by rw [rF J false true];exact h2
    have ajd:j∈Region.ready .any ops (D.setIfInBounds i true):=(nG (by simpa using c1)).2 ⟨oj,h1,by
     rw [Array.getD_eq_getD_getElem?,Array.getElem?_setIfInBounds_ne (Ne.symm jK),<-Array.getD_eq_getD_getElem?];exact h2,fun k hk=>by
     by_cases nI:i=k
     ·subst nI
      rw [Array.getD_eq_getD_getElem?,Array.getElem?_setIfInBounds_self_of_lt J];rfl
     ·rw [Array.getD_eq_getD_getElem?,Array.getElem?_setIfInBounds_ne nI,<-Array.getD_eq_getD_getElem?];exact h3 k hk⟩
    obtain⟨oj',L2,g1,g2,g3⟩:=hh.2 j ajd
    rw [h1] at g1;cases g1
    obtain⟨k1,k2,k3,k4⟩:=c4 j oj h1 jK tV
    have kN:d∉oj.looksAt ops:=fun hm=>by
     have:=h3 i (k3 hm)
     rw [c2] at this;cases this
    obtain⟨L1,s1,s2,s3⟩:=avy k1 kN k2 g2
    refine⟨oj,L1,h1,s1,ih (D.setIfInBounds j true) L1 ⟨by simpa using c1,?_,fun k hk=>?_,fun k ok hk aQ ef=>?_⟩ ?_ ?_⟩
    ·rw [Array.getD_eq_getD_getElem?,Array.getElem?_setIfInBounds_ne jK,<-Array.getD_eq_getD_getElem?];exact c2
    ·by_cases sA:j=k
     ·subst sA
      rw [Array.getD_eq_getD_getElem?,Array.getElem?_setIfInBounds_self_of_lt J];rfl
     ·rw [Array.getD_eq_getD_getElem?,Array.getElem?_setIfInBounds_ne sA,<-Array.getD_eq_getD_getElem?];exact c3 k hk
    ·by_cases sA:j=k
     ·subst sA
      rw [Array.getD_eq_getD_getElem?,Array.getElem?_setIfInBounds_self_of_lt J] at ef
      cases ef
     ·rw [Array.getD_eq_getD_getElem?,Array.getElem?_setIfInBounds_ne sA,<-Array.getD_eq_getD_getElem?] at ef
      exact c4 k ok hk aQ ef
    ·refine(hv.aaB (at1 afQ) fun x hx=>?_).aCo afQ
     cases x with
     | tmp t =>
      have ht:t∈o.looksAt ops:=by
       unfold Oper.looksAt
       simp only [List.mem_append,List.mem_filterMap]
       exact .inl ⟨.tmp t,by simpa using hx,rfl⟩
      exact s3 t (fun q=>k4 t q ht)
     | const v=>rfl
     | func f=>rfl
     | global f=>rfl
    ·rw [<-s2]
     have:(D.setIfInBounds j true).setIfInBounds i true=(D.setIfInBounds i true).setIfInBounds j true:=by
      refine Array.ext_getElem? fun k=>?_
      by_cases q1:i=k
      ·subst q1
       rw [Array.getElem?_setIfInBounds_self_of_lt bm,Array.getElem?_setIfInBounds_ne jK,Array.getElem?_setIfInBounds_self_of_lt J]
      ·by_cases q2:j=k
       ·subst q2
        rw [Array.getElem?_setIfInBounds_ne q1,Array.getElem?_setIfInBounds_self_of_lt J,Array.getElem?_setIfInBounds_self_of_lt bm]
       ·rw [Array.getElem?_setIfInBounds_ne q1,Array.getElem?_setIfInBounds_ne q2,Array.getElem?_setIfInBounds_ne q2,Array.getElem?_setIfInBounds_ne q1]
     rw [this];exact g3
 exact main m D L hC hv h
end
theorem aw.bR {L:St} {t:Nat} {x y:LV} (bs:List Nat) (h0:bs.contains 0=false) (h:L.slot t=x) (hi:cG (L.bR bs).heap x y):aw L ((L.bR bs).put (some t) y):=by
 rintro n W X Z0 a w ⟨dL,bD,μ,Z,hc,hr⟩
 obtain⟨Z',vb,hz⟩:=hc.tO (pv bs h0)
 refine⟨dL,bD,μ,Z',by rw [jU];exact vb,fun s=>?_⟩
 have hm:=a9.mono hz (fun _ _ h=>h) (Frame.refl Z μ w) (hr s)
 rw [fQ]
 split
 ·rename_i cQ
  subst cQ
  rw [h] at hm
  exact a9.pL (LV.dZ hi.lay.2.2) (cG.zk (bc:=μ) vb hi hm)
 ·exact hm
theorem aw.hand {L:St} {t:Nat} {α:Type} {e:α->LV} {ag:Bool} {b sz len:Nat} {l:List α} {m:Bool} (he:gE e sz ag) (h:L.slot t=.ref b sz 0 len) (hb:L.heap b=some ⟨sz,l.map e,m⟩) (hl:len=l.length) (h0:b≠0:=by decide) :
  aw L ((L.put (some t) (.list sz (l.map e))).kill b):=by
 have h0':([b]:List Nat).contains 0=false:=by simp;omega
 have e1:=(aw.bR [b] h0' h (eM (bs:=[b]) he hb aO hl)).trans (aw.kill _ b h0)
 have e2:((L.bR [b]).put (some t) (.list sz (l.map e))).kill b=(L.put (some t) (.list sz (l.map e))).kill b:=by
  unfold St.kill
  congr 1
  funext c
  rw [jU,jU]
  by_cases lP:c=b
  ·simp [lP]
  ·simp only [St.bR,if_neg lP]
   cases L.heap c with
   | none=>rfl
   | some blk=>simp [lP]
 rw [<-e2]
 exact e1
theorem aw.bV {L:St} {t b sz:Nat} {y:LV} {m:Bool} (h:L.slot t=.aA b sz 0 0) (hb:L.heap b=some ⟨sz,[y],m⟩) (hs:y.au=sz) (ha:y.isAgg=true) (hp:y.pure=true) (h0:b≠0:=by decide):aw L ((L.put (some t) (.bV y)).kill b):=by
 have h0':([b]:List Nat).contains 0=false:=by simp;omega
 have e1:=(aw.bR [b] h0' h (.aA (blk:=⟨sz,[y],m && !([b]:List Nat).contains b⟩) (x:=y) (n:=sz) (ag:=true) (by simp only [St.bR,hb,Option.map_some]) rfl rfl hs (dJ hs ha) hp aO)).trans (aw.kill _ b h0)
 have e2:((L.bR [b]).put (some t) (.bV y)).kill b=(L.put (some t) (.bV y)).kill b:=by
  unfold St.kill
  congr 1
  funext c
  rw [jU,jU]
  by_cases lP:c=b
  ·simp [lP]
  ·simp only [St.bR,if_neg lP]
   cases L.heap c with
   | none=>rfl
   | some blk=>simp [lP]
 rw [<-e2]
 exact e1
theorem agt {P:Program} {L L0:St} {Q:iS->St->Prop} {ops:Array Oper} {id:Nat} (hw:aw L L0) (h:ic P ops ops.size (Array.replicate ops.size false) L0 (Q .normal)):cx P (.region id ops true) Q L:=⟨L0,hw,.inr (.inl ⟨rfl,h⟩)⟩
def adG:List (Nat × a8)->List (Nat × a8)->Prop
 | [],_=>True
 | (b,x) :: t,l=>hp l b=some x/\adG t l
theorem ajl {l':List (Nat × a8)}:∀ {l:List (Nat × a8)},adG l l'->∀ c x,hp l c=some x->hp l' c=some x
 | [],_,c,x,h=>by cases h
 | (b,y) :: t,h,c,x,hc=>by
  simp only [hp] at hc
  by_cases hb:c=b
  ·subst hb
   simp only [Nat.beq_refl,cond_true,Option.some.injEq] at hc
   subst hc
   exact h.1
  ·have:Nat.beq c b=false:=by rw [<-Bool.not_eq_true,Nat.beq_eq];exact hb
   rw [this] at hc
   exact ajl h.2 c x hc
theorem iy {l l':List (Nat × a8)} (h:adG l l') (h':adG l' l):hp l=hp l':=by
 funext c
 cases hc:hp l c with
 | some x=>exact(ajl h c x hc).symm
 | none =>
  cases vb:hp l' c with
  | none=>rfl
  | some x=>rw [ajl h' c x vb] at hc;cases hc
def ab5:Op->Bool
 | .store ..=>true
 | .build ..=>true
 | .box ..=>true
 | .alloc ..=>true
 | .buildSlice ..=>true
 | .makeSlice ..=>true
 | .call ⟨.value (.func _),_,_⟩=>true
 | .call ⟨.builtin .append,_,_⟩=>true
 | op=>lN op
section
variable {P:Program} {H:bK} {ρ oz:Operand->LV}
theorem ai6 {ps:Array (Nat × Operand)} (hr:∀ p∈ps.toList,oz p.2=ρ p.2):(ps.toList.map fun p=>(p.1,ρ p.2))=ps.toList.map fun p=>(p.1,oz p.2) :=
 List.map_congr_left fun p hp=>by rw [hr p hp]
theorem c9.aaB {d:Nat} {op:Op} {r:LV} {blk:a8} (h:c9 P ρ d op r blk) (hr:∀ x∈op.operands,oz x=ρ x):c9 P oz d op r blk:=by
 cases h with
 | make hT hz hE dz hb hl hc je hm dY=>exact .make hT hz hE dz hb ((hr _ bH).trans hl) ((hr _ bH).trans hc) je hm dY
 | @lit T E n ps z sz hT hz hE dz hn h0 dq hp =>
  have hq:∀ p∈ps.toList,oz p.2=ρ p.2:=fun p hp=>hr _ (by simp only [Op.operands,List.mem_toArray];exact List.mem_map.2 ⟨p,hp,rfl⟩)
  rw [ai6 hq]
  exact .lit hT hz hE dz hn h0 dq fun p jn=>by rw [hq p jn];exact hp p jn
 | ad8 hT hE=>exact .ad8 hT hE
 | @box T x aQ =>
  have e:=hr x bH
  rw [<-e]
  rw [<-e] at aQ
  exact .box aQ
 | alloc hz=>exact .alloc hz
theorem aB.ata {T:TypeId} {ps:Array (Nat × Operand)} {r:LV} (h:aB P H ρ (.build T ps) r) (hr:∀ x∈(Op.build T ps).operands,oz x=ρ x):aB P H oz (.build T ps) r:=by
 have hq:∀ p∈ps.toList,oz p.2=ρ p.2:=fun p hp=>hr _ (by simp only [Op.operands,List.mem_toArray];exact List.mem_map.2 ⟨p,hp,rfl⟩)
 cases h with
 | xH hT hE hf hz hp =>
  rw [ai6 hq]
  exact .xH hT hE hf hz fun p jn=>by rw [hq p jn];exact hp p jn
 | build hT hz hp =>
  rw [ai6 hq]
  exact .build hT hz fun p jn=>by rw [hq p jn];exact hp p jn
end
theorem ax6 (L:St) {d:Nat} {v:LV} (hv:∀ b,v.kill b=v) (b:Nat):(L.put (some d) v).kill b=(L.kill b).put (some d) v:=by
 have h1:∀ t,((L.put (some d) v).kill b).slot t=((L.kill b).put (some d) v).slot t:=fun t=>by
  rw [fQ]
  show (((L.put (some d) v).slot t).kill b)=_
  rw [fQ]
  split
  ·exact hv b
  ·rfl
 exact congrArg (fun f=>St.mk f (L.kill b).heap) (funext h1)
section
variable {P:Program} {ops:Array Oper}
def ahh (L:St):List Operand->Prop
 | []=>True
 | x :: xs=>(∀ b,(L.ev x).kill b=L.ev x)/\ahh L xs
theorem amo {L:St}:∀ {l:List Operand},ahh L l->∀ x∈l,∀ b,(L.ev x).kill b=L.ev x
 | _ :: _,h,_,.head _=>h.1
 | _ :: _,h,_,.tail _ hx=>amo h.2 _ hx
theorem gv {p:Prop} (h:p:=by first | exact And.intro (fun _=>rfl) trivial | exact And.intro (fun _=>rfl) (And.intro (fun _=>rfl) trivial) | exact And.intro (fun b=>LV.kt b _ pu) trivial):p:=h
theorem jq {p:Prop} (h:p:=by first | exact(fun _=>rfl) | exact(fun b=>LV.kt b _ pu) | exact(fun b=>LV.kt b _ (by assumption))):p:=h
end
section
variable {P:Program} {ops:Array Oper}
inductive aDq (P:Program) (ops:Array Oper) (o:Oper) (L L':St):Prop
 | base (h:Step P false ops o L L')
 | hand {M:St} {t b sz len:Nat} {vals:List LV} {m:Bool} (h:Step P false ops o L M) (ht:M.slot t=.ref b sz 0 len) (hb:M.heap b=some ⟨sz,vals,m⟩) (hp:aG vals=true) (hl:len=vals.length) (h0:b≠0)
   (e:L'=(M.put (some t) (.list sz vals)).kill b)
section
variable {D:Array Bool} {L:St} {K:St->Prop} {fuel:Nat}
end
section
variable {W w:World} {X:XS} {Z0:Nat->Prop} {a:Act} {n:Nat}
end
end
def wz:Op->Bool
 | .extract ..=>true
 | .assign _=>true
 | op=>ab5 op
section
variable {P:Program} {H:bK} {ρ oz:Operand->LV}
theorem kO.am6 {d:Nat} {op:Op} {r:LV} {fr:List (Nat × a8)} (kP:kO P H ρ d op r fr) (hk:wz op=true) (hr:∀ x∈op.operands,oz x=ρ x):kO P H oz d op r fr:=by
 cases kP with
 | pure hp =>
  by_cases fv:lN op=true
  ·exact .pure (hp.aaB fv hr)
  ·by_cases hbq:∃ T ps,op=.build T ps
   ·obtain⟨T,ps,rfl⟩:=hbq
    exact .pure (hp.ata hr)
   ·cases hp with
    | yg hf nR hb hn he hx h1' h1 h2 =>
     refine .pure (.yg hf nR hb hn he ?_ h1' h1 h2)
     rw [<-hx]
     exact List.map_congr_left fun x tY=>hr x (uP tY)
    | assign x=>rw [<-hr x bH];exact .pure (.assign x)
    | extract ht hq aQ=>exact .pure (.extract ((hr _ bH).trans ht) hq aQ)
    | build=>exact absurd ⟨_,_,rfl⟩ hbq
    | xH=>exact absurd ⟨_,_,rfl⟩ hbq
    | _=>first | (exfalso;exact fv rfl) | (exfalso;revert hk fv;simp [wz,ab5,lN])
 | alloc ha=>exact .alloc (ha.aaB hr)
 | call hc =>
  cases hc with
  | func ha ye hlen mo =>
   refine .call (.func ?_ ye hlen mo)
   rw [show (_:Array Operand).toList.map oz=_ from List.map_congr_left fun x tY=>hr x (uP tY)]
   exact ha
  | cV=>exfalso;revert hk;simp [wz,ab5,lN]
  | mk=>exfalso;revert hk;simp [wz,ab5,lN]
end
section
variable {P:Program} {ops:Array Oper}
theorem asz {L L2:St} {d:Nat} {v:LV} {o:Oper} (hv:∀ b,v.kill b=v) (hk:wz o.op=true) (hl:d∉o.looksAt ops) (hd:o.dst≠some d) (h:Step P false ops o (L.put (some d) v) L2) :
  ∃ L1,Step P false ops o L L1/\L2=L1.put (some d) v/\∀ t,o.dst≠some t->(∀ b,(L.slot t).kill b=L.slot t)->L1.slot t=L.slot t:=by
 have fA:=akh (L:=L) (v:=v) hl
 have jc:∀ (M:St) (r:LV) t,M.slot t=L.slot t->o.dst≠some t->(M.put o.dst r).slot t=L.slot t:=fun M r t hM aQ=>by
  cases hh:o.dst with
  | none=>exact hM
  | some e=>rw [fQ,if_neg (fun q=>aQ (by rw [hh,q]))];exact hM
 cases h with
 | skip hg hL=>exact⟨L.put o.dst (.a7 []),.skip (qJ hl hg) rfl,by rw [hL,qe L hd],fun t ht _=>jc L _ t rfl ht⟩
 | @val r fr H1 hg hle dt kP hL =>
  obtain⟨dst,op,ty,pos,after,gd⟩:=o
  have ado:∀ x∈op.operands,L.ev x=(L.put (some d) v).ev x:=fun x hx=>(fA x hx).symm
  have abh:kO P H1 L.ev (dst.getD 0) op r fr:=kP.am6 hk ado
  refine⟨⟨(L.put dst r).slot,H1⟩,.val (qJ hl hg) hle dt abh rfl,?_,fun t ht _=>jc L r t rfl ht⟩
  rw [hL]
  have:=qe L hd v r
  exact congrArg (fun M=>St.mk (St.slot M) H1) this
 | st hg o4 =>
  obtain⟨dst,op,ty,pos,after,gd⟩:=o
  cases o4 with
  | store hp hb hs hm hi hy lC hT aQ =>
   rename_i T p x b sz i o' blk y y'
   have e1:=fA p bH
   have e2:=fA x bH
   rw [e1] at hp
   rw [e2] at lC hT aQ
   refine⟨_,.st (qJ hl hg) (.store hp hb hs hm hi hy lC hT aQ),?_,fun t ht _=>?_⟩
   ·exact qe (L.bG b _) hd v .any
   ·exact jc (L.bG b _) .any t rfl ht
  | ga hx hb hs hm hlen fg fo hT hU hz hE dz jE hy bD fw dq =>
   rename_i T U E E' d' b sz len blk x y news z du
   have e1:=fA x jH
   have e2:=fA y jH
   rw [e1] at hx
   rw [e2] at hy
   refine⟨_,.st (qJ hl hg) (.ga hx hb hs hm hlen fg fo hT hU hz hE dz jE hy bD fw dq),?_,fun t ht hf=>?_⟩
   ·rw [ax6 L hv]
    exact qe ((L.kill b).bG d' _) hd v _
   ·exact jc ((L.kill b).bG d' _) _ t (hf b) ht
  | acF hx fg hT hU hz hE dz jE hy hn bD fw dq =>
   rename_i T U E E' d' sz x y news z du
   have e1:=fA x jH
   have e2:=fA y jH
   rw [e1] at hx
   rw [e2] at hy
   refine⟨_,.st (qJ hl hg) (.acF hx fg hT hU hz hE dz jE hy hn bD fw dq),?_,fun t ht hf=>?_⟩
   ·exact qe (L.bG d' _) hd v _
   ·exact jc (L.bG d' _) _ t rfl ht
  | _=>exfalso;revert hk;simp [wz,ab5,lN]
 | stM fH hg jl =>
  obtain⟨dst,op,ty,pos,after,gd⟩:=o
  cases jl with
  | call hb hm hp ha hn ye nC jn =>
   rename_i f xs rI args r b blk blk'
   have em:xs.toList.map (L.put (some d) v).ev=xs.toList.map L.ev:=List.map_congr_left fun x tY=>fA x (uP tY)
   rw [em] at ha hn
   refine⟨_,.stM fH (qJ hl hg) (.call hb hm hp ha hn ye nC jn),?_,fun t ht _=>?_⟩
   ·exact qe (L.bG b _) hd v _
   ·exact jc (L.bG b _) _ t rfl ht
  | aco hT hU hz hE dz hb hx jN mi hlen hy fg hgr dq hm fw =>
   rename_i T U E x y z k kl sz du len cp n d' b blk
   rw [fA x jH] at hx
   rw [fA y jH] at hy
   refine⟨_,.stM fH (qJ hl hg) (.aco hT hU hz hE dz hb hx jN mi hlen hy fg hgr dq hm fw),?_,fun t ht _=>?_⟩
   ·exact qe (L.bG d' _) hd v _
   ·exact jc (L.bG d' _) _ t rfl ht
  | ovl hf nR hb hn he ht hE hx hy sT h1 h2 dq =>
   rw [fA _ (uP aO)] at hx
   rw [fA _ (uP aO)] at hy
   refine⟨_,.stM fH (qJ hl hg) (.ovl hf nR hb hn he ht hE hx hy sT h1 h2 dq),?_,fun t ht _=>?_⟩
   ·exact qe L hd v _
   ·exact jc L _ t rfl ht
  | afM hT hU hz hE dz hb hx hy fg h0 dq hm fw =>
   rename_i T U E x y z k kl sz du n d'
   have e1:=fA x jH
   have e2:=fA y jH
   rw [e1] at hx
   rw [e2] at hy
   refine⟨_,.stM fH (qJ hl hg) (.afM hT hU hz hE dz hb hx hy fg h0 dq hm fw),?_,fun t ht _=>?_⟩
   ·exact qe (L.bG d' _) hd v _
   ·exact jc (L.bG d' _) _ t rfl ht
def aqi (ops:Array Oper) (i:Nat) (D:Array Bool):Bool :=
 D.size==ops.size && !D.getD i true && (iE (ops.getD i default)).all (fun j=>D.getD j false) && (ops.getD i default).guard.isNone && wz (ops.getD i default).op &&
 (List.range ops.size).all fun j=>j==i || D.getD j true || (wz (ops.getD j default).op && ((ops.getD j default).dst != (ops.getD i default).dst) &&
  (match (ops.getD i default).dst with | some d=>!((ops.getD j default).looksAt ops).contains d || (iE (ops.getD j default)).contains i | none=>false) &&
  (match (ops.getD j default).dst with | some e=>!((ops.getD i default).looksAt ops).contains e | none=>true))
theorem gu {m:Nat} {K:St->Prop} {L:St} {D:Array Bool} {d:Nat} {v:LV} (i:Nat) {o:Oper} (ho:ops[i]?=some o) (abj:o.dst=some d) (eQ:aqi ops i D=true) (hv:kO P (fun _=>none) L.ev d o.op v [])
  (hfv:∀ b,v.kill b=v) (hfo:ahh L o.op.operands.toList)
  (h:ic P ops m (D.setIfInBounds i true) (L.put (some d) v) K):ic P ops (m+1) D L K:=by
 have fP:∀ i o,ops[i]?=some o->ops.getD i default=o:=fun i o h=>by rw [Array.getD_eq_getD_getElem?,h];rfl
 have sV:i<ops.size:=(Array.getElem?_eq_some_iff.1 ho).1
 let C:Array Bool->Prop:=fun D=>D.size=ops.size/\D.getD i false=false/\(∀ j∈iE o,D.getD j false=true)/\∀ j oj,ops[j]?=some oj->j≠i->D.getD j false=false ->
  wz oj.op=true/\oj.dst≠some d/\(d∈oj.looksAt ops->i∈iE oj)/\∀ e,oj.dst=some e->e∉o.looksAt ops
 unfold aqi at eQ
 rw [fP i o ho,abj] at eQ
 simp only [Bool.and_eq_true,List.all_eq_true,List.mem_range,Bool.or_eq_true,beq_iff_eq,Bool.not_eq_true',Option.isNone_iff_eq_none,bne_iff_ne,ne_eq] at eQ
 obtain⟨⟨⟨⟨⟨bD,pF⟩,uc⟩,vW⟩,afQ⟩,dR⟩:=eQ
 have hC:C D:=by
  refine⟨bD,by rw [rF J false true];exact pF,uc,fun j oj hj aQ tV=>?_⟩
  have hjl:j<ops.size:=(Array.getElem?_eq_some_iff.1 hj).1
  have:=dR j hjl
  rw [fP j oj hj] at this
  rcases this with(q | q) | q
  ·exact absurd q aQ
  ·rw [rF J true false,tV] at q;cases q
  ·obtain⟨⟨⟨q1,q2⟩,q3⟩,q4⟩:=q
   refine⟨q1,q2,fun hm=>?_,fun e he hm=>?_⟩
   ·rcases q3 with q | q
    ·rw [List.contains_iff_mem.2 hm] at q;cases q
    ·exact List.contains_iff_mem.1 q
   ·rw [he] at q4
    simp only [Bool.not_eq_true'] at q4
    rw [List.contains_iff_mem.2 hm] at q4;cases q4
 have acO:∀ L:St,kO P (fun _=>none) L.ev d o.op v []->Step P false ops o L (L.put (some d) v):=fun L hv=>by
  refine .val (fr:=[]) (H1:=L.heap) (r:=v) (by unfold dE;rw [vW]) (bK.le_refl _) (fun _ _ hh=>by cases hh) (by rw [abj];exact hv.le fun b blk h=>by cases h) ?_
  rw [abj];rfl
 clear bD pF uc dR
 have azv:∀ x∈o.op.operands,∀ b,(L.ev x).kill b=L.ev x:=fun x hx=>amo hfo x (Array.mem_toList_iff.2 hx)
 clear hfo
 have main:∀ (n:Nat) (D:Array Bool) (L:St),C D->kO P (fun _=>none) L.ev d o.op v []->(∀ x∈o.op.operands,∀ b,(L.ev x).kill b=L.ev x)->ic P ops n (D.setIfInBounds i true) (L.put (some d) v) K->ic P ops (n+1) D L K:=by
  intro n
  induction n with
  | zero =>
   intro D L ⟨c1,c2,c3,c4⟩ hv _ hh
   have qz:i∈Region.ready .any ops D:=(nG c1).2 ⟨o,ho,by rw [rF J true false];exact c2,c3⟩
   refine⟨fun hr=>(by rw [hr] at qz;cases qz),fun j hj=>?_⟩
   by_cases jK:j=i
   ·subst jK
    exact⟨o,_,ho,acO L hv,hh⟩
   ·exfalso
    obtain⟨oj,h1,h2,h3⟩:=(nG c1).1 hj
    have:j∈Region.ready .any ops (D.setIfInBounds i true):=(nG (by simpa using c1)).2 ⟨oj,h1,by
     rw [Array.getD_eq_getD_getElem?,Array.getElem?_setIfInBounds_ne (Ne.symm jK),<-Array.getD_eq_getD_getElem?];exact h2,fun k hk=>by
     by_cases nI:i=k
     ·subst nI
      rw [Array.getD_eq_getD_getElem?,Array.getElem?_setIfInBounds_self_of_lt J];rfl
     ·rw [Array.getD_eq_getD_getElem?,Array.getElem?_setIfInBounds_ne nI,<-Array.getD_eq_getD_getElem?];exact h3 k hk⟩
    rw [hh.1] at this;cases this
  | succ n ih =>
   intro D L ⟨c1,c2,c3,c4⟩ hv hfo hh
   have qz:i∈Region.ready .any ops D:=(nG c1).2 ⟨o,ho,by rw [rF J true false];exact c2,c3⟩
   refine⟨fun hr=>(by rw [hr] at qz;cases qz),fun j hj=>?_⟩
   by_cases jK:j=i
   ·subst jK
    exact⟨o,_,ho,acO L hv,hh⟩
   ·obtain⟨oj,h1,h2,h3⟩:=(nG c1).1 hj
    have hjl:j<ops.size:=(Array.getElem?_eq_some_iff.1 h1).1
    have tV:D.getD j false=false:=by rw [rF J false true];exact h2
    have ajd:j∈Region.ready .any ops (D.setIfInBounds i true):=(nG (by simpa using c1)).2 ⟨oj,h1,by
     rw [Array.getD_eq_getD_getElem?,Array.getElem?_setIfInBounds_ne (Ne.symm jK),<-Array.getD_eq_getD_getElem?];exact h2,fun k hk=>by
     by_cases nI:i=k
     ·subst nI
      rw [Array.getD_eq_getD_getElem?,Array.getElem?_setIfInBounds_self_of_lt J];rfl
     ·rw [Array.getD_eq_getD_getElem?,Array.getElem?_setIfInBounds_ne nI,<-Array.getD_eq_getD_getElem?];exact h3 k hk⟩
    obtain⟨oj',L2,g1,g2,g3⟩:=hh.2 j ajd
    rw [h1] at g1;cases g1
    obtain⟨k1,k2,k3,k4⟩:=c4 j oj h1 jK tV
    have kN:d∉oj.looksAt ops:=fun hm=>by
     have:=h3 i (k3 hm)
     rw [c2] at this;cases this
    obtain⟨L1,s1,s2,s3⟩:=asz hfv k1 kN k2 g2
    have zN:∀ x∈o.op.operands,L1.ev x=L.ev x:=fun x hx=>by
     cases x with
     | tmp t =>
      have ht:t∈o.looksAt ops:=by
       unfold Oper.looksAt
       simp only [List.mem_append,List.mem_filterMap]
       exact .inl ⟨.tmp t,by simpa using hx,rfl⟩
      exact s3 t (fun q=>k4 t q ht) (hfo _ hx)
     | const v=>rfl
     | func f=>rfl
     | global f=>rfl
    refine⟨oj,L1,h1,s1,ih (D.setIfInBounds j true) L1 ⟨by simpa using c1,?_,fun k hk=>?_,fun k ok hk aQ ef=>?_⟩ (hv.am6 afQ zN) (fun x hx b=>by rw [zN x hx];exact hfo x hx b) ?_⟩
    ·rw [Array.getD_eq_getD_getElem?,Array.getElem?_setIfInBounds_ne jK,<-Array.getD_eq_getD_getElem?];exact c2
    ·by_cases sA:j=k
     ·subst sA
      rw [Array.getD_eq_getD_getElem?,Array.getElem?_setIfInBounds_self_of_lt J];rfl
     ·rw [Array.getD_eq_getD_getElem?,Array.getElem?_setIfInBounds_ne sA,<-Array.getD_eq_getD_getElem?];exact c3 k hk
    ·by_cases sA:j=k
     ·subst sA
      rw [Array.getD_eq_getD_getElem?,Array.getElem?_setIfInBounds_self_of_lt J] at ef
      cases ef
     ·rw [Array.getD_eq_getD_getElem?,Array.getElem?_setIfInBounds_ne sA,<-Array.getD_eq_getD_getElem?] at ef
      exact c4 k ok hk aQ ef
    ·rw [<-s2]
     have:(D.setIfInBounds j true).setIfInBounds i true=(D.setIfInBounds i true).setIfInBounds j true:=by
      refine Array.ext_getElem? fun k=>?_
      by_cases q1:i=k
      ·subst q1
       rw [Array.getElem?_setIfInBounds_self_of_lt bm,Array.getElem?_setIfInBounds_ne jK,Array.getElem?_setIfInBounds_self_of_lt J]
      ·by_cases q2:j=k
       ·subst q2
        rw [Array.getElem?_setIfInBounds_ne q1,Array.getElem?_setIfInBounds_self_of_lt J,Array.getElem?_setIfInBounds_self_of_lt bm]
       ·rw [Array.getElem?_setIfInBounds_ne q1,Array.getElem?_setIfInBounds_ne q2,Array.getElem?_setIfInBounds_ne q2,Array.getElem?_setIfInBounds_ne q1]
     rw [this];exact g3
 exact main m D L hC hv azv h
end
end Go.Lg
end
