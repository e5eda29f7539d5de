/- Texts B1, M1, R6, B2, C1, C2, D1, E1, E3, K1, K4, H1, V1, H2, TW, K3, G1, S1, K5, K8, K9, K13, K2, K10, K7, K11, K14, K16, P3, K18, P5, K21, K25, LgS, K26, LgT, Y1, T1 of this proof, joined. -/
import Derived.Test.YtfpdccbgngdhkaaGreatQJ4
set_option linter.unusedVariables false
set_option linter.unusedSimpArgs false
section
set_option linter.unusedVariables false
set_option linter.unusedSimpArgs false
set_option maxHeartbeats 8000000
set_option maxRecDepth 100000
attribute [local irreducible] Go.Lg.opsL Go.Lg.wpL Go.Lg.thenL Go.Lg.blockL
namespace Go.Proofs.YtfpdccbgngdhkaaGreat
open Go.Lg
end Go.Proofs.YtfpdccbgngdhkaaGreat
namespace Go.Lg
open Go.Proofs.YtfpdccbgngdhkaaGreat in
theorem OpP.build0 {P:Program} {H:Heap} {ρ:Operand→LV} {T:TypeId} (hT:StructLay P T [(1,false),(1,false),(1,false)]) (hz:ZeroOK P T (.agg [.v (.bool false),.list 1 [],.list 1 []])):OpP P H ρ (.build T #[]) (ratL 0):=by
 rw [ratL_zero]
 exact OpP.build (zs:=[.v (.bool false),.list 1 [],.list 1 []]) (ps:=#[]) hT hz (by intro p hp;cases hp)
end Go.Lg
namespace Go.Proofs.YtfpdccbgngdhkaaGreat
open Go.Lg
theorem dfq:(default:Rat)=0:=rfl
def stp (t:Rat):List Rat→List Rat
 | x :: y :: r=>((1-t)*x+t*y) :: stp t (y :: r)
 | _=>[]
theorem stp_len (t:Rat):∀ p:List Rat,(stp t p).length=p.length-1
 | []=>rfl
 | [_]=>rfl
 | x :: y :: r=>by simp [stp,stp_len t (y :: r)]
theorem stp_get (t:Rat):∀ (p:List Rat) (i:Nat),i+1<p.length→(stp t p).getD i 0=(1-t)*p.getD i 0+t*p.getD (i+1) 0
 | [],i,h=>by simp at h
 | [_],i,h=>by simp at h
 | x :: y :: r,0,_=>by simp [stp]
 | x :: y :: r,i+1,h=>by
   have:=stp_get t (y :: r) i (by simpa using h)
   simpa [stp] using this
theorem getD_mem {p:List Rat} {i:Nat} (h:i<p.length):p.getD i 0∈p:=by
 rw [List.getD_eq_getElem?_getD,List.getElem?_eq_getElem h];exact List.getElem_mem h
theorem mem_getD {p:List Rat} {x:Rat} (h:x∈p):∃ i,i<p.length∧p.getD i 0=x:=by
 obtain⟨i,hi,rfl⟩:=List.getElem_of_mem h
 exact⟨i,hi,by rw [List.getD_eq_getElem?_getD,List.getElem?_eq_getElem hi];rfl⟩
def loF (t:Rat):Nat→List Rat→List Rat
 | 0,_=>[]
 | k+1,p=>p.getD 0 0 :: loF t k (stp t p)
def hiF (t:Rat):Nat→List Rat→List Rat→List Rat
 | 0,q,tl=>q++tl
 | k+1,q,tl=>hiF t k (stp t q) (q.getD k 0 :: tl)
def loP (p:List Rat) (t:Rat):List Rat:=loF t p.length p
def hiP (p:List Rat) (t:Rat):List Rat:=hiF t p.length p []
theorem loF_len (t:Rat):∀ (k:Nat) (p:List Rat),(loF t k p).length=k
 | 0,_=>rfl
 | k+1,p=>by simp [loF,loF_len t k]
theorem loP_len (p:List Rat) (t:Rat):(loP p t).length=p.length:=loF_len t _ _
theorem set_mid {α:Type} (A B:List α) (x v:α) {n:Nat} (h:n=A.length):(A++x :: B).set n v=A++v :: B:=by subst h;simp
theorem getD_app1 {α:Type} (A B:List α) (d:α) {i:Nat} (h:i<A.length):(A++B).getD i d=A.getD i d:=by simp [List.getD_eq_getElem?_getD,List.getElem?_append_left h]
theorem getD_app2 {α:Type} (A B:List α) (d:α) {i:Nat} (h:A.length≤i):(A++B).getD i d=B.getD (i-A.length) d:=by simp [List.getD_eq_getElem?_getD,List.getElem?_append_right h]
theorem getD_dropR (l:List Rat) (k p:Nat):(l.drop k).getD p 0=l.getD (k+p) 0:=by
 rw [List.getD_eq_getElem?_getD,List.getD_eq_getElem?_getD,List.getElem?_drop]
theorem mid_get {t:Rat} {q tl:List Rat} {i:Nat} (h:i+1<q.length) :
  ((stp t q).take i++(q.drop i++tl)).getD i 0=q.getD i 0∧((stp t q).take i++(q.drop i++tl)).getD (i+1) 0=q.getD (i+1) 0:=by
 have hl:((stp t q).take i).length=i:=by rw [List.length_take,stp_len];omega
 constructor
 ·rw [getD_app2 _ _ _ (by omega),hl,Nat.sub_self,getD_app1 _ _ _ (by simp;omega),getD_dropR,Nat.add_zero]
 ·rw [getD_app2 _ _ _ (by omega),hl,getD_app1 _ _ _ (by simp;omega),getD_dropR];congr 1;omega
theorem mid_set {t:Rat} {q tl:List Rat} {i:Nat} (h:i+1<q.length) :
  ((stp t q).take i++(q.drop i++tl)).set i ((1-t)*q.getD i 0+t*q.getD (i+1) 0)=(stp t q).take (i+1)++(q.drop (i+1)++tl):=by
 have hl:((stp t q).take i).length=i:=by rw [List.length_take,stp_len];omega
 rw [List.drop_eq_getElem_cons (by omega),List.cons_append,set_mid _ _ _ _ hl.symm,←stp_get t q i h]
 have hs:i<(stp t q).length:=by rw [stp_len];omega
 rw [List.take_succ_eq_append_getElem hs,List.append_assoc]
 congr 1
 rw [List.getD_eq_getElem?_getD,List.getElem?_eq_getElem hs]
 simp
theorem mid_end {t:Rat} {q tl:List Rat} {k:Nat} (h:q.length=k+1):(stp t q).take k++(q.drop k++tl)=stp t q++(q.getD k 0 :: tl):=by
 rw [List.take_of_length_le (by rw [stp_len];omega),List.drop_eq_getElem_cons (by omega),List.drop_of_length_le (by omega),List.getD_eq_getElem?_getD,List.getElem?_eq_getElem (by omega)]
 simp
theorem stp_sz {t:Rat} {q:List Rat} {C M k:Nat} (hC:rl (1-t)+rl t+1≤C) (h:∀ x∈q,(rl x+C)*2 ^ (k+1)≤M):∀ x∈stp t q,(rl x+C)*2 ^ k≤M:=by
 intro x hx
 obtain⟨i,hi,rfl⟩:=mem_getD hx
 rw [stp_len] at hi
 rw [stp_get t q i (by omega)]
 have h1:=h _ (getD_mem (p:=q) (i:=i) (by omega))
 have h2:=h _ (getD_mem (p:=q) (i:=i+1) (by omega))
 have e1:=rl_add ((1-t)*q.getD i 0) (t*q.getD (i+1) 0)
 have e2:=rl_mul (1-t) (q.getD i 0)
 have e3:=rl_mul t (q.getD (i+1) 0)
 rw [Nat.pow_succ] at h1 h2
 have hle:rl ((1-t)*q.getD i 0+t*q.getD (i+1) 0)+C≤(rl (q.getD i 0)+C)+(rl (q.getD (i+1) 0)+C):=by omega
 have:=Nat.mul_le_mul_right (2 ^ k) hle
 have e6:=Nat.add_mul (rl (q.getD i 0)+C) (rl (q.getD (i+1) 0)+C) (2 ^ k)
 have e4:(rl (q.getD i 0)+C)*(2 ^ k*2)=(rl (q.getD i 0)+C)*2 ^ k*2:=by rw [Nat.mul_assoc]
 have e5:(rl (q.getD (i+1) 0)+C)*(2 ^ k*2)=(rl (q.getD (i+1) 0)+C)*2 ^ k*2:=by rw [Nat.mul_assoc]
 omega
theorem cp_take {o p:List Rat} {k:Nat} (hk:k<p.length) (hol:o.length=p.length) (ht:o.take k=p.take k):(o.set k (p.getD k 0)).take (k+1)=p.take (k+1):=by
 rw [List.take_succ_eq_append_getElem (by simpa [hol] using hk),List.take_succ_eq_append_getElem hk,List.take_set_of_le (Nat.le_refl _),ht]
 congr 1
 simp [List.getD_eq_getElem?_getD,List.getElem?_eq_getElem hk]
theorem r1r:((1:Int):Rat)=1:=rfl
theorem sz_rl {x:Rat} {C M k:Nat} (h:(rl x+C)*2 ^ k≤M):rl x+C≤M:=by
 have:1≤2 ^ k:=Nat.pow_pos (by omega)
 exact Nat.le_trans (Nat.le_mul_of_pos_right _ this) h
theorem sz_len {p:List Rat} {C:Nat} (hC:1≤C) (h:∀ x∈p,(rl x+C)*2 ^ p.length≤1073741824):p.length≤30:=by
 cases p with
 | nil=>simp
 | cons x r =>
  have h1:=h x (by simp)
  have h2:1*2 ^ (x :: r).length≤(rl x+C)*2 ^ (x :: r).length:=Nat.mul_le_mul_right _ (by omega)
  rcases Nat.lt_or_ge 30 (x :: r).length with h3 | h3
  ·have h4:2 ^ 31≤2 ^ (x :: r).length:=Nat.pow_le_pow_right (by omega) h3
   omega
  ·exact h3
theorem mid_len {t:Rat} {q tl:List Rat} {i:Nat} (h:i<q.length):((stp t q).take i++(q.drop i++tl)).length=q.length+tl.length:=by
 simp [stp_len];omega
namespace H_c_copiedO
theorem zSm {p q:Prop} (k:q) (e:p=q:=by simp only [e1,e2,e3,e4,p1,p2,p3,q1,q2,q3,l1,t0,t1,r1,r2,r3,r4,Nat.zero_add,Nat.reduceMul,Nat.reduceAdd,b1,b2,b3,b4,b5,b6,i1,i2,i3,i4,i5,i6,Nat.reduceBEq,dfq,Rat.add_zero,kills_map ratE,ratL_kill,LV.kill,kills];exact rfl):p:=e.mpr k
end H_c_copiedO
open H_c_copiedO in
theorem c_copiedO (p:List Rat) (hl:p.length≤1048576) (hpr:∀ x∈p,rl x≤274877906944):CallOK Tryz.prog 257 [.list 3 (p.map ratL)] (.ref 1 3 0 p.length) [⟨3,p.map ratL,true⟩]:=by
 refine fnO Tryz.func257 ?_
 refine zg9 ?_
 refine st_alloc rfl rfl (.mkE (n:=p.length) (m:=p.length) ml ml om om om) ?_
 refine zg12 ?_
 refine lp2 (fun(k:Nat) (o:List Rat) L=>(((((St.mk L.slot (hp [(8,⟨3,o.map ratL,true⟩)])).put (some 3) (.ref 8 3 0 p.length)).put (some 9) (.list 3 (p.map ratL))).put (some 10) (nI64 p.length)).put (some 11) (nI64 k))) (fun k o=>k≤p.length∧o.length=p.length∧o.take k=p.take k) (fun k o=>p.length-k) 0 (List.replicate p.length 0) ⟨Nat.zero_le _,by simp,rfl⟩ ?_
 rintro k o L1 ⟨hk,hol,ht⟩
 refine zg6 ?_
 refine wl_if rfl (fun h12r h12=>?_) (fun h12r h12=>?_)
 ·have hk2:k<p.length:=by omega
  have hrk:=hpr _ (getD_mem hk2)
  refine zg18 ?_
  refine st_pure rfl (.build0 SL29 Z29a) ?_
  refine cp am2 (c_RAdd (p.getD k 0) 0 (by rw [show rl 0=1 from rfl];omega)) ?_
  refine zg5 ?_
  refine wl_regW (Weak.kill _ 5) ?_
  refine zg4 ?_
  exact nx2 (k+1) (o.set k (p.getD k 0)) ⟨by omega,by simp [hol],cp_take hk2 hol ht⟩
 ·obtain rfl:k=p.length:=by omega
  rw [List.take_length,←hol,List.take_length] at ht
  refine zg12 ?_
  subst ht
  exact ret1own rfl rfl (pures_map ratE _)
namespace H_c_halves
theorem zSm {p q:Prop} (k:q) (e:p=q:=by simp only [e1,e2,e3,e4,p1,p2,p3,q1,q2,q3,l1,t0,t1,r1,r2,r3,r4,Nat.zero_add,Nat.reduceMul,Nat.reduceAdd,b1,b2,b3,b4,b5,b6,i1,i2,i3,i4,i5,i6,Nat.reduceBEq,frz_nil,dfq,Rat.add_zero,List.append_nil,List.length_append,r1r,ek,eq0,emg1,emg2,ems,eme,ei1,take_map_len,map_snoc,len_snoc,List.length_cons,List.length_nil,kills_map ratE,ratL_kill,LV.kill,kills];exact rfl):p:=e.mpr k
end H_c_halves
open H_c_halves in
theorem c_halves (p:List Rat) (t:Rat) (cc:Nat) (hC:rl (1-t)+rl t+1≤cc) (hcc:cc≤1073741824) (hs:∀ x∈p,(rl x+cc)*2 ^ p.length≤1073741824):CallP Tryz.prog 198 [.list 3 (p.map ratL),ratL t] (.tup [.list 3 ((loP p t).map ratL),.list 3 ((hiP p t).map ratL)]):=by
 have hlen:=sz_len (Nat.le_trans (Nat.le_add_left 1 _) hC) hs
 have hpr:∀ x∈p,rl x≤274877906944:=fun x hx=>by have:=sz_rl (hs x hx);omega
 refine fnP Tryz.func198 ?_
 have ek:True:=trivial
 have eq0:True:=trivial
 have emg1:True:=trivial
 have emg2:True:=trivial
 have ems:True:=trivial
 have eme:True:=trivial
 have ei1:True:=trivial
 refine zg8 ?_
 refine wl_regD 4 (by decide +kernel) ?_
 refine cp am1 (c_RInt 1 (by decide) (by decide)) ?_
 refine zg1 ?_
 refine cp am2 (c_RSub _ _ (by rw [show rl ((1:Int):Rat)=1 from rfl];omega)) ?_
 refine zg7 ?_
 refine st_call1 [] rfl rfl (.cons (.pure (pure_lst ratE _ _)) .nil) (c_copiedO p (by omega) hpr) (pures_map ratE _) rfl ?_
 refine zg7 ?_
 refine st_alloc rfl rfl (.makeM (n:=0) (m:=p.length) ratE Tryz.underlying159 Z29 T29 B29 rfl rfl (by omega) (by omega) (by omega)) ?_
 refine zg13 ?_
 refine wl_weak (Weak.mv (t:=8) (b:=18) 33 (by decide) (by decide) (by decide) rfl rfl rfl) ?_
 refine lp4 (fun(k:Nat) (q tl lo:List Rat) L=>((((((St.mk L.slot (hp [(3,⟨3,[ratL t],true⟩),(6,⟨3,[ratL (1-t)],true⟩),(1000241,⟨3,(q++tl).map ratL,true⟩),(33,⟨3,lo.map ratL,true⟩)])).put (some 3) (.eptr 3 3 0 0)).put (some 6) (.eptr 6 3 0 0)).put (some 7) (.ref 1000241 3 0 p.length)).put (some 8) (.ref 33 3 0 lo.length)).put (some 9) (iL ((k:Int)-1)))) (fun k q tl lo=>q.length=k∧k+tl.length=p.length∧lo.length+k=p.length∧lo++loF t k q=loP p t∧hiF t k q tl=hiP p t∧∀ x∈q,(rl x+cc)*2 ^ k≤1073741824) (fun k q tl lo=>k) p.length p ([]) ([]) ⟨rfl,by simp,by simp,by simp [loP],rfl,hs⟩ ?_
 rintro k q tl lo L1 ⟨hq,htl,hlo,hL,hH,hsz⟩
 refine zg7 ?_
 refine wl_if rfl (fun h23r h23=>?_) (fun h23r h23=>?_)
 ·obtain⟨j,rfl⟩:∃ j,k=j+1:=⟨k-1,by omega⟩
  have ek:(((j+1:Nat):Int)-1)=(j:Int):=by omega
  have eq0:(q++tl).getD 0 0=q.getD 0 0:=getD_app1 _ _ _ (by omega)
  have hq0:=sz_rl (hsz _ (getD_mem (i:=0) (by omega)))
  refine zg10 ?_
  refine st_pure rfl (.build0 SL29 Z29a) ?_
  simp only [tz0,dfq,Nat.zero_add,eq0]
  refine cp am2 (c_RAdd _ 0 (by rw [show rl 0=1 from rfl];omega)) ?_
  refine zg1 ?_
  refine st_store rfl (.app (news:=[ratL (q.getD 0 0+0)]) rfl rfl rfl rfl rfl (by simp) (.inl rfl) (by decide) Tryz.underlying159 Tryz.underlying159 Z29a T29 rfl B29 (.inl ⟨32,0,_,rfl,by decide,rfl,rfl,by simp,rfl,by simp [pures,ratE.pure]⟩) (by simp;omega) (by simp;omega) (by decide)) ?_
  refine zg4 ?_
  refine wl_regW (Weak.kill _ 32) ?_
  refine zg5 ?_
  refine lp1 (fun(i:Nat) L=>((((((((St.mk L.slot (hp [(3,⟨3,[ratL t],true⟩),(6,⟨3,[ratL (1-t)],true⟩),(1000241,⟨3,((stp t q).take i++(q.drop i++tl)).map ratL,true⟩),(33,⟨3,(lo++[q.getD 0 0]).map ratL,true⟩)])).put (some 3) (.eptr 3 3 0 0)).put (some 6) (.eptr 6 3 0 0)).put (some 7) (.ref 1000241 3 0 p.length)).put (some 8) (.ref 33 3 0 (lo.length+1))).put (some 9) (nI64 j)).put (some 34) (nI64 j)).put (some 35) (nI64 i))) (fun i=>i≤j) (fun i=>j-i) 0 (Nat.zero_le _) ?_
  rintro i L2 hi
  refine zg6 ?_
  refine wl_if rfl (fun h36r h36=>?_) (fun h36r h36=>?_)
  ·have hij:i<j:=by omega
   have ei1:((i:Int)+1).toNat=i+1:=by omega
   obtain⟨emg1,emg2⟩:=mid_get (t:=t) (q:=q) (tl:=tl) (i:=i) (by omega)
   have ems:=mid_set (t:=t) (q:=q) (tl:=tl) (i:=i) (by omega)
   have hr1:=sz_rl (hsz _ (getD_mem (i:=i) (by omega)))
   have hr2:=sz_rl (hsz _ (getD_mem (i:=i+1) (by omega)))
   have hm1:=rl_mul (1-t) (q.getD i 0)
   have hm2:=rl_mul t (q.getD (i+1) 0)
   have hml:=mid_len (t:=t) (q:=q) (tl:=tl) (i:=i) (by omega)
   refine zg10 ?_
   refine wl_regD 17 (by decide +kernel) ?_
   refine zg7 ?_
   simp only [t1,dfq,Nat.zero_add,emg1]
   refine cp am2 (c_RMul _ _ (by omega)) ?_
   refine zg6 ?_
   simp only [ei1,dfq,Nat.zero_add,emg2]
   refine cp am2 (c_RMul _ _ (by omega)) ?_
   refine cp am2 (c_RAdd _ _ (by omega)) ?_
   refine zg10 ?_
   exact nx1 (i+1) (by omega)
  ·obtain rfl:j=i:=by omega
   have eme:=mid_end (t:=t) (tl:=tl) hq
   refine zg12 ?_
   exact nx4 j (stp t q) (q.getD j 0 :: tl) (lo++[q.getD 0 0]) ⟨by rw [stp_len];omega,by simp;omega,by simp;omega,by rw [List.append_assoc];exact hL,hH,stp_sz hC hsz⟩
 ·obtain rfl:k=0:=by omega
  obtain rfl:q=[]:=List.eq_nil_of_length_eq_zero hq
  rw [loF,List.append_nil] at hL
  rw [hiF] at hH
  refine zg14 ?_
  rw [←hL,←hH]
  exact ret2f [33,1000241] rfl rfl (imm_refm ratE rfl rfl rfl) rfl (imm_refm ratE rfl rfl (by simpa using htl.symm))
def diceL (l:List Int) (k:Nat):LV:=.agg [.list 1 (l.map i64L),.v (.int .i64 (k:Nat))]
theorem dice_pure (l:List Int) (k:Nat):pures [diceL l k]=true:=by simp [pures,diceL,LV.pure,pures_map i64E]
theorem rem64 {a b:Int} (h:b≠0):binI .rem .i64 a b=some (.int .i64 (a.tmod b)):=by simp [binI,h]
theorem dfi:(default:Int)=0:=rfl
def nxV (l:List Int) (k:Nat) (n:Int):Int:=if k<l.length then l.getD k 0 % n else 0
def nxK (l:List Int) (k:Nat):Nat:=if k<l.length then k+1 else k
theorem nxV_lt {l:List Int} {k:Nat} {n:Int} (h:0<n):0≤nxV l k n∧nxV l k n<n:=by
 unfold nxV;split
 ·exact⟨Int.emod_nonneg _ (by omega),Int.emod_lt_of_pos _ h⟩
 ·omega
theorem mod_fix {a m:Int} (hm:0<m):a % m=if a.tmod m<0 then a.tmod m+m else a.tmod m:=by
 have h1:=Int.emod_nonneg a (show m≠0 by omega)
 have h2:=Int.emod_lt_of_pos a hm
 rw [Int.tmod_eq_emod]
 split<;>split<;>omega
theorem retMC {P:Program} {L:St} {a:Nat} {T:TypeId} {b sz:Nat} {x y:LV} {m:Bool} {n:Nat} {ag:Bool} {blk:Blk} (h:L.slot a=.eptr b sz 0 0) (hb:L.heap b=some ⟨sz,[x],m⟩)
  (hx:x.csize=sz) (hat:x.at 0 n ag=some x) (hT:TyIs P T n ag) (hi:Imm L.heap x y) (h0:L.heap 0=some blk) (hm:blk.mt=true) (hp:pures blk.vals=true):RetM P [.cell a T] L y blk :=
 ⟨[x],[y],L.heap,.cons ⟨b,sz,0,0,_,x,n,ag,h,hb,rfl,rfl,hx,hat,hT⟩ .nil,Heap.le_refl _,.cons (.imm hi) .nil,h0,hm,hp,rfl⟩
theorem retMf {P:Program} {L:St} {t:Nat} {x y:LV} {blk:Blk} (bs:List Nat) (h0:bs.contains 0=false) (h:L.slot t=x) (hi:Imm (L.frz bs).heap x y) (hb:(L.frz bs).heap 0=some blk) (hm:blk.mt=true) (hp:pures blk.vals=true):RetM P [.tmp t] L y blk :=
 ⟨[x],[y],(L.frz bs).heap,.cons h .nil,frz_le bs h0,.cons (.imm hi) .nil,hb,hm,hp,rfl⟩
def nbV (l:List Int) (k:Nat):Rat × Nat :=
 if nxV l (nxK l k) 4=3 then(((nxV l k 13-6:Int):Rat)/((1+nxV l (nxK l (nxK l k)) 4:Int):Rat),nxK l (nxK l (nxK l k))) else(((nxV l k 13-6:Int):Rat),nxK l (nxK l k))
theorem rl_ints {n d:Int} (h1:n.natAbs<4294967296) (h2:d.natAbs<4294967296):rl ((n:Rat)/(d:Rat))≤1:=by
 rw [←qv_ints]
 have:=rl_qv (k:=1) (decide (n<0) != decide (d<0)) (by simpa using h1) (by simpa using h2)
 omega
theorem rl_int {n:Int} (h1:n.natAbs<4294967296):rl (n:Rat)≤1:=by
 have:=rl_ints (n:=n) (d:=1) h1 (by decide)
 rwa [show ((1:Int):Rat)=1 from rfl,Rat.div_def,show (1:Rat)⁻¹=1 by grind,Rat.mul_one] at this
theorem nb_rl (l:List Int) (k:Nat):rl (nbV l k).1≤1:=by
 have h1:=nxV_lt (l:=l) (k:=k) (n:=13) (by decide)
 have h2:=nxV_lt (l:=l) (k:=nxK l (nxK l k)) (n:=4) (by decide)
 unfold nbV;split
 ·exact rl_ints (by omega) (by omega)
 ·exact rl_int (by omega)
theorem ret1ptr {P:Program} {L:St} {t b sz:Nat} {blk:Blk} (h:L.slot t=.eptr b sz 0 0) (hb:L.heap b=some blk) (hp:pures blk.vals=true):RetL P [.tmp t] L (.eptr 1 sz 0 0) [blk] :=
 ⟨[.eptr b sz 0 0],[.eptr 1 sz 0 0],L.heap,[b],.cons h .nil,Heap.le_refl _,.cons (.ptr (k:=0) rfl) .nil,by simp,rfl,fun k c hk=>by
  cases k with
  | zero=>simp at hk;subst hk;exact⟨blk,hb,rfl,hp⟩
  | succ k=>simp at hk,rfl⟩
theorem nxK_le {l:List Int} {k:Nat} (hl:l.length≤500) (hk:k≤500):nxK l k≤500:=by unfold nxK;split<;>omega
theorem nbK_le {l:List Int} {k:Nat} (hl:l.length≤500) (hk:k≤500):(nbV l k).2≤500:=by
 have h1:=nxK_le (l:=l) hl hk
 have h2:=nxK_le (l:=l) hl h1
 unfold nbV;split
 ·exact nxK_le hl h2
 ·exact h2
theorem dice_kill (l:List Int) (k b:Nat):(diceL l k).kill b=diceL l k:=LV.kill_pure b _ (by simp [diceL,LV.pure,pures,pures_map i64E])
open H0 in
theorem c_Mod (n m:Int) (hm:0<m) (hm2:m≤4611686018427387904):CallP Tryz.prog 23 [iL n,iL m] (iL (n % m)):=by
 have hE:=mod_fix (a:=n) hm
 have hb:=Int.tmod_lt_of_pos n hm
 have hb2:=Int.lt_tmod_of_pos n hm
 refine fnP Tryz.func23 ?_
 refine zg9 ?_
 refine st_pure rfl (.bin rfl rfl (rem64 (by omega))) ?_
 refine zg10 ?_
 refine wl_cut (fun L=>∃ (r:Int) (L1:St),(r=n % m)∧L=((St.mk L1.slot (hp [])).put (some 0) (iL r))) ?_ ?_
 ·refine wl_if rfl (fun h9r h9=>?_) (fun h9r h9=>?_)
  ·refine zg3 ?_
   refine st_pure rfl (.bin rfl rfl (add64 (by omega) (by omega))) ?_
   refine zg3 ?_
   exact⟨n.tmod m+m,_,by rw [hE,if_pos h9],((put_id' (mk_id' cl) cl)).symm⟩
  ·refine zg2 ?_
   exact⟨n.tmod m,_,by rw [hE,if_neg h9],((put_id' (mk_id' cl) cl)).symm⟩
 ·rintro _ ⟨r,LC9,hr,rfl⟩
  refine zg8 ?_
  rw [←hr]
  exact ret1 rfl (by first | exact .pure rfl | exact .pure (limL_pure _) | exact .pure (magL_pure _) | exact .pure (ratE.pure _) | exact .pure (pure_lst u32E _ _) | exact .pure (pure_lst ratE _ _))
open H0 in
theorem c_Light (l:List Int) (h:l.length≤9223372036854775807):CallP Tryz.prog 7 [.list 1 (l.map i64L)] (bL (decide (l.length≤500))):=by
 refine fnP Tryz.func7 ?_
 refine zg14 ?_
 refine ret1 (x:=.v (.bool (decide (((l.length:Nat):Int)≤500)))) rfl ?_
 rw [show decide (((l.length:Nat):Int)≤500)=decide (l.length≤500) by rw [decide_eq_decide];omega]
 exact .pure rfl
open H0 in
theorem c_Roll (l:List Int):CallOK Tryz.prog 9 [.list 1 (l.map i64L)] (.eptr 1 2 0 0) [⟨2,[diceL l 0],true⟩]:=by
 refine fnO Tryz.func9 ?_
 refine zg8 ?_
 refine st_pure rfl (.build (zs:=[.v (.slice none 0 0),.v (.int .i64 0)]) SL95 Z95 (by simp only [List.forall_mem_cons];exact⟨⟨_,rfl,rfl,ne0⟩,fun _ h=>by cases h⟩)) ?_
 refine st_alloc rfl rfl (.box ne0) ?_
 refine zg4 ?_
 exact ret1ptr rfl rfl (dice_pure l 0)
namespace H_c_Next
theorem zSm {p q:Prop} (k:q) (e:p=q:=by simp only [e1,e2,e3,e4,p1,p2,p3,q1,q2,q3,l1,t0,t1,r1,r2,r3,r4,Nat.zero_add,Nat.reduceMul,Nat.reduceAdd,b1,b2,b3,b4,b5,b6,i1,i2,i3,i4,i5,i6,Nat.reduceBEq,l1,ek1,dfi];exact rfl):p:=e.mpr k
end H_c_Next
open H_c_Next in
theorem c_Next (l:List Int) (k:Nat) (n:Int) (hl:l.length≤500) (hk:k≤500) (hn:0<n) (hn2:n≤1000):CallOKM Tryz.prog 56 ⟨2,[diceL l k],true⟩ [.eptr 0 2 0 0,iL n] (iL (nxV l k n)) ⟨2,[diceL l (nxK l k)],true⟩:=by
 refine fnM Tryz.func56 ?_
 have ek1:True:=trivial
 refine zg7 ?_
 refine wl_regD 10 (by decide +kernel) ?_
 refine zg12 ?_
 refine wl_if rfl (fun h14r h14=>?_) (fun h14r h14=>?_)
 ·have hk1:¬ k<l.length:=by omega
  refine zg7 ?_
  rw [nxV,if_neg hk1,nxK,if_neg hk1]
  exact retM1 rfl (.imm (.pure rfl)) rfl rfl (dice_pure l _)
 ·have hk1:k<l.length:=by omega
  have ek1:(((k+1:Nat):Int)-1).toNat=k:=by omega
  refine zg11 ?_
  refine st_store rfl (.store (y:=diceL l k) (y':=diceL l (k+1)) rfl rfl rfl rfl rfl rfl rfl T3 ne0) ?_
  refine zg3 ?_
  refine wl_regD 14 (by decide +kernel) ?_
  refine zg8 ?_
  refine st_pure rfl (.bin rfl rfl (sub64 (by first | omega | (simp;omega)) (by first | omega | (simp;omega)))) ?_
  refine zg3 ?_
  refine cp am2 (c_Mod _ _ (by omega) (by omega)) ?_
  refine zg4 ?_
  rw [nxV,if_pos hk1,nxK,if_pos hk1]
  exact retM1 rfl (.imm (.pure rfl)) rfl rfl (dice_pure l _)
namespace H_c_number
theorem zSm {p q:Prop} (k:q) (e:p=q:=by simp only [e1,e2,e3,e4,p1,p2,p3,q1,q2,q3,l1,t0,t1,r1,r2,r3,r4,Nat.zero_add,Nat.reduceMul,Nat.reduceAdd,b1,b2,b3,b4,b5,b6,i1,i2,i3,i4,i5,i6,Nat.reduceBEq,l1];exact rfl):p:=e.mpr k
end H_c_number
open H_c_number in
theorem c_number (l:List Int) (k:Nat) (hl:l.length≤500) (hk:k≤500):CallOKM Tryz.prog 124 ⟨2,[diceL l k],true⟩ [.eptr 0 2 0 0] (ratL (nbV l k).1) ⟨2,[diceL l (nbV l k).2],true⟩:=by
 have k1:=nxK_le (l:=l) hl hk
 have k2:=nxK_le (l:=l) hl k1
 have hb1:=nxV_lt (l:=l) (k:=k) (n:=13) (by decide)
 have hb2:=nxV_lt (l:=l) (k:=nxK l (nxK l k)) (n:=4) (by decide)
 refine fnM Tryz.func124 ?_
 refine zg8 ?_
 refine st_callM 0 rfl rfl rfl (dice_pure l _) (.cons .ptr (.cons (.imm (.pure rfl)) .nil)) .ptr (c_Next l k 13 (by omega) (by omega) (by decide) (by decide)) rfl (dice_pure l _) ?_
 refine zg7 ?_
 refine st_callM 0 rfl rfl rfl (dice_pure l _) (.cons .ptr (.cons (.imm (.pure rfl)) .nil)) .ptr (c_Next l (nxK l k) 4 (by omega) (by omega) (by decide) (by decide)) rfl (dice_pure l _) ?_
 refine zg3 ?_
 refine wl_if rfl (fun h8r h8=>?_) (fun h8r h8=>?_)
 ·refine zg3 ?_
  refine st_pure rfl (.bin rfl rfl (sub64 (by omega) (by omega))) ?_
  refine zg1 ?_
  refine st_callM 0 rfl rfl rfl (dice_pure l _) (.cons .ptr (.cons (.imm (.pure rfl)) .nil)) .ptr (c_Next l (nxK l (nxK l k)) 4 (by omega) (by omega) (by decide) (by decide)) rfl (dice_pure l _) ?_
  refine st_pure rfl (.bin rfl rfl (add64 (by omega) (by omega))) ?_
  refine cp am2 (c_FFrac (nxV l k 13-6) (1+nxV l (nxK l (nxK l k)) 4) (by omega) (by omega) (by omega) (by omega) (by omega)) ?_
  refine zg5 ?_
  rw [nbV,if_pos h8]
  exact retMC rfl rfl (ratE.csize _) (ratL_all _) T29 (.pure (ratE.pure _)) rfl rfl (dice_pure l _)
 ·refine zg5 ?_
  refine st_pure rfl (.bin rfl rfl (sub64 (by omega) (by omega))) ?_
  refine cp am1 (c_FInt (nxV l k 13-6) (by omega) (by omega)) ?_
  refine zg4 ?_
  rw [nbV,if_neg h8]
  exact retMC rfl rfl (ratE.csize _) (ratL_all _) T29 (.pure (ratE.pure _)) rfl rfl (dice_pure l _)
theorem denN_ne1 (q:Rat):denN q≠1:=by rw [denN_eq];split<;>omega
theorem c_NValidD (n:Nat) (h:(dig n).length≤4611686018427387904):CallP Tryz.prog 223 [magL n] (bL true):=by
 have:=c_NValid (dig n) h
 rwa [decide_eq_true] at this
 by_cases h0:(dig n).length=0
 ·exact .inl h0
 ·exact .inr (can_getLast (can_dig n) (by omega))
theorem gcd1 {q:Rat} (h:0<(dig (denN q)).length):Nat.gcd q.num.natAbs (denN q)=1:=by
 rw [denN_pos h];exact q.reduced
def u8L (n:Nat):LV:=.v (.int .u8 (n:Nat))
theorem u8E:EncOK u8L 1 false:=⟨fun _=>rfl,fun _=>rfl,fun _=>rfl⟩
end Go.Proofs.YtfpdccbgngdhkaaGreat
namespace Go.Lg
open Go.Proofs.YtfpdccbgngdhkaaGreat in
theorem OpP.cv8 {P:Program} {H:Heap} {ρ:Operand→LV} {S T:TypeId} {x:Operand} {d:TypeDesc} {k':IntKind} {n:Nat} (hS:P.underlying S=some d) (hD:P.underlying T=some (.int .u8)) (hx:ρ x=.v (.int k' (n:Nat))) (h:n<256) :
  OpP P H ρ (.convert S T x) (u8L n):=by
 have:=OpP.conv (H:=H) hS hD hx
 rwa [IntKind.wrap_u8,show ((n:Nat):Int) % 256=(n:Int) by omega] at this
end Go.Lg
namespace Go.Proofs.YtfpdccbgngdhkaaGreat
open Go.Lg
theorem rem32 {a b:Nat} (h:0<b):binI .rem .u32 (a:Nat) (b:Nat)=some (.int .u32 ((a % b:Nat):Int)):=by
 have e:((a:Int)).tmod b=((a % b:Nat):Int):=by rw [Int.tmod_eq_emod_of_nonneg (by omega)];simp
 simp [binI,e];omega
theorem quo32 {a b:Nat} (h:0<b) (h1:a<4294967296):binI .quo .u32 (a:Nat) (b:Nat)=some (.int .u32 ((a/b:Nat):Int)):=by
 have e:((a:Int)).tdiv b=((a/b:Nat):Int):=by rw [Int.tdiv_eq_ediv_of_nonneg (by omega)];simp
 have:=Nat.div_le_self a b
 simp only [binI,if_neg (show ¬ ((b:Nat):Int)=0 by omega),e]
 rw [IntKind.wrap_u32]
 generalize a/b=x at *
 congr 2;omega
theorem m10 {m:Nat} (h:m<10):(48+m % 10) % 4294967296=48+m:=by
 rw [Nat.mod_eq_of_lt h,Nat.mod_eq_of_lt (Nat.lt_of_lt_of_le (Nat.add_lt_add_left h 48) (by decide))]
namespace H_c_RValid
theorem zSm {p q:Prop} (k:q) (e:p=q:=by simp only [e1,e2,e3,e4,p1,p2,p3,q1,q2,q3,l1,t0,t1,r1,r2,r3,r4,Nat.zero_add,Nat.reduceMul,Nat.reduceAdd,b1,b2,b3,b4,b5,b6,i1,i2,i3,i4,i5,i6,Nat.reduceBEq,val_dig,dflt,tz0];exact rfl):p:=e.mpr k
end H_c_RValid
open H_c_RValid in
theorem c_RValid (q:Rat) (h:rl q≤1099511627776):CallP Tryz.prog 158 [ratL q] (bL true):=by
 have a1:=rl_num q
 have a2:=rl_den q
 have a3:=rl_denN q
 have hne:=denN_ne1 q
 refine fnP Tryz.func158 ?_
 refine zg11 ?_
 refine cp am1 (c_NValidD _ (by omega)) ?_
 refine zg4 ?_
 refine cp am1 (c_NValidD _ (by omega)) ?_
 refine zg8 ?_
 refine op_if 18 rfl (fun h18r h18=>?_) (fun h18r h18=>?_)
 ·refine zg9 ?_
  refine wl_if rfl (fun h25r h25=>?_) (fun h25r h25=>?_)
  ·exfalso
   have:=(dig_is1 (n:=denN q) (by omega)).1
   omega
  ·refine zg11 ?_
   refine wl_if rfl (fun h29r h29=>?_) (fun h29r h29=>?_)
   ·refine zg6 ?_
    refine op_if 33 rfl (fun h33r h33=>?_) (fun h33r h33=>?_)
    ·have hz:=num0 (q:=q) (by omega)
     subst hz
     refine zg10 ?_
     exact ret1 rfl (by first | exact .pure rfl | exact .pure (limL_pure _) | exact .pure (magL_pure _) | exact .pure (ratE.pure _) | exact .pure (pure_lst u32E _ _) | exact .pure (pure_lst ratE _ _))
    ·exfalso
     have hz:=num0 (q:=q) (by omega)
     subst hz
     revert h33r
     decide
   ·refine zg9 ?_
    refine op_if 43 rfl (fun h43r h43=>?_) (fun h43r h43=>?_)
    ·refine zg5 ?_
     first | simp only [val_dig,hg1] | skip
     refine zg7 ?_
     exact ret1 rfl (by first | exact .pure rfl | exact .pure (limL_pure _) | exact .pure (magL_pure _) | exact .pure (ratE.pure _) | exact .pure (pure_lst u32E _ _) | exact .pure (pure_lst ratE _ _))
    ·have hg1:=gcd1 (q:=q) (by omega)
     refine zg4 ?_
     refine cp am2 (c_NGcd _ _ (lim_dig _) (lim_dig _) (by omega) (by omega)) ?_
     first | simp only [val_dig,hg1] | skip
     refine cp am1 (c_NBits (dig 1) (lim_dig _) (by decide)) ?_
     refine zg6 ?_
     exact ret1 rfl (by first | exact .pure rfl | exact .pure (limL_pure _) | exact .pure (magL_pure _) | exact .pure (ratE.pure _) | exact .pure (pure_lst u32E _ _) | exact .pure (pure_lst ratE _ _))
 ·refine zg21 ?_
  refine wl_if rfl (fun h29r h29=>?_) (fun h29r h29=>?_)
  ·refine zg6 ?_
   refine op_if 33 rfl (fun h33r h33=>?_) (fun h33r h33=>?_)
   ·have hz:=num0 (q:=q) (by omega)
    subst hz
    refine zg10 ?_
    exact ret1 rfl (by first | exact .pure rfl | exact .pure (limL_pure _) | exact .pure (magL_pure _) | exact .pure (ratE.pure _) | exact .pure (pure_lst u32E _ _) | exact .pure (pure_lst ratE _ _))
   ·exfalso
    have hz:=num0 (q:=q) (by omega)
    subst hz
    revert h33r
    decide
  ·refine zg9 ?_
   refine op_if 43 rfl (fun h43r h43=>?_) (fun h43r h43=>?_)
   ·refine zg5 ?_
    first | simp only [val_dig,hg1] | skip
    refine zg7 ?_
    exact ret1 rfl (by first | exact .pure rfl | exact .pure (limL_pure _) | exact .pure (magL_pure _) | exact .pure (ratE.pure _) | exact .pure (pure_lst u32E _ _) | exact .pure (pure_lst ratE _ _))
   ·have hg1:=gcd1 (q:=q) (by omega)
    refine zg4 ?_
    refine cp am2 (c_NGcd _ _ (lim_dig _) (lim_dig _) (by omega) (by omega)) ?_
    first | simp only [val_dig,hg1] | skip
    refine cp am1 (c_NBits (dig 1) (lim_dig _) (by decide)) ?_
    refine zg6 ?_
    exact ret1 rfl (by first | exact .pure rfl | exact .pure (limL_pure _) | exact .pure (magL_pure _) | exact .pure (ratE.pure _) | exact .pure (pure_lst u32E _ _) | exact .pure (pure_lst ratE _ _))
namespace H_c_FText1
theorem zSm {p q:Prop} (k:q) (e:p=q:=by simp only [e1,e2,e3,e4,p1,p2,p3,q1,q2,q3,l1,t0,t1,r1,r2,r3,r4,Nat.zero_add,Nat.reduceMul,Nat.reduceAdd,b1,b2,b3,b4,b5,b6,i1,i2,i3,i4,i5,i6,Nat.reduceBEq,val_dig,dflt,tz0,hdv,hmd,m10 h10,hm100,take_map_len,map_snoc,len_snoc,List.length_cons,List.length_nil,List.nil_append,kills_map u8E,LV.kill,ei0,List.map_cons,List.map_nil,List.length_map];exact rfl):p:=e.mpr k
end H_c_FText1
open H_c_FText1 in
theorem c_FText1 (m:Nat) (h0:0<m) (h10:m<10):CallP Tryz.prog 123 [magL m] (.v (.string ⟨#[UInt8.ofNat (48+m)]⟩)):=by
 have hd:=dig_small h0 (by omega:m<4294967296)
 have hl:(dig m).length=1:=by rw [hd];rfl
 have hdv:m/1000000000=0:=by omega
 have hmd:m % 1000000000=m:=by omega
 have hm100:m/10=0:=by omega
 refine fnP Tryz.func123 ?_
 have ei0:True:=trivial
 refine zg13 ?_
 refine wl_if rfl (fun h11r h11=>?_) (fun h11r h11=>?_)
 ·omega
 ·refine zg9 ?_
  refine wl_weak (Weak.own (t:=3) 39 1 rfl rfl) ?_
  refine lp2 (fun(a:Nat) (o:List Nat) L=>(((St.mk L.slot (hp [(39,⟨1,o.map u8L,true⟩)])).put (some 0) (magL a)).put (some 3) (.ref 39 1 0 o.length))) (fun a o=>(m=a∧o=[])∨(a=0∧o=[48+m])) (fun a o=>a) m ([]) (.inl ⟨rfl,rfl⟩) ?_
  rintro a o L1 hao
  refine zg8 ?_
  refine wl_if rfl (fun h14r h14=>?_) (fun h14r h14=>?_)
  ·have hao2:m=a∧o=[]:=by
    rcases hao with h | h
    ·exact h
    ·rw [h.1] at h14;exact absurd h14 (by decide)
   obtain⟨rfl,rfl⟩:=hao2
   refine zg6 ?_
   refine cp am2 (c_FbyLimb m 1000000000 (by omega) (by omega) (by omega)) ?_
   refine zg14 ?_
   refine lp3 (fun(i r:Nat) (o2:List Nat) L=>((((((St.mk L.slot (hp [(39,⟨1,o2.map u8L,true⟩)])).put (some 0) (magL m)).put (some 3) (.ref 39 1 0 o2.length)).put (some 4) (magL 0)).put (some 5) (nU32 r)).put (some 6) (nI64 i))) (fun i r o2=>(i=0∧m=r∧o2=[])∨(i=1∧r=0∧o2=[48+m])) (fun i r o2=>r) 0 m ([]) (.inl ⟨rfl,rfl,rfl⟩) ?_
   rintro i r o2 L2 hio
   refine zg2 ?_
   refine wl_cut (fun L=>∃ (t:Bool) (L1:St),(t=decide (0<r))∧L=(((((((St.mk L1.slot (hp [(39,⟨1,o2.map u8L,true⟩)])).put (some 0) (magL m)).put (some 3) (.ref 39 1 0 o2.length)).put (some 4) (magL 0)).put (some 5) (nU32 r)).put (some 6) (nI64 i)).put (some 30) (bL t))) ?_ ?_
   ·refine zg4 ?_
    refine op_if 22 rfl (fun h22r h22=>?_) (fun h22r h22=>?_)
    ·refine zg3 ?_
     refine op_if 25 rfl (fun h25r h25=>?_) (fun h25r h25=>?_)
     ·refine zg7 ?_
      exact⟨true,_,by symm;rw [decide_eq_true_iff];omega,((put_id' (put_id' (put_id' (put_id' (put_id' (put_id' (mk_id' cl) cl) cl) cl) cl) cl) cl)).symm⟩
     ·refine zg7 ?_
      exact⟨false,_,by symm;rw [decide_eq_false_iff_not];omega,((put_id' (put_id' (put_id' (put_id' (put_id' (put_id' (mk_id' cl) cl) cl) cl) cl) cl) cl)).symm⟩
    ·exfalso
     omega
   ·rintro _ ⟨t,LR7,ht,rfl⟩
    refine zg1 ?_
    refine wl_if rfl (fun h30r h30=>?_) (fun h30r h30=>?_)
    ·rw [ht,decide_eq_true_iff] at h30r
     have hio2:i=0∧m=r∧o2=[]:=by
      rcases hio with h | h
      ·exact h
      ·omega
     obtain⟨rfl,rfl,rfl⟩:=hio2
     refine zg8 ?_
     refine st_pure rfl (.bin rfl rfl (rem32 (b:=10) (by decide))) ?_
     refine st_pure rfl (.bin rfl rfl (addU32)) ?_
     refine st_pure rfl (.cv8 (n:=48+m) Tryz.underlying182 Tryz.underlying5 (by simp only [e1,p1,p2,Nat.reduceBEq,m10 h10];rfl) (by omega)) ?_
     refine st_alloc rfl rfl (.lit1 u8E Tryz.underlying197 Z5 T5 rfl (by decide) (by decide)) ?_
     refine st_store rfl (.app (news:=[u8L (48+m)]) rfl rfl rfl rfl rfl (by simp) (.inl rfl) (by decide) Tryz.underlying197 Tryz.underlying197 Z5 T5 rfl B5 (.inl ⟨38,0,_,rfl,by decide,rfl,rfl,by simp,rfl,rfl⟩) (by simp) (by simp) (by decide)) ?_
     refine zg5 ?_
     refine st_pure rfl (.bin rfl rfl (quo32 (b:=10) (by decide) (by omega))) ?_
     refine zg4 ?_
     refine wl_regW (Weak.kill _ 38) ?_
     refine zg5 ?_
     exact nx3 1 0 ([48+m]) (.inr ⟨rfl,rfl,rfl⟩) (hm:=h0)
    ·rw [ht,decide_eq_false_iff_not] at h30r
     have hio2:i=1∧r=0∧o2=[48+m]:=by
      rcases hio with h | h
      ·omega
      ·exact h
     obtain⟨rfl,rfl,rfl⟩:=hio2
     refine zg11 ?_
     exact nx2 0 ([48+m]) (.inr ⟨rfl,rfl⟩) (hm:=h0)
  ·have hao2:a=0∧o=[48+m]:=by
    rcases hao with h | h
    ·rw [←h.1] at h14;omega
    ·exact h
   obtain⟨rfl,rfl⟩:=hao2
   refine zg9 ?_
   refine st_alloc rfl rfl (.makeM (n:=1) (m:=1) u8E Tryz.underlying197 Z5 T5 B5 ml ml om om om) ?_
   refine zg10 ?_
   refine lp2 (fun(i:Nat) (w:List Nat) L=>((((St.mk L.slot (hp [(39,⟨1,[48+m].map u8L,true⟩),(45,⟨1,w.map u8L,true⟩)])).put (some 3) (.ref 39 1 0 1)).put (some 7) (.ref 45 1 0 1)).put (some 8) (nI64 i))) (fun i w=>(i=0∧w=[0])∨(i=1∧w=[48+m])) (fun i w=>1-i) 0 ([0]) (.inl ⟨rfl,rfl⟩) ?_
   rintro i w L3 hiw
   refine zg9 ?_
   refine wl_if rfl (fun h49r h49=>?_) (fun h49r h49=>?_)
   ·have hiw2:i=0∧w=[0]:=by
     rcases hiw with h | h
     ·exact h
     ·omega
    obtain⟨rfl,rfl⟩:=hiw2
    have ei0:((1:Int)-1-0).toNat=0:=rfl
    refine zg13 ?_
    refine st_pure rfl ixA ?_
    refine st_pure rfl ldA ?_
    refine st_pure rfl ixA ?_
    refine st_store rfl (by exact .storeM u8E rfl rfl rfl T5 om) ?_
    refine zg9 ?_
    exact nx2 1 ([48+m]) (.inr ⟨rfl,rfl⟩)
   ·have hiw2:i=1∧w=[48+m]:=by
     rcases hiw with h | h
     ·omega
     ·exact h
    obtain⟨rfl,rfl⟩:=hiw2
    refine zg8 ?_
    refine st_pure rfl (.strR (ns:=[48+m]) Tryz.underlying197 Tryz.underlying5 Tryz.underlying9 rfl rfl rfl rfl (by simp)) ?_
    refine zg4 ?_
    exact ret1 rfl (.pure rfl)
namespace H_c_FText
theorem zSm {p q:Prop} (k:q) (e:p=q:=by simp only [e1,e2,e3,e4,p1,p2,p3,q1,q2,q3,l1,t0,t1,r1,r2,r3,r4,Nat.zero_add,Nat.reduceMul,Nat.reduceAdd,b1,b2,b3,b4,b5,b6,i1,i2,i3,i4,i5,i6,Nat.reduceBEq,edd];exact rfl):p:=e.mpr k
end H_c_FText
open H_c_FText in
theorem c_FText (q:Rat) (h0:0<q) (hn:q.num.natAbs<10) (hd:q.den<10):CallP Tryz.prog 54 [ratL q] (.v (.string (if q.den=1 then⟨#[UInt8.ofNat (48+q.num.natAbs)]⟩ else⟨#[UInt8.ofNat (48+q.num.natAbs),47,UInt8.ofNat (48+q.den)]⟩))):=by
 have hq0:0<q.num.natAbs:=by have:=pos_iff.1 h0;omega
 have hnn:¬ q<0:=by grind
 have hdp:=q.den_pos
 refine fnP Tryz.func54 ?_
 have edd:True:=trivial
 refine zg10 ?_
 refine cp am1 (c_FText1 _ (by omega) (by omega)) ?_
 refine zg10 ?_
 refine wl_if rfl (fun h8r h8=>?_) (fun h8r h8=>?_)
 ·exact absurd h8 hnn
 ·refine zg11 ?_
  refine wl_if rfl (fun h14r h14=>?_) (fun h14r h14=>?_)
  ·have edd:=denN_pos (q:=q) (by omega)
   have hd1:q.den≠1:=fun e=>by have:=denN_eq q;rw [if_pos e] at this;omega
   refine zg4 ?_
   simp only [edd]
   refine cp am1 (c_FText1 _ (by omega) (by omega)) ?_
   refine st_pure rfl (.addS rfl rfl (Nat.le_of_ble_eq_true rfl)) ?_
   refine st_pure rfl (.addS rfl rfl (Nat.le_of_ble_eq_true rfl)) ?_
   refine zg10 ?_
   rw [if_neg hd1]
   exact ret1 rfl (.pure rfl)
  ·have hd1:=denN_zero (q:=q) (by omega)
   refine zg9 ?_
   rw [if_pos hd1]
   exact ret1 rfl (.pure rfl)
def HS (p:List Rat) (t:Rat):Prop:=∃ cc,rl (1-t)+rl t+1≤cc∧cc≤1073741824∧∀ x∈p,(rl x+cc)*2 ^ p.length≤1073741824
theorem c_halvesH (p:List Rat) (t:Rat) (h:HS p t):CallP Tryz.prog 198 [.list 3 (p.map ratL),ratL t] (.tup [.list 3 ((loP p t).map ratL),.list 3 ((hiP p t).map ratL)]):=by
 obtain⟨cc,h1,h2,h3⟩:=h
 exact c_halves p t cc h1 h2 h3
theorem HS.len {p:List Rat} {t:Rat} (h:HS p t):p.length≤30:=by
 obtain⟨cc,h1,h2,h3⟩:=h
 exact sz_len (Nat.le_trans (Nat.le_add_left 1 _) h1) h3
theorem HS.rl {p:List Rat} {t:Rat} (h:HS p t):rl t≤1073741824∧∀ x∈p,Go.Lg.rl x≤1073741824:=by
 obtain⟨cc,h1,h2,h3⟩:=h
 exact⟨by omega,fun x hx=>by have:=sz_rl (h3 x hx);omega⟩
def evP (p:List Rat) (t:Rat):Rat:=(loP p t).getD (p.length-1) 0
theorem set_getD (o:List Rat) (i x:Nat) (v:Rat) (hi:i<o.length):(o.set i v).getD x 0=if x=i then v else o.getD x 0:=by
 rw [List.getD_eq_getElem?_getD,List.getD_eq_getElem?_getD,List.getElem?_set]
 by_cases h:i=x
 ·subst h;simp [hi]
 ·rw [if_neg h,if_neg (fun e=>h e.symm)]
namespace H_c_BEval
theorem zSm {p q:Prop} (k:q) (e:p=q:=by simp only [e1,e2,e3,e4,p1,p2,p3,q1,q2,q3,l1,t0,t1,r1,r2,r3,r4,Nat.zero_add,Nat.reduceMul,Nat.reduceAdd,b1,b2,b3,b4,b5,b6,i1,i2,i3,i4,i5,i6,Nat.reduceBEq,dfq,ej,hll];exact rfl):p:=e.mpr k
end H_c_BEval
open H_c_BEval in
theorem c_BEval (p:List Rat) (t:Rat) (h:HS p t) (hp0:0<p.length):CallP Tryz.prog 131 [.list 3 (p.map ratL),ratL t] (ratL (evP p t)):=by
 have hll:=loP_len p t
 have hlen:=h.len
 have hj:(((p.length:Nat):Int)-1).toNat=p.length-1:=by omega
 refine fnP Tryz.func131 ?_
 have ej:True:=trivial
 refine zg14 ?_
 refine wl_if rfl (fun h9r h9=>?_) (fun h9r h9=>?_)
 ·omega
 ·refine zg6 ?_
  refine cp am2 (c_halvesH _ _ (by assumption)) ?_
  refine zg12 ?_
  refine st_pure rfl (.bin rfl rfl (sub1N (by omega) (by omega))) ?_
  refine zg6 ?_
  rw [evP]
  exact retC [] rfl rfl rfl (ratE.csize _) (ratL_all _) T29 (.pure (ratE.pure _))
def chs:Nat→Nat→Nat
 | _,0=>1
 | 0,_+1=>0
 | n+1,k+1=>chs n k+chs n (k+1)
theorem chs_gt:∀ {n k:Nat},n<k→chs n k=0
 | 0,k+1,_=>rfl
 | n+1,k+1,h=>by rw [chs,chs_gt (by omega),chs_gt (by omega)]
theorem chs_self:∀ n,chs n n=1
 | 0=>rfl
 | n+1=>by rw [chs,chs_self n,chs_gt (by omega)]
theorem chs_zero (n:Nat):chs n 0=1:=by cases n<;>rfl
theorem chs_le:∀ n k,chs n k≤2 ^ n
 | n,0=>by rw [chs_zero];exact Nat.pow_pos (by omega)
 | 0,k+1=>by simp [chs]
 | n+1,k+1=>by
   have h1:=chs_le n k
   have h2:=chs_le n (k+1)
   rw [chs,Nat.pow_succ];omega
theorem chs_pos:∀ {n k:Nat},k≤n→0<chs n k
 | n,0,_=>by rw [chs_zero];omega
 | n+1,k+1,h=>by have:=chs_pos (n:=n) (k:=k) (by omega);rw [chs];omega
theorem chs_40 {n:Nat} (k:Nat) (h:n≤40):chs n k≤1099511627776:=Nat.le_trans (chs_le n k) (Nat.pow_le_pow_right (n:=2) (by omega) h)
def rowI (n:Nat):List Int:=(List.range (n+1)).map fun x=>(chs n x:Int)
def chR (n:Nat):List Rat:=(List.range (n+1)).map fun x=>((chs n x:Int):Rat)
theorem rowI_len (n:Nat):(rowI n).length=n+1:=by simp [rowI]
theorem chR_len (n:Nat):(chR n).length=n+1:=by simp [chR]
theorem rowI_get {n x:Nat} (h:x≤n):(rowI n).getD x 0=(chs n x:Int):=by
 rw [List.getD_eq_getElem?_getD,List.getElem?_eq_getElem (by rw [rowI_len];omega)];simp [rowI]
theorem chR_get {n x:Nat} (h:x≤n):(chR n).getD x 0=((chs n x:Int):Rat):=by
 rw [List.getD_eq_getElem?_getD,List.getElem?_eq_getElem (by rw [chR_len];omega)];simp [chR]
theorem extI {p q:List Int} (hl:p.length=q.length) (h:∀ i,i<p.length→p.getD i 0=q.getD i 0):p=q:=by
 apply List.ext_getElem hl
 intro i h1 h2
 have:=h i h1
 rw [List.getD_eq_getElem?_getD,List.getD_eq_getElem?_getD,List.getElem?_eq_getElem h1,List.getElem?_eq_getElem h2] at this
 exact this
theorem set_getI (o:List Int) (i x:Nat) (v:Int) (hi:i<o.length):(o.set i v).getD x 0=if x=i then v else o.getD x 0:=by
 rw [List.getD_eq_getElem?_getD,List.getD_eq_getElem?_getD,List.getElem?_set]
 by_cases h:i=x
 ·subst h;simp [hi]
 ·rw [if_neg h,if_neg (fun e=>h e.symm)]
def PasC (k i:Nat) (o:List Int):Prop:=o.length=k+2∧∀ x,x<k+2→o.getD x 0=if i<x∧x≤k then(chs (k+1) x:Int) else if x≤k then(chs k x:Int) else 1
theorem pas_init (k:Nat):PasC k k (rowI k++[1]):=by
 refine⟨by simp [rowI_len],fun x hx=>?_⟩
 rw [if_neg (by omega)]
 by_cases h:x≤k
 ·rw [if_pos h,getD_app1 _ _ _ (by rw [rowI_len];omega),rowI_get h]
 ·rw [if_neg h,getD_app2 _ _ _ (by rw [rowI_len];omega),rowI_len,show x-(k+1)=0 by omega];rfl
theorem pas_step {k i:Nat} {o:List Int} (h:PasC k (i+1) o) (hi:i+1≤k):PasC k i (o.set (i+1) (o.getD (i+1) 0+o.getD i 0)):=by
 obtain⟨h1,h2⟩:=h
 refine⟨by simp [h1],fun x hx=>?_⟩
 rw [set_getI _ _ _ _ (by omega)]
 by_cases hxi:x=i+1
 ·subst hxi
  rw [if_pos rfl,if_pos ⟨by omega,hi⟩,h2 _ (by omega),h2 _ (by omega),if_neg (by omega),if_pos (by omega),if_neg (by omega),if_pos (by omega),chs]
  simp;omega
 ·rw [if_neg hxi,h2 x hx]
  by_cases h3:i+1<x∧x≤k
  ·rw [if_pos h3,if_pos ⟨by omega,h3.2⟩]
  ·rw [if_neg h3,if_neg (show ¬ (i<x∧x≤k) by omega)]
theorem pas_end {k:Nat} {o:List Int} (h:PasC k 0 o):o=rowI (k+1):=by
 obtain⟨h1,h2⟩:=h
 refine extI (by rw [rowI_len,h1]) (fun x hx=>?_)
 rw [h2 x (by omega),rowI_get (by omega)]
 by_cases h3:0<x∧x≤k
 ·rw [if_pos h3]
 ·rw [if_neg h3]
  by_cases h4:x≤k
  ·obtain rfl:x=0:=by omega
   rw [if_pos h4,chs_zero,chs_zero]
  ·obtain rfl:x=k+1:=by omega
   rw [if_neg h4,chs_self];rfl
theorem pas_bd {k i:Nat} {o:List Int} (h:PasC k i o) (hk:k≤39) {x:Nat} (hx:x<k+2):0≤o.getD x 0∧o.getD x 0≤1099511627776:=by
 rw [h.2 x hx]
 have h1:=chs_40 (n:=k+1) x (by omega)
 have h2:=chs_40 (n:=k) x (by omega)
 split
 ·omega
 ·split<;>omega
theorem chR_rl {n:Nat} (hn:n≤40):∀ x∈chR n,rl x≤2:=by
 intro x hx
 simp only [chR,List.mem_map] at hx
 obtain⟨k,_,rfl⟩:=hx
 have h:=chs_40 k hn
 rw [←qv_int]
 have:=rl_qv (k:=2) (decide ((chs n k:Int)<0)) (n:=(chs n k:Int).natAbs) (d:=1) (by omega) (by decide)
 omega
theorem set_takeR {o p:List Rat} {k:Nat} {v:Rat} (hk:k<p.length) (hol:o.length=p.length) (ht:o.take k=p.take k) (hv:v=p.getD k 0):(o.set k v).take (k+1)=p.take (k+1):=by subst hv;exact cp_take hk hol ht
theorem rtake (n:Nat) (f:Int→LV):((rowI n).map f).take (n+1)=(rowI n).map f:=by rw [List.take_of_length_le (by simp [rowI_len])]
theorem ge_zero {p:List Rat} {k:Nat} (h:p.length≤k):p.getD k 0=0:=by
 rw [List.getD_eq_getElem?_getD,List.getElem?_eq_none h];rfl
theorem ext0 {a b:List Rat} (h:a.length=b.length) (h2:∀ k,k<a.length→a.getD k 0=b.getD k 0):a=b:=by
 refine List.ext_getElem h fun k h1 h3=>?_
 have:=h2 k h1
 rw [List.getD_eq_getElem?_getD,List.getD_eq_getElem?_getD,List.getElem?_eq_getElem h1,List.getElem?_eq_getElem h3] at this
 exact this
theorem set_get0 (o:List Rat) (i:Nat) (v:Rat) (k:Nat) (h:i<o.length):(o.set i v).getD k 0=if i=k then v else o.getD k 0:=by
 rw [List.getD_eq_getElem?_getD,List.getD_eq_getElem?_getD,List.getElem?_set]
 split
 ·rename_i e;subst e;first | rw [if_pos h];rfl | rfl
 ·rfl
theorem getD_rl {o:List Rat} {S:Nat} (h1:1≤S) (h:∀ x∈o,rl x≤S) (k:Nat):rl (o.getD k 0)≤S:=by
 rcases Nat.lt_or_ge k o.length with hk | hk
 ·exact h _ (getD_mem hk)
 ·rw [List.getD_eq_getElem?_getD,List.getElem?_eq_none hk];show rl 0≤S;rw [show rl 0=1 from rfl];exact h1
theorem set_rl {o:List Rat} {S:Nat} {i:Nat} {v:Rat} (h:∀ x∈o,rl x≤S) (hv:rl v≤S):∀ x∈o.set i v,rl x≤S:=fun x hx=>by
 rcases List.mem_or_eq_of_mem_set hx with h1 | h1
 ·exact h x h1
 ·rw [h1];exact hv
theorem add64N {a b:Nat} (h:a+b≤9223372036854775807):binI .add .i64 (a:Nat) (b:Nat)=some (.int .i64 ((a+b:Nat):Int)):=by
 rw [add64 (by omega) (by omega)];congr 2
theorem add1N {a:Nat} (h:a+1≤9223372036854775807):binI .add .i64 (a:Nat) 1=some (.int .i64 ((a+1:Nat):Int)):=by
 rw [add64 (by omega) (by omega)];congr 2
theorem set_get_self {o:List Rat} {i:Nat} {v:Rat} (h:i<o.length):(o.set i v).getD i 0=v:=by rw [set_getD _ _ _ _ h,if_pos rfl]
def rowM (x:Rat) (i:Nat) (y:List Rat) (q:List Rat) (o:List Rat):Nat→List Rat
 | 0=>o
 | j+1=>(rowM x i y q o j).set (i+j) ((rowM x i y q o j).getD (i+j) 0+x*(y.getD j 0*q.getD j 0))
def allM (p q:List Rat):Nat→List Rat
 | 0=>List.replicate (p.length-1+(q.length-1)+1) 0
 | i+1=>rowM ((chR (p.length-1)).getD i 0*p.getD i 0) i (chR (q.length-1)) q (allM p q i) q.length
def mulP (p q:List Rat):List Rat:=(List.range (p.length-1+(q.length-1)+1)).map fun k=>(allM p q p.length).getD k 0/(chR (p.length-1+(q.length-1))).getD k 0
theorem mulP_len (p q:List Rat):(mulP p q).length=p.length-1+(q.length-1)+1:=by simp [mulP]
theorem rowM_rl {x:Rat} {i R S:Nat} {y q o:List Rat} (hS:1≤S) (ho:∀ v∈o,rl v≤S) (hx:rl x≤R+2) (hy:∀ v∈y,rl v≤2) (hq:∀ v∈q,rl v≤R) (hR:1≤R):∀ j,∀ v∈rowM x i y q o j,rl v≤S+j*(2*R+5)
 | 0,v,hv=>by have:=ho v hv;omega
 | j+1,v,hv=>by
   have ih:=rowM_rl (i:=i) hS ho hx hy hq hR j
   refine set_rl (S:=S+(j+1)*(2*R+5)) (fun w hw=>?_) ?_ v hv
   ·have:=ih w hw;rw [Nat.succ_mul];omega
   ·have h1:=getD_rl (by omega) ih (i+j)
    have h2:=getD_rl (by omega) hy j
    have h3:=getD_rl (by omega) hq j
    have e1:=rl_mul (y.getD j 0) (q.getD j 0)
    have e2:=rl_mul x (y.getD j 0*q.getD j 0)
    have e3:=rl_add ((rowM x i y q o j).getD (i+j) 0) (x*(y.getD j 0*q.getD j 0))
    rw [Nat.succ_mul];omega
theorem allM_rl {p q:List Rat} {R:Nat} (hpl:p.length≤41) (hql:q.length≤41) (hR:1≤R) (hp':∀ v∈p,rl v≤R) (hq':∀ v∈q,rl v≤R):∀ i,∀ v∈allM p q i,rl v≤1+i*(q.length*(2*R+5))
 | 0,v,hv=>by
   simp only [allM,List.mem_replicate] at hv
   rw [hv.2];show rl 0≤_;rw [show rl 0=1 from rfl];omega
 | i+1,v,hv=>by
   have ih:=allM_rl hpl hql hR hp' hq' i
   have hx:rl ((chR (p.length-1)).getD i 0*p.getD i 0)≤R+2:=by
    have h1:=getD_rl (by omega) (chR_rl (n:=p.length-1) (by omega)) i
    have h2:=getD_rl hR hp' i
    have:=rl_mul ((chR (p.length-1)).getD i 0) (p.getD i 0)
    omega
   have:=rowM_rl (by omega) ih hx (chR_rl (n:=q.length-1) (by omega)) hq' hR q.length v hv
   rw [Nat.succ_mul];omega
theorem repl_get (n x:Nat):(List.replicate n (0:Rat)).getD x 0=0:=by
 rw [List.getD_eq_getElem?_getD,List.getElem?_replicate];split<;>rfl
def difP (p:List Rat):List Rat:=if p.length<2 then [0] else(List.range (p.length-1)).map fun i=>(((p.length-1:Nat):Int):Rat)*(p.getD (i+1) 0-p.getD i 0)
theorem difP_len {p:List Rat}:(difP p).length=if p.length<2 then 1 else p.length-1:=by unfold difP;split<;>simp
theorem difP_get {p:List Rat} {i:Nat} (h:i+1<p.length):(difP p).getD i 0=(((p.length-1:Nat):Int):Rat)*(p.getD (i+1) 0-p.getD i 0):=by
 unfold difP
 rw [if_neg (by omega),List.getD_eq_getElem?_getD,List.getElem?_eq_getElem (by simp;omega)];simp
theorem difP_rl {p:List Rat} {R:Nat} (hR:1≤R) (hl:p.length≤1000) (h:∀ x∈p,rl x≤R):∀ x∈difP p,rl x≤2*R+4:=by
 intro x hx
 obtain⟨k,hk,rfl⟩:=mem_getD hx
 rw [difP_len] at hk
 by_cases h2:p.length<2
 ·rw [if_pos h2] at hk
  have:difP p=[0]:=by unfold difP;rw [if_pos h2]
  rw [this]
  obtain rfl:k=0:=by omega
  show rl 0≤_
  rw [show rl 0=1 from rfl];omega
 ·rw [if_neg h2] at hk
  rw [difP_get (by omega)]
  have h3:=rl_int (n:=((p.length-1:Nat):Int)) (by omega)
  have h4:=h _ (getD_mem (i:=k) (by omega))
  have h5:=h _ (getD_mem (i:=k+1) (by omega))
  have h6:=rl_sub (p.getD (k+1) 0) (p.getD k 0)
  have h7:=rl_mul (((p.length-1:Nat):Int):Rat) (p.getD (k+1) 0-p.getD k 0)
  omega
namespace H_c_Diff
theorem zSm {p q:Prop} (k:q) (e:p=q:=by simp only [e1,e2,e3,e4,p1,p2,p3,q1,q2,q3,l1,t0,t1,r1,r2,r3,r4,Nat.zero_add,Nat.reduceMul,Nat.reduceAdd,b1,b2,b3,b4,b5,b6,i1,i2,i3,i4,i5,i6,Nat.reduceBEq,dfq,List.length_set,kills_map ratE,ratL_kill,spL_kill,LV.kill,kills];exact rfl):p:=e.mpr k
end H_c_Diff
open H_c_Diff in
theorem c_Diff (p:List Rat) (hl:p.length≤1000) (hpr:∀ x∈p,rl x≤1073741824):CallP Tryz.prog 144 [.list 3 (p.map ratL)] (.list 3 ((difP p).map ratL)):=by
 refine fnP Tryz.func144 ?_
 refine zg13 ?_
 refine wl_if rfl (fun h8r h8=>?_) (fun h8r h8=>?_)
 ·have hE:difP p=[0]:=by unfold difP;rw [if_pos (by omega)]
  refine zg2 ?_
  refine st_pure rfl (.build0 SL29 Z29a) ?_
  refine zg6 ?_
  rw [hE]
  exact ret1f [10] rfl rfl (imm_refm ratE rfl rfl rfl)
 ·have hdl:(difP p).length=p.length-1:=by rw [difP_len,if_neg (by omega)]
  refine zg6 ?_
  refine st_pure rfl (.bin rfl rfl (sub1N (by omega) (by omega))) ?_
  refine cp am1 (c_RInt ((p.length-1:Nat):Int) (by omega) (by omega)) ?_
  refine zg8 ?_
  refine st_pure rfl (.bin rfl rfl (sub1N (by omega) (by omega))) ?_
  refine st_alloc rfl rfl (.mkE (n:=(p.length-1)) (m:=(p.length-1)) ml ml om om om) ?_
  refine zg12 ?_
  refine lp2 (fun(i:Nat) (w:List Rat) L=>(((((((St.mk L.slot (hp [(3,⟨3,[ratL (((p.length-1:Nat):Int):Rat)],true⟩),(18,⟨3,w.map ratL,true⟩)])).put (some 0) (.list 3 (p.map ratL))).put (some 3) (.eptr 3 3 0 0)).put (some 4) (.ref 18 3 0 (p.length-1))).put (some 19) (.ref 18 3 0 (p.length-1))).put (some 20) (nI64 (p.length-1))).put (some 21) (nI64 i))) (fun i w=>i≤p.length-1∧w.length=p.length-1∧w.take i=(difP p).take i) (fun i w=>p.length-1-i) 0 (List.replicate (p.length-1) 0) ⟨Nat.zero_le _,by simp,rfl⟩ ?_
  rintro i w L1 ⟨hi,hwl,hwt⟩
  refine zg6 ?_
  refine wl_if rfl (fun h22r h22=>?_) (fun h22r h22=>?_)
  ·have hi2:i<p.length-1:=by omega
   have hr1:=hpr _ (getD_mem (i:=i) (by omega))
   have hr2:=hpr _ (getD_mem (i:=i+1) (by omega))
   have hr3:=rl_sub (p.getD (i+1) 0) (p.getD i 0)
   have hr4:=rl_int (n:=((p.length-1:Nat):Int)) (by omega)
   refine zg10 ?_
   refine wl_regD 15 (by decide +kernel) ?_
   refine zg5 ?_
   refine st_pure rfl (.bin rfl rfl (add1N (by omega))) ?_
   refine zg6 ?_
   refine cp am2 (c_RSub (p.getD (i+1) 0) (p.getD i 0) (by omega)) ?_
   refine cp am2 (c_RMul (((p.length-1:Nat):Int):Rat) (p.getD (i+1) 0-p.getD i 0) (by omega)) ?_
   refine zg10 ?_
   exact nx2 (i+1) (w.set i ((((p.length-1:Nat):Int):Rat)*(p.getD (i+1) 0-p.getD i 0))) ⟨by omega,by simp [hwl],set_takeR (by omega) (by omega) hwt (difP_get (by omega)).symm⟩
  ·obtain rfl:i=p.length-1:=by omega
   have hE:w=difP p:=by
    rw [List.take_of_length_le (by omega),List.take_of_length_le (by omega)] at hwt
    exact hwt
   subst hE
   refine zg12 ?_
   exact ret1f [18] rfl rfl (imm_refm ratE rfl rfl hdl.symm)
end Go.Proofs.YtfpdccbgngdhkaaGreat
namespace Go.Lg
theorem Weak.imm {L:St} {t:Nat} {x y:LV} (bs:List Nat) (h0:bs.contains 0=false) (h:L.slot t=x) (hi:Imm (L.frz bs).heap x y):Weak L ((L.frz bs).put (some t) y):=by
 rintro n W X Z0 a w ⟨hdf,hsz,μ,Z,hc,hr⟩
 obtain⟨Z1,k1,k2⟩:=hc.widen (frz_le bs h0)
 refine⟨hdf,hsz,μ,Z1,by rw [put_heap];exact k1,fun s=>?_⟩
 have hfr:Frame Z μ w w:=⟨fun _ _=>rfl,fun _ id _ c _ _ hh=>⟨c,hh,rfl⟩⟩
 have hs:=(hr s).mono k2 (fun _ _ h=>h) hfr
 rw [put_slot]
 split
 ·rename_i hst
  subst hst
  rw [h] at hs
  exact RepV.of1 (LV.pure_ne_tup hi.lay.2.2) (hi.soundV k1 hs)
 ·exact hs
end Go.Lg
namespace Go.Proofs.YtfpdccbgngdhkaaGreat
open Go.Lg
theorem sgn_pos {a:Rat} (h:0<a):sgnR a=1:=by unfold sgnR;rw [if_neg (by grind),if_neg (by grind)]
theorem quo64 {a b:Int} (h:b≠0) (h1:-9223372036854775808≤a.tdiv b) (h2:a.tdiv b≤9223372036854775807):binI .quo .i64 a b=some (.int .i64 (a.tdiv b)):=by
 simp only [binI];rw [if_neg h,IntWalk.i64_in _ ⟨h1,h2⟩]
def fE (a b:Rat):Nat→(Nat→Rat)→Rat
 | 0,f=>f 0
 | n+1,f=>fE a b n (fun i=>a*f i+b*f (i+1))
theorem fE_congr (a b:Rat):∀ (n:Nat) (f g:Nat→Rat),(∀ i,i≤n→f i=g i)→fE a b n f=fE a b n g
 | 0,f,g,h=>h 0 (Nat.le_refl _)
 | n+1,f,g,h=>fE_congr a b n _ _ fun i hi=>by rw [h i (by omega),h (i+1) (by omega)]
theorem fE_lin (a b c d:Rat):∀ (n:Nat) (f g:Nat→Rat),fE a b n (fun i=>c*f i+d*g i)=c*fE a b n f+d*fE a b n g
 | 0,f,g=>rfl
 | n+1,f,g=>by
  rw [fE,fE,fE,←fE_lin a b c d n]
  congr 1;funext i;grind
theorem fE_step (a b:Rat) (n:Nat) (f:Nat→Rat):fE a b (n+1) f=a*fE a b n f+b*fE a b n (fun i=>f (i+1)):=fE_lin a b a b n f (fun i=>f (i+1))
theorem lo_fE (t:Rat):∀ (k:Nat) (q:List Rat),k<q.length→(loF t q.length q).getD k 0=fE (1-t) t k (fun i=>q.getD i 0)
 | 0,q,h=>by
  obtain⟨m,hm⟩:∃ m,q.length=m+1:=⟨q.length-1,by omega⟩
  rw [hm];rfl
 | k+1,q,h=>by
  obtain⟨m,hm⟩:∃ m,q.length=m+1:=⟨q.length-1,by omega⟩
  have hs:(stp t q).length=m:=by rw [stp_len];omega
  have:=lo_fE t k (stp t q) (by omega)
  rw [hs] at this
  rw [hm,loF,List.getD_cons_succ,this,fE]
  exact fE_congr _ _ _ _ _ fun i hi=>stp_get t q i (by omega)
theorem ev_fE {p:List Rat} {t:Rat} (h:0<p.length):evP p t=fE (1-t) t (p.length-1) (fun i=>p.getD i 0):=lo_fE t _ p (by omega)
theorem lo_sz {t:Rat} {C M:Nat} (hC:rl (1-t)+rl t+1≤C):∀ (k:Nat) (q:List Rat),q.length=k→(∀ x∈q,(rl x+C)*2 ^ k≤M)→∀ x∈loF t k q,rl x+C≤M
 | 0,q,_,_,x,hx=>by cases hx
 | k+1,q,hq,h,x,hx=>by
  rw [loF,List.mem_cons] at hx
  rcases hx with rfl | hx
  ·exact sz_rl (h _ (getD_mem (by omega)))
  ·exact lo_sz hC k (stp t q) (by rw [stp_len];omega) (stp_sz hC h) x hx
theorem hi_sz {t:Rat} {C M:Nat} (hC:rl (1-t)+rl t+1≤C):∀ (k:Nat) (q tl:List Rat),q.length=k→(∀ x∈q,(rl x+C)*2 ^ k≤M)→(∀ x∈tl,rl x+C≤M)→∀ x∈hiF t k q tl,rl x+C≤M
 | 0,q,tl,hq,_,h2,x,hx=>by
  obtain rfl:q=[]:=List.eq_nil_of_length_eq_zero hq
  exact h2 x hx
 | k+1,q,tl,hq,h,h2,x,hx=>by
  refine hi_sz hC k (stp t q) _ (by rw [stp_len];omega) (stp_sz hC h) (fun y hy=>?_) x hx
  rcases List.mem_cons.1 hy with rfl | hy
  ·exact sz_rl (h _ (getD_mem (by omega)))
  ·exact h2 y hy
theorem HS.lo {p:List Rat} {t:Rat} (h:HS p t):∀ x∈loP p t,Go.Lg.rl x≤1073741824:=fun x hx=>by
 obtain⟨cc,h1,h2,h3⟩:=h
 have:=lo_sz h1 p.length p rfl h3 x hx
 omega
theorem HS.hi {p:List Rat} {t:Rat} (h:HS p t):∀ x∈hiP p t,Go.Lg.rl x≤1073741824:=fun x hx=>by
 obtain⟨cc,h1,h2,h3⟩:=h
 have:=hi_sz h1 p.length p [] rfl h3 (fun y hy=>by cases hy) x hx
 omega
theorem HS.ev {p:List Rat} {t:Rat} (h:HS p t):Go.Lg.rl (evP p t)≤1073741824:=getD_rl (by decide) h.lo _
def mnR (a b:Rat):Rat:=if b<a then b else a
def mxR (a b:Rat):Rat:=if a<b then b else a
def hulP (s:Rat × Rat) (t:Rat × Rat):Rat × Rat:=(mnR s.1 t.1,mxR s.2 t.2)
def bkP (p:List Rat):Nat→Rat × Rat
 | 0=>(0,0)
 | k+1=>hulP (if k=0 then(p.getD k 0,p.getD k 0) else bkP p k) (p.getD k 0,p.getD k 0)
def bndP (p:List Rat):Rat × Rat:=bkP p p.length
theorem mn_self (a:Rat):mnR a a=a:=by unfold mnR;split<;>rfl
theorem mx_self (a:Rat):mxR a a=a:=by unfold mxR;split<;>rfl
theorem mn_le (a b:Rat):mnR a b≤a∧mnR a b≤b∧(mnR a b=a∨mnR a b=b):=by unfold mnR;split<;>grind
theorem mx_ge (a b:Rat):a≤mxR a b∧b≤mxR a b∧(mxR a b=a∨mxR a b=b):=by unfold mxR;split<;>grind
theorem bk_spec (p:List Rat):∀ k,(∀ i,i<k→(bkP p k).1≤p.getD i 0∧p.getD i 0≤(bkP p k).2)∧(0<k→(∃ i,i<k∧(bkP p k).1=p.getD i 0)∧∃ i,i<k∧(bkP p k).2=p.getD i 0)
 | 0=>⟨fun i h=>by omega,fun h=>by omega⟩
 | k+1=>by
  obtain⟨h1,h2⟩:=bk_spec p k
  rw [bkP]
  by_cases hk:k=0
  ·subst hk
   rw [if_pos rfl]
   simp only [hulP,mn_self,mx_self]
   refine⟨fun i hi=>?_,fun _=>⟨⟨0,by omega,rfl⟩,⟨0,by omega,rfl⟩⟩⟩
   obtain rfl:i=0:=by omega
   exact⟨Rat.le_refl,Rat.le_refl⟩
  ·rw [if_neg hk]
   obtain⟨⟨i,hi,ei⟩,⟨j,hj,ej⟩⟩:=h2 (by omega)
   have a:=mn_le (bkP p k).1 (p.getD k 0)
   have b:=mx_ge (bkP p k).2 (p.getD k 0)
   simp only [hulP]
   refine⟨fun x hx=>?_,fun _=>⟨?_,?_⟩⟩
   ·by_cases hxk:x=k
    ·subst hxk;exact⟨a.2.1,b.2.1⟩
    ·have:=h1 x (by omega)
     exact⟨Rat.le_trans a.1 this.1,Rat.le_trans this.2 b.1⟩
   ·rcases a.2.2 with e | e
    ·exact⟨i,by omega,by rw [e,ei]⟩
    ·exact⟨k,by omega,e⟩
   ·rcases b.2.2 with e | e
    ·exact⟨j,by omega,by rw [e,ej]⟩
    ·exact⟨k,by omega,e⟩
theorem cmpR_le {a b:Rat}:cmpR a b≤0↔a≤b:=by
 unfold cmpR;split
 ·rename_i h;exact⟨fun _=>Rat.le_of_lt h,fun _=>by decide⟩
 ·split
  ·rename_i h;exact⟨fun e=>absurd e (by decide),fun e=>absurd h (Rat.not_lt.2 e)⟩
  ·rename_i h;exact⟨fun _=>Rat.not_lt.1 h,fun _=>by decide⟩
def hasR (s:Rat × Rat) (x:Rat):Bool:=decide (s.1≤x) && decide (x≤s.2)
theorem has1 {s:Rat × Rat} {x:Rat} (h:decide (cmpR s.1 x≤0)=true):decide (cmpR x s.2≤0)=hasR s x:=by
 unfold hasR
 rw [decide_eq_true (cmpR_le.1 (of_decide_eq_true h)),Bool.true_and,decide_eq_decide,cmpR_le]
theorem has2 {s:Rat × Rat} {x:Rat} (h:decide (cmpR s.1 x≤0)=false):false=hasR s x:=by
 unfold hasR
 rw [decide_eq_false (fun e=>of_decide_eq_false h (cmpR_le.2 e)),Bool.false_and]
def ptD (n:Int):Int:=1+(n.tdiv 17) % 12
def ptV (n:Int):Rat:=((n % (ptD n+1):Int):Rat)/((ptD n:Int):Rat)
theorem ptD_bd (n:Int):1≤ptD n∧ptD n≤12:=by
 unfold ptD
 have h1:=Int.emod_nonneg (n.tdiv 17) (show (12:Int)≠0 by decide)
 have h2:=Int.emod_lt_of_pos (n.tdiv 17) (show (0:Int)<12 by decide)
 omega
theorem frac_ge {a b:Int} (ha:0≤a) (hb:0<b):(0:Rat)≤(a:Rat)/(b:Rat):=by
 rw [Rat.div_def]
 exact Rat.mul_nonneg (Rat.intCast_nonneg.2 ha) (Rat.le_of_lt (Rat.inv_pos.2 (Rat.intCast_pos.2 hb)))
theorem frac_one {a b c:Int} (hc:0<c) (h:a+b=c):(a:Rat)/(c:Rat)+(b:Rat)/(c:Rat)=1:=by
 have h1:(c:Rat)≠0:=fun e=>by have:=Rat.intCast_eq_zero_iff.1 e;omega
 rw [Rat.div_def,Rat.div_def,←Rat.add_mul,←Rat.intCast_add,h,Rat.mul_inv_cancel _ h1]
theorem mix_in {m M a b x y:Rat} (ha:0≤a) (hb:0≤b) (hab:a+b=1) (hx:m≤x∧x≤M) (hy:m≤y∧y≤M):m≤a*x+b*y∧a*x+b*y≤M:=by
 have h1:=Rat.mul_nonneg ha (show 0≤x-m by grind)
 have h2:=Rat.mul_nonneg hb (show 0≤y-m by grind)
 have h3:=Rat.mul_nonneg ha (show 0≤M-x by grind)
 have h4:=Rat.mul_nonneg hb (show 0≤M-y by grind)
 have e1:b=1-a:=by grind
 subst e1
 constructor<;>grind
def inR (m M:Rat) (l:List Rat):Prop:=∀ i,i<l.length→m≤l.getD i 0∧l.getD i 0≤M
theorem inR_stp {t m M:Rat} (h0:0≤t) (h1:t≤1) {p:List Rat} (h:inR m M p):inR m M (stp t p):=fun i hi=>by
 rw [stp_len] at hi
 rw [stp_get t p i (by omega)]
 exact mix_in (by grind) h0 (by grind) (h i (by omega)) (h (i+1) (by omega))
theorem inR_cons {m M x:Rat} {l:List Rat} (hx:m≤x∧x≤M) (h:inR m M l):inR m M (x :: l)
 | 0,_=>hx
 | i+1,hi=>h i (by simpa using hi)
theorem inR_lo {t m M:Rat} (h0:0≤t) (h1:t≤1):∀ (k:Nat) (p:List Rat),p.length=k→inR m M p→inR m M (loF t k p)
 | 0,_,_,_=>fun i hi=>by simp [loF] at hi
 | k+1,p,hp,h=>inR_cons (h 0 (by omega)) (inR_lo h0 h1 k (stp t p) (by rw [stp_len];omega) (inR_stp h0 h1 h))
theorem inR_bnd (p:List Rat):inR (bndP p).1 (bndP p).2 p:=fun i hi=>(bk_spec p p.length).1 i hi
theorem has_bnd {p:List Rat} {x:Rat} (h:(bndP p).1≤x∧x≤(bndP p).2):hasR (bndP p) x=true:=by
 unfold hasR;rw [decide_eq_true h.1,decide_eq_true h.2];rfl
theorem ptV_in (n:Int):0≤ptV n∧ptV n≤1:=by
 have hd:=ptD_bd n
 have h1:=Int.emod_nonneg n (show ptD n+1≠0 by omega)
 have h2:=Int.emod_lt_of_pos n (show (0:Int)<ptD n+1 by omega)
 have h3:=frac_ge (a:=n % (ptD n+1)) (b:=ptD n) h1 (by omega)
 have h4:=frac_ge (a:=ptD n-n % (ptD n+1)) (b:=ptD n) (by omega) (by omega)
 have h5:=frac_one (a:=n % (ptD n+1)) (b:=ptD n-n % (ptD n+1)) (c:=ptD n) (by omega) (by omega)
 unfold ptV
 exact⟨h3,by grind⟩
theorem ptV_rl (n:Int):rl (ptV n)≤1:=by
 have hd:=ptD_bd n
 have h1:=Int.emod_nonneg n (show ptD n+1≠0 by omega)
 have h2:=Int.emod_lt_of_pos n (show (0:Int)<ptD n+1 by omega)
 exact rl_ints (by omega) (by omega)
theorem ev_bnd {p:List Rat} {t:Rat} (h0:0≤t) (h1:t≤1) (h:0<p.length):hasR (bndP p) (evP p t)=true :=
 has_bnd (inR_lo h0 h1 _ p rfl (inR_bnd p) _ (by rw [loF_len];omega))
open H0 in
theorem c_SOf (a b:Rat) (h:rl a+rl b≤549755813888):CallP Tryz.prog 182 [ratL a,ratL b] (spL (mnR a b,mxR a b)):=by
 refine fnP Tryz.func182 ?_
 refine zg8 ?_
 refine wl_regD 7 (by decide +kernel) ?_
 refine zg2 ?_
 refine cp am2 (c_RMin _ _ (by omega)) ?_
 refine zg2 ?_
 refine cp am2 (c_RMax _ _ (by omega)) ?_
 refine zg5 ?_
 exact retC [] rfl rfl rfl (spE.csize _) (spL_all _) T42 (.pure (spE.pure _))
open H0 in
theorem c_MPart (n:Int) (hn:-9223372036854775808≤n∧n≤9223372036854775807):CallP Tryz.prog 62 [iL n] (ratL (ptV n)):=by
 have hd:=ptD_bd n
 have hq:(n.tdiv 17).natAbs=n.natAbs/17:=Int.natAbs_tdiv _ _
 have hpd:ptD n=1+(n.tdiv 17) % 12:=rfl
 have h1:=Int.emod_nonneg n (show ptD n+1≠0 by omega)
 have h2:=Int.emod_lt_of_pos n (show (0:Int)<ptD n+1 by omega)
 refine fnP Tryz.func62 ?_
 refine zg8 ?_
 refine st_pure rfl (.bin rfl rfl (quo64 (a:=n) (b:=17) (by decide) (by omega) (by omega))) ?_
 refine cp am2 (c_Mod (n.tdiv 17) 12 (by decide) (by decide)) ?_
 refine st_pure rfl (.bin rfl rfl (add64 (by omega) (by omega))) ?_
 refine zg7 ?_
 refine st_pure rfl (.bin rfl rfl (add64 (a:=ptD n) (by omega) (by omega))) ?_
 refine cp am2 (c_Mod n (ptD n+1) (by omega) (by omega)) ?_
 refine zg1 ?_
 refine cp am2 (c_FFrac (n % (ptD n+1)) (ptD n) (by omega) (by omega) (by omega) (by omega) (by omega)) ?_
 refine zg4 ?_
 exact retC [] rfl rfl rfl (ratE.csize _) (ratL_all _) T29 (.pure (ratE.pure _))
def v3a (p q:V3):V3:=⟨p.x+q.x,p.y+q.y,p.z+q.z⟩
def v3s (p q:V3):V3:=⟨p.x-q.x,p.y-q.y,p.z-q.z⟩
def v3m (r:Rat) (p:V3):V3:=⟨r*p.x,r*p.y,r*p.z⟩
def v3d (p q:V3):Rat:=0+p.x*q.x+p.y*q.y+p.z*q.z
def bd3 (R:Nat) (p:V3):Prop:=rl p.x≤R∧rl p.y≤R∧rl p.z≤R
theorem bd3.le {R S:Nat} {p:V3} (h:bd3 R p) (hRS:R≤S):bd3 S p:=⟨Nat.le_trans h.1 hRS,Nat.le_trans h.2.1 hRS,Nat.le_trans h.2.2 hRS⟩
theorem v3s_rl {R:Nat} {p q:V3} (hp:bd3 R p) (hq:bd3 R q):bd3 (2*R+1) (v3s p q):=by
 have h1:=rl_sub p.x q.x
 have h2:=rl_sub p.y q.y
 have h3:=rl_sub p.z q.z
 obtain⟨a1,a2,a3⟩:=hp
 obtain⟨b1,b2,b3⟩:=hq
 exact⟨by show rl (p.x-q.x)≤_;omega,by show rl (p.y-q.y)≤_;omega,by show rl (p.z-q.z)≤_;omega⟩
theorem v3d_rl {R S:Nat} {p q:V3} (hp:bd3 R p) (hq:bd3 S q):rl (v3d p q)≤3*(R+S)+4:=by
 obtain⟨a1,a2,a3⟩:=hp
 obtain⟨b1,b2,b3⟩:=hq
 have h1:=rl_mul p.x q.x
 have h2:=rl_mul p.y q.y
 have h3:=rl_mul p.z q.z
 have h4:=rl_add 0 (p.x*q.x)
 have h5:=rl_add (0+p.x*q.x) (p.y*q.y)
 have h6:=rl_add (0+p.x*q.x+p.y*q.y) (p.z*q.z)
 have h0:rl 0=1:=rfl
 unfold v3d
 omega
def sgR (a b p:V3):Rat :=
 if v3d (v3s p a) (v3s b a)≤0 then v3d (v3s p a) (v3s p a)
 else if v3d (v3s b a) (v3s b a)≤v3d (v3s p a) (v3s b a) then v3d (v3s p b) (v3s p b)
 else v3d (v3s p (v3a a (v3m (v3d (v3s p a) (v3s b a)/v3d (v3s b a) (v3s b a)) (v3s b a)))) (v3s p (v3a a (v3m (v3d (v3s p a) (v3s b a)/v3d (v3s b a) (v3s b a)) (v3s b a))))
def okP (R:Nat) (q:PoR):Prop:=bd3 R q.p∧rl q.w≤R∧0<q.w
theorem ptL_kill (q:V3) (b:Nat):(ptL q).kill b=ptL q:=LV.kill_pure b _ (ptE.pure q)
theorem poL_kill (q:PoR) (b:Nat):(poL q).kill b=poL q:=LV.kill_pure b _ (poE.pure q)
namespace H_c_each
theorem zSm {p q:Prop} (k:q) (e:p=q:=by simp only [e1,e2,e3,e4,p1,p2,p3,q1,q2,q3,l1,t0,t1,r1,r2,r3,r4,Nat.zero_add,Nat.reduceMul,Nat.reduceAdd,b1,b2,b3,b4,b5,b6,i1,i2,i3,i4,i5,i6,Nat.reduceBEq,frz_nil];exact rfl):p:=e.mpr k
end H_c_each
open H_c_each in
theorem c_each (f:Nat) (g:Rat→Rat→Rat) (p q:V3) (h1:CallP Tryz.prog f [ratL p.x,ratL q.x] (ratL (g p.x q.x))) (h2:CallP Tryz.prog f [ratL p.y,ratL q.y] (ratL (g p.y q.y))) (h3:CallP Tryz.prog f [ratL p.z,ratL q.z] (ratL (g p.z q.z))):CallP Tryz.prog 215 [ptL p,ptL q,.clo f []] (ptL ⟨g p.x q.x,g p.y q.y,g p.z q.z⟩):=by
 refine fnP Tryz.func215 (ht:=(fun r=>LV.ren_pure r _ (ptE.pure _))) ?_
 refine zg19 ?_
 refine wl_unroll ?_
 refine zg6 ?_
 refine wl_condX (b:=_) rfl (by decide) ?_
 refine zg10 ?_
 refine wl_regD 10 (by decide +kernel) ?_
 refine zg8 ?_
 refine st_opc [] rfl rfl (.clo (f:=f) (cap:=[]) (args:=[ratL p.x,ratL q.x]) rfl (.cons im0 (.cons im0 .nil)) ⟨rfl,fun _ h=>by cases h⟩ h1.1 (by decide) (fun _ h=>by cases h)) (h1.2 _) ?_
 refine zg10 ?_
 refine wl_unroll ?_
 refine zg6 ?_
 refine wl_condX (b:=_) rfl (by decide) ?_
 refine zg10 ?_
 refine wl_regD 10 (by decide +kernel) ?_
 refine zg8 ?_
 refine st_opc [] rfl rfl (.clo (f:=f) (cap:=[]) (args:=[ratL p.y,ratL q.y]) rfl (.cons im0 (.cons im0 .nil)) ⟨rfl,fun _ h=>by cases h⟩ h2.1 (by decide) (fun _ h=>by cases h)) (h2.2 _) ?_
 refine zg10 ?_
 refine wl_unroll ?_
 refine zg6 ?_
 refine wl_condX (b:=_) rfl (by decide) ?_
 refine zg10 ?_
 refine wl_regD 10 (by decide +kernel) ?_
 refine zg8 ?_
 refine st_opc [] rfl rfl (.clo (f:=f) (cap:=[]) (args:=[ratL p.z,ratL q.z]) rfl (.cons im0 (.cons im0 .nil)) ⟨rfl,fun _ h=>by cases h⟩ h3.1 (by decide) (fun _ h=>by cases h)) (h3.2 _) ?_
 refine zg10 ?_
 refine wl_unroll ?_
 refine zg6 ?_
 refine wl_condY (b:=_) rfl (by decide) ?_
 refine zg12 ?_
 exact retC [] rfl rfl rfl cs (at_all cs rfl) T31 (.pure pu)
open H0 in
theorem c_VSub (p q:V3) (R:Nat) (hR:R≤100000000000) (hp:bd3 R p) (hq:bd3 R q):CallP Tryz.prog 149 [ptL p,ptL q] (ptL (v3s p q)):=by
 obtain⟨a1,a2,a3⟩:=hp
 obtain⟨b1,b2,b3⟩:=hq
 refine fnP Tryz.func149 (ht:=(fun r=>LV.ren_pure r _ (ptE.pure _))) ?_
 refine zg11 ?_
 refine cp am3 (c_each 82 (·-·) p q (c_RSub _ _ (by omega)) (c_RSub _ _ (by omega)) (c_RSub _ _ (by omega))) ?_
 refine zg4 ?_
 exact retC [] rfl rfl rfl cs (at_all cs rfl) T31 (.pure pu)
open H0 in
theorem c_VDot (p q:V3) (R:Nat) (hR:R≤1000000000) (hp:bd3 R p) (hq:bd3 R q):CallP Tryz.prog 83 [ptL p,ptL q] (ratL (v3d p q)):=by
 obtain⟨a1,a2,a3⟩:=hp
 obtain⟨b1,b2,b3⟩:=hq
 have m1:=rl_mul p.x q.x
 have m2:=rl_mul p.y q.y
 have m3:=rl_mul p.z q.z
 have s1:=rl_add 0 (p.x*q.x)
 have s2:=rl_add (0+p.x*q.x) (p.y*q.y)
 have hz0:rl 0=1:=rfl
 refine fnP Tryz.func83 ?_
 refine zg19 ?_
 refine wl_unroll ?_
 refine zg6 ?_
 refine wl_condX (b:=_) rfl (by decide) ?_
 refine zg10 ?_
 refine wl_regD 9 (by decide +kernel) ?_
 refine zg7 ?_
 refine cp am2 (c_RMul p.x q.x (by omega)) ?_
 refine cp am2 (c_RAdd 0 (p.x*q.x) (by omega)) ?_
 refine zg9 ?_
 refine wl_unroll ?_
 refine zg6 ?_
 refine wl_condX (b:=_) rfl (by decide) ?_
 refine zg10 ?_
 refine wl_regD 9 (by decide +kernel) ?_
 refine zg7 ?_
 refine cp am2 (c_RMul p.y q.y (by omega)) ?_
 refine cp am2 (c_RAdd (0+p.x*q.x) (p.y*q.y) (by omega)) ?_
 refine zg9 ?_
 refine wl_unroll ?_
 refine zg6 ?_
 refine wl_condX (b:=_) rfl (by decide) ?_
 refine zg10 ?_
 refine wl_regD 9 (by decide +kernel) ?_
 refine zg7 ?_
 refine cp am2 (c_RMul p.z q.z (by omega)) ?_
 refine cp am2 (c_RAdd (0+p.x*q.x+p.y*q.y) (p.z*q.z) (by omega)) ?_
 refine zg9 ?_
 refine wl_unroll ?_
 refine zg6 ?_
 refine wl_condY (b:=_) rfl (by decide) ?_
 refine zg12 ?_
 exact retC [] rfl rfl rfl (ratE.csize _) (ratL_all _) T29 (.pure (ratE.pure _))
open H0 in
theorem c_FDot (p q:V3) (R:Nat) (hR:R≤1000000000) (hp:bd3 R p) (hq:bd3 R q):CallP Tryz.prog 47 [ptL p,ptL q] (ratL (v3d p q)):=by
 obtain⟨a1,a2,a3⟩:=hp
 obtain⟨b1,b2,b3⟩:=hq
 have m1:=rl_mul p.x q.x
 have m2:=rl_mul p.y q.y
 have m3:=rl_mul p.z q.z
 have s1:=rl_add 0 (p.x*q.x)
 have s2:=rl_add (0+p.x*q.x) (p.y*q.y)
 have hz0:rl 0=1:=rfl
 refine fnP Tryz.func47 ?_
 refine zg19 ?_
 refine wl_unroll ?_
 refine zg7 ?_
 refine wl_condX (b:=_) rfl (by decide) ?_
 refine zg4 ?_
 refine wl_regD 9 (by decide +kernel) ?_
 refine zg7 ?_
 refine cp am2 (c_FRMul p.x q.x (by omega)) ?_
 refine cp am2 (c_FRAdd 0 (p.x*q.x) (by omega)) ?_
 refine zg10 ?_
 refine wl_unroll ?_
 refine zg7 ?_
 refine wl_condX (b:=_) rfl (by decide) ?_
 refine zg4 ?_
 refine wl_regD 9 (by decide +kernel) ?_
 refine zg7 ?_
 refine cp am2 (c_FRMul p.y q.y (by omega)) ?_
 refine cp am2 (c_FRAdd (0+p.x*q.x) (p.y*q.y) (by omega)) ?_
 refine zg10 ?_
 refine wl_unroll ?_
 refine zg7 ?_
 refine wl_condX (b:=_) rfl (by decide) ?_
 refine zg4 ?_
 refine wl_regD 9 (by decide +kernel) ?_
 refine zg7 ?_
 refine cp am2 (c_FRMul p.z q.z (by omega)) ?_
 refine cp am2 (c_FRAdd (0+p.x*q.x+p.y*q.y) (p.z*q.z) (by omega)) ?_
 refine zg10 ?_
 refine wl_unroll ?_
 refine zg7 ?_
 refine wl_condY (b:=_) rfl (by decide) ?_
 refine zg12 ?_
 exact retC [] rfl rfl rfl (ratE.csize _) (ratL_all _) T29 (.pure (ratE.pure _))
open H0 in
theorem c_FVAdd (p q:V3) (R:Nat) (hR:R≤1000000000) (hp:bd3 R p) (hq:bd3 R q):CallP Tryz.prog 19 [ptL p,ptL q] (ptL (v3a p q)):=by
 obtain⟨a1,a2,a3⟩:=hp
 obtain⟨b1,b2,b3⟩:=hq
 refine fnP Tryz.func19 (ht:=(fun r=>LV.ren_pure r _ (ptE.pure _))) ?_
 refine zg14 ?_
 refine wl_unroll ?_
 refine zg7 ?_
 refine wl_condX (b:=_) rfl (by decide) ?_
 refine zg4 ?_
 refine wl_regD 9 (by decide +kernel) ?_
 refine zg7 ?_
 refine cp am2 (c_FRAdd p.x q.x (by omega)) ?_
 refine zg11 ?_
 refine wl_unroll ?_
 refine zg7 ?_
 refine wl_condX (b:=_) rfl (by decide) ?_
 refine zg4 ?_
 refine wl_regD 9 (by decide +kernel) ?_
 refine zg7 ?_
 refine cp am2 (c_FRAdd p.y q.y (by omega)) ?_
 refine zg11 ?_
 refine wl_unroll ?_
 refine zg7 ?_
 refine wl_condX (b:=_) rfl (by decide) ?_
 refine zg4 ?_
 refine wl_regD 9 (by decide +kernel) ?_
 refine zg7 ?_
 refine cp am2 (c_FRAdd p.z q.z (by omega)) ?_
 refine zg11 ?_
 refine wl_unroll ?_
 refine zg7 ?_
 refine wl_condY (b:=_) rfl (by decide) ?_
 refine zg12 ?_
 exact retC [] rfl rfl rfl cs (at_all cs rfl) T31 (.pure pu)
theorem cmpR_ge {a b:Rat}:0≤cmpR a b↔b≤a:=by
 unfold cmpR
 constructor
 ·intro h
  split at h
  ·exact absurd h (by decide)
  ·grind
 ·intro h
  split
  ·exfalso;grind
  ·split<;>decide
end Go.Proofs.YtfpdccbgngdhkaaGreat
namespace Go.Lg
theorem callP_own {P:Program} {f:FuncId} {args:List LV} {sz n:Nat} {vals:List LV} {mt:Bool} (h:CallOK P f args (.ref 1 sz 0 n) [⟨sz,vals,mt⟩]) (hp:pures vals=true) (hn:vals.length=n):CallP P f args (.list sz vals):=by
 refine⟨⟨h.1,fun W Z0 vs hz hr=>Calls.mono (h.2 W Z0 vs hz hr) (fun e w'=>?_)⟩,fun g=>LV.ren_pure g _ (by simp [LV.pure,hp])⟩
 rintro⟨v,μ,Z,he,hc,hv⟩
 have hle:Heap.le (outHeap [⟨sz,vals,mt⟩]) (outHeap [⟨sz,vals,false⟩]):=fun b blk hb=>by
  unfold outHeap at hb ⊢
  by_cases h0:b=0
  ·rw [if_pos h0] at hb;cases hb
  ·rw [if_neg h0] at hb
   rcases Nat.lt_or_ge (b-1) 1 with h1 | h1
   ·have e:b-1=0:=by omega
    rw [e] at hb
    simp only [List.getElem?_cons_zero,Option.some.injEq] at hb
    subst hb
    exact⟨false,by rw [if_neg h0,e];rfl,fun _=>rfl,fun _ _=>h0⟩
   ·rw [List.getElem?_eq_none (by simpa using h1)] at hb;cases hb
 obtain⟨Z1,k1,k2⟩:=hc.widen hle
 have hfr:Frame Z μ w' w':=⟨fun _ _=>rfl,fun _ id _ c _ _ hh=>⟨c,hh,rfl⟩⟩
 have hv1:=hv.mono k2 (fun _ _ h=>h) hfr
 have hi:Imm (outHeap [⟨sz,vals,false⟩]) (.ref 1 sz 0 n) (.list sz vals):=by
  have:=Imm.ref (H:=outHeap [⟨sz,vals,false⟩]) (b:=1) (off:=0) (len:=n) (blk:=⟨sz,vals,false⟩) rfl rfl hp (by simp [hn]) rfl
  simpa [←hn] using this
 refine⟨v,drop1 μ 1,Z1,he,?_,RepV.of1 (fun l h=>by cases h) (hi.soundV k1 hv1)⟩
 have kk:=Core.kill (L:=⟨fun _=>.any,outHeap [⟨sz,vals,false⟩]⟩) 1 (by decide) k1
 refine kk.reheap fun b id hb=>?_
 have hb1:b≠1:=fun e=>by rw [e] at hb;simp [drop1] at hb
 have hb2:μ b=some id:=by unfold drop1 at hb;split at hb<;>first | exact hb | cases hb
 obtain⟨blk,g1,_⟩:=k1.heap b id hb2
 unfold outHeap at g1
 split at g1
 ·cases g1
 ·rw [List.getElem?_eq_none (by simp;omega)] at g1;cases g1
end Go.Lg
namespace Go.Proofs.YtfpdccbgngdhkaaGreat
open Go.Lg
theorem c_copiedP (p:List Rat) (hl:p.length≤1048576) (hpr:∀ x∈p,rl x≤274877906944):CallP Tryz.prog 257 [.list 3 (p.map ratL)] (.list 3 (p.map ratL)) :=
 callP_own (c_copiedO p hl hpr) (pures_map ratE _) (by simp)
def lifV (p:List Rat) (i:Nat):Rat:=(if 0<i then((i:Int):Rat)/((p.length:Int):Rat)*p.getD (i-1) 0 else 0)+(if i<p.length then(((p.length:Int)-(i:Int):Int):Rat)/((p.length:Int):Rat)*p.getD i 0 else 0)
def lifP (p:List Rat):List Rat:=(List.range (p.length+1)).map (lifV p)
def itL:Nat→List Rat→List Rat
 | 0,p=>p
 | k+1,p=>itL k (lifP p)
def upP (p:List Rat) (n:Nat):List Rat:=itL (n+1-p.length) p
theorem lifP_len (p:List Rat):(lifP p).length=p.length+1:=by simp [lifP]
theorem lifP_get {p:List Rat} {i:Nat} (h:i<p.length+1):(lifP p).getD i 0=lifV p i:=by
 rw [List.getD_eq_getElem?_getD,List.getElem?_eq_getElem (by rw [lifP_len];exact h)];simp [lifP]
theorem itL_len:∀ (k:Nat) (p:List Rat),(itL k p).length=p.length+k
 | 0,p=>rfl
 | k+1,p=>by rw [itL,itL_len k,lifP_len];omega
theorem upP_len {p:List Rat} {n:Nat} (h:p.length≤n+1):(upP p n).length=n+1:=by rw [upP,itL_len];omega
theorem lifV_tt {p:List Rat} {i:Nat} (h0:0<i) (h1:i<p.length):lifV p i=((i:Int):Rat)/((p.length:Int):Rat)*p.getD (i-1) 0+(((p.length:Int)-(i:Int):Int):Rat)/((p.length:Int):Rat)*p.getD i 0:=by
 rw [lifV,if_pos h0,if_pos h1]
theorem lifV_tf {p:List Rat} {i:Nat} (h0:0<i) (h1:¬ i<p.length):lifV p i=((i:Int):Rat)/((p.length:Int):Rat)*p.getD (i-1) 0:=by
 rw [lifV,if_pos h0,if_neg h1,Rat.add_zero]
theorem lifV_ft {p:List Rat} {i:Nat} (h0:¬ 0<i) (h1:i<p.length):lifV p i=(((p.length:Int)-(i:Int):Int):Rat)/((p.length:Int):Rat)*p.getD i 0:=by
 rw [lifV,if_neg h0,if_pos h1,Rat.zero_add]
def upS (p:List Rat) (n:Nat):Prop:=(∀ x∈p,rl x≤1073741824)∧∀ k,p.length+k≤n+1→∀ x∈itL k p,rl x≤1073741824
theorem upS_rl {p:List Rat} {n:Nat} (h:upS p n) (k:Nat):rl (p.getD k 0)≤1073741824:=getD_rl (by decide) h.1 k
theorem upS_step {p:List Rat} {n:Nat} (hl:p.length≤n) (h:upS p n):upS (lifP p) n:=⟨h.2 1 (by omega),fun k hk=>h.2 (k+1) (by rw [lifP_len] at hk;omega)⟩
theorem upP_self {p:List Rat} {n:Nat} (h:n+1≤p.length):upP p n=p:=by rw [upP,show n+1-p.length=0 by omega];rfl
theorem itL_step {p:List Rat} {n:Nat} (h:p.length≤n):itL (n+1-(lifP p).length) (lifP p)=itL (n+1-p.length) p:=by
 rw [show n+1-p.length=(n+1-(lifP p).length)+1 by rw [lifP_len];omega];rfl
def zipG (g:Rat→Rat→Rat) (a b:List Rat):List Rat:=(List.range a.length).map fun i=>g (a.getD i 0) (b.getD i 0)
theorem zipG_len (g:Rat→Rat→Rat) (a b:List Rat):(zipG g a b).length=a.length:=by simp [zipG]
theorem zipG_get {g:Rat→Rat→Rat} {a b:List Rat} {i:Nat} (h:i<a.length):(zipG g a b).getD i 0=g (a.getD i 0) (b.getD i 0):=by
 rw [List.getD_eq_getElem?_getD,List.getElem?_eq_getElem (by rw [zipG_len];exact h)];simp [zipG]
namespace H_c_up
theorem zSm {p q:Prop} (k:q) (e:p=q:=by simp only [e1,e2,e3,e4,p1,p2,p3,q1,q2,q3,l1,t0,t1,r1,r2,r3,r4,Nat.zero_add,Nat.reduceMul,Nat.reduceAdd,b1,b2,b3,b4,b5,b6,i1,i2,i3,i4,i5,i6,Nat.reduceBEq,dfq,List.length_set,List.set_set,egs,egz,eim,Rat.zero_add,kills_map ratE,ratL_kill,LV.kill,kills];exact rfl):p:=e.mpr k
end H_c_up
open H_c_up in
theorem c_up (p:List Rat) (n:Nat) (hp0:0<p.length) (hn:n≤1000) (hl:p.length≤1001) (hs:upS p n):CallP Tryz.prog 281 [.list 3 (p.map ratL),nI64 n] (.list 3 ((upP p n).map ratL)):=by
 refine fnP Tryz.func281 ?_
 have egs:True:=trivial
 have egz:True:=trivial
 have eim:True:=trivial
 refine zg8 ?_
 refine cp am1 (c_copiedP p (by omega) (fun x hx=>by have:=upS_rl hs;have h9:=List.getElem_of_mem hx;obtain⟨k,hk,rfl⟩:=h9;have h8:=this k;rw [List.getD_eq_getElem?_getD,List.getElem?_eq_getElem hk] at h8;exact Nat.le_trans h8 (by decide))) ?_
 refine zg5 ?_
 refine lp1 (fun(o:List Rat) L=>(((St.mk L.slot (hp [])).put (some 1) (nI64 n)).put (some 5) (.list 3 (o.map ratL)))) (fun o=>0<o.length∧o.length≤1001∧upS o n∧itL (n+1-o.length) o=upP p n) (fun o=>n+1-o.length) p ⟨hp0,hl,hs,rfl⟩ ?_
 rintro o L1 ⟨ho0,hol,hos,hit⟩
 refine zg7 ?_
 refine op_if 18 rfl (fun h18r h18=>?_) (fun h18r h18=>?_)
 ·refine zg7 ?_
  refine wl_if rfl (fun h23r h23=>?_) (fun h23r h23=>?_)
  ·have hon:o.length≤n:=by omega
   refine zg13 ?_
   refine st_pure rfl (.bin rfl rfl (add1N (by omega))) ?_
   refine st_alloc rfl rfl (.mkE (n:=(o.length+1)) (m:=(o.length+1)) ml ml om om om) ?_
   refine zg12 ?_
   refine lp2 (fun(i:Nat) (w:List Rat) L=>((((((((St.mk L.slot (hp [(28,⟨3,w.map ratL,true⟩)])).put (some 1) (nI64 n)).put (some 5) (.list 3 (o.map ratL))).put (some 6) (nI64 o.length)).put (some 7) (.ref 28 3 0 (o.length+1))).put (some 29) (.ref 28 3 0 (o.length+1))).put (some 30) (nI64 (o.length+1))).put (some 31) (nI64 i))) (fun i w=>i≤o.length+1∧w.length=o.length+1∧w.take i=(lifP o).take i∧∀ x,i≤x→w.getD x 0=0) (fun i w=>o.length+1-i) 0 (List.replicate (o.length+1) 0) ⟨Nat.zero_le _,by simp,rfl,fun x _=>by simp [List.getD_eq_getElem?_getD,List.getElem?_replicate];split<;>rfl⟩ ?_
   rintro i w L2 ⟨hi,hwl,hwt,hz⟩
   refine zg6 ?_
   refine wl_if rfl (fun h32r h32=>?_) (fun h32r h32=>?_)
   ·have hi2:i<o.length+1:=by omega
    have hf1:=rl_ints (n:=(i:Int)) (d:=(o.length:Int)) (by omega) (by omega)
    have hf2:=rl_ints (n:=(o.length:Int)-(i:Int)) (d:=(o.length:Int)) (by omega) (by omega)
    have hr1:=upS_rl hos (i-1)
    have hr2:=upS_rl hos i
    have hm1:=rl_mul (((i:Int):Rat)/((o.length:Int):Rat)) (o.getD (i-1) 0)
    have hm2:=rl_mul ((((o.length:Int)-(i:Int):Int):Rat)/((o.length:Int):Rat)) (o.getD i 0)
    have egs:=fun v=>set_get_self (o:=w) (i:=i) (v:=v) (by omega)
    have egz:=hz i (Nat.le_refl _)
    have eim:((i:Int)-1).toNat=i-1:=by omega
    have hr0:rl 0=1:=rfl
    refine zg17 ?_
    refine wl_if rfl (fun h35r h35=>?_) (fun h35r h35=>?_)
    ·have hi0:0<i:=by omega
     refine zg4 ?_
     refine cp am2 (c_RMake (i:Int) (o.length:Int) (by omega) (by omega) (by omega) (by omega) (by omega)) ?_
     refine zg8 ?_
     refine wl_regD 10 (by decide +kernel) ?_
     refine zg8 ?_
     try simp only [t1,dfq,eim]
     refine cp am2 (c_RMul _ _ (by omega)) ?_
     refine zg12 ?_
     refine wl_if rfl (fun h55r h55=>?_) (fun h55r h55=>?_)
     ·have hi1:i<o.length:=by omega
      refine zg4 ?_
      refine st_pure rfl (.bin rfl rfl (sub64 (by omega) (by omega))) ?_
      refine zg1 ?_
      refine cp am2 (c_RMake ((o.length:Int)-(i:Int)) (o.length:Int) (by omega) (by omega) (by omega) (by omega) (by omega)) ?_
      refine zg8 ?_
      refine wl_regD 14 (by decide +kernel) ?_
      refine zg11 ?_
      try simp only [t1,dfq]
      refine cp am2 (c_RMul _ _ (by omega)) ?_
      try simp only [t1,dfq,Nat.zero_add,egs,egz]
      refine cp am2 (c_RAdd _ _ (by omega)) ?_
      refine zg5 ?_
      refine wl_regW ((Weak.kill _ 9).trans (Weak.kill _ 11)) ?_
      refine zg4 ?_
      exact nx2 (i+1) (w.set i (((i:Int):Rat)/((o.length:Int):Rat)*o.getD (i-1) 0+(((o.length:Int)-(i:Int):Int):Rat)/((o.length:Int):Rat)*o.getD i 0)) ⟨by omega,by simp [hwl],set_takeR (by rw [lifP_len];omega) (by rw [lifP_len];omega) hwt (by rw [lifP_get (by omega),lifV_tt hi0 hi1]),fun x hx=>by rw [set_getD _ _ _ _ (by omega),if_neg (by omega)];exact hz x (by omega)⟩
     ·have hi1:¬ i<o.length:=by omega
      refine zg3 ?_
      refine wl_regW ((Weak.kill _ 9).trans (Weak.kill _ 11)) ?_
      refine zg4 ?_
      exact nx2 (i+1) (w.set i (((i:Int):Rat)/((o.length:Int):Rat)*o.getD (i-1) 0)) ⟨by omega,by simp [hwl],set_takeR (by rw [lifP_len];omega) (by rw [lifP_len];omega) hwt (by rw [lifP_get (by omega),lifV_tf hi0 hi1]),fun x hx=>by rw [set_getD _ _ _ _ (by omega),if_neg (by omega)];exact hz x (by omega)⟩
    ·have hi0:¬ 0<i:=by omega
     refine zg10 ?_
     refine wl_if rfl (fun h55r h55=>?_) (fun h55r h55=>?_)
     ·have hi1:i<o.length:=by omega
      refine zg4 ?_
      refine st_pure rfl (.bin rfl rfl (sub64 (by omega) (by omega))) ?_
      refine zg1 ?_
      refine cp am2 (c_RMake ((o.length:Int)-(i:Int)) (o.length:Int) (by omega) (by omega) (by omega) (by omega) (by omega)) ?_
      refine zg8 ?_
      refine wl_regD 14 (by decide +kernel) ?_
      refine zg11 ?_
      try simp only [t1,dfq]
      refine cp am2 (c_RMul _ _ (by omega)) ?_
      try simp only [t1,dfq,Nat.zero_add,egs,egz]
      refine cp am2 (c_RAdd _ _ (by omega)) ?_
      refine zg5 ?_
      refine wl_regW ((Weak.kill _ 9).trans (Weak.kill _ 11)) ?_
      refine zg4 ?_
      exact nx2 (i+1) (w.set i ((((o.length:Int)-(i:Int):Int):Rat)/((o.length:Int):Rat)*o.getD i 0)) ⟨by omega,by simp [hwl],set_takeR (by rw [lifP_len];omega) (by rw [lifP_len];omega) hwt (by rw [lifP_get (by omega),lifV_ft hi0 hi1]),fun x hx=>by rw [set_getD _ _ _ _ (by omega),if_neg (by omega)];exact hz x (by omega)⟩
     ·have hi1:¬ i<o.length:=by omega
      refine zg3 ?_
      refine wl_regW ((Weak.kill _ 9).trans (Weak.kill _ 11)) ?_
      refine zg4 ?_
      exact nx2 (i+1) w (False.elim (by omega))
   ·obtain rfl:i=o.length+1:=by omega
    have hE:w=lifP o:=by
     rw [List.take_of_length_le (by omega),List.take_of_length_le (by rw [lifP_len];omega)] at hwt
     exact hwt
    subst hE
    refine zg5 ?_
    refine wl_regW ((Weak.imm (t:=7) [28] rfl rfl (imm_refm ratE rfl rfl (by rw [lifP_len]))).trans (Weak.kill _ 28)) ?_
    refine zg5 ?_
    exact nx1 (lifP o) ⟨by rw [lifP_len];omega,by rw [lifP_len];omega,upS_step (by omega) hos,by rw [itL_step (by omega)];exact hit⟩ (hm:=by rw [lifP_len];omega)
  ·refine zg12 ?_
   have hE:upP p n=o:=by rw [←hit,show n+1-o.length=0 by omega];rfl
   rw [hE]
   exact ret1 rfl (by first | exact .pure rfl | exact .pure (limL_pure _) | exact .pure (magL_pure _) | exact .pure (ratE.pure _) | exact .pure (pure_lst u32E _ _) | exact .pure (pure_lst ratE _ _))
 ·refine zg20 ?_
  have hE:upP p n=o:=by rw [←hit,show n+1-o.length=0 by omega];rfl
  rw [hE]
  exact ret1 rfl (by first | exact .pure rfl | exact .pure (limL_pure _) | exact .pure (magL_pure _) | exact .pure (ratE.pure _) | exact .pure (pure_lst u32E _ _) | exact .pure (pure_lst ratE _ _))
def gH (a b:Rat):Nat→(Nat→Rat)→Rat
 | 0,f=>f 0
 | n+1,f=>f 0*a ^ (n+1)+b*gH a b n (fun k=>f (k+1))
theorem gH_add (a b:Rat):∀ (n:Nat) (f g:Nat→Rat),gH a b n (fun k=>f k+g k)=gH a b n f+gH a b n g
 | 0,f,g=>rfl
 | n+1,f,g=>by rw [gH,gH,gH,gH_add a b n];grind
theorem gH_mul (a b c:Rat):∀ (n:Nat) (f:Nat→Rat),gH a b n (fun k=>c*f k)=c*gH a b n f
 | 0,f=>rfl
 | n+1,f=>by rw [gH,gH,gH_mul a b c n];grind
theorem gH_tail (a b:Rat):∀ (n:Nat) (f:Nat→Rat),f (n+1)=0→gH a b (n+1) f=a*gH a b n f
 | 0,f,h=>by
  show f 0*a ^ 1+b*f 1=a*f 0
  rw [h];grind
 | n+1,f,h=>by
  rw [gH,gH_tail a b n (fun k=>f (k+1)) h,gH]
  grind
theorem gH_tails (a b:Rat) (f:Nat→Rat) (m:Nat) (h:∀ k,m<k→f k=0):∀ n,gH a b (m+n) f=a ^ n*gH a b m f
 | 0=>by simp
 | n+1=>by
  rw [←Nat.add_assoc,gH_tail a b (m+n) f (h _ (by omega)),gH_tails a b f m h n];grind
theorem gH_sr (a b:Rat) (n:Nat) (f:Nat→Rat):gH a b (n+1) (fun k=>if k=0 then 0 else f (k-1))=b*gH a b n f:=by
 rw [gH,if_pos rfl]
 have:(fun k=>if k+1=0 then 0 else f (k+1-1))=f:=by funext k;rw [if_neg (by omega)];rfl
 rw [this];grind
def cR (n k:Nat):Rat:=((chs n k:Nat):Int)
theorem cR_pas (n k:Nat):cR (n+1) k=cR n k+(if k=0 then 0 else cR n (k-1)):=by
 unfold cR
 cases k with
 | zero=>rw [chs_zero,chs_zero,if_pos rfl,Rat.add_zero]
 | succ k =>
  rw [if_neg (by omega),chs,←Rat.intCast_add]
  congr 1
  rw [show k+1-1=k from rfl];omega
theorem fE_gH (a b:Rat):∀ (n:Nat) (f:Nat→Rat),fE a b n f=gH a b n (fun k=>cR n k*f k)
 | 0,f=>by
  show f 0=cR 0 0*f 0
  rw [show cR 0 0=1 from rfl,Rat.one_mul]
 | n+1,f=>by
  have e:(fun k=>cR (n+1) k*f k)=fun k=>(fun k=>cR n k*f k) k+(fun k=>if k=0 then 0 else(fun j=>cR n j*f (j+1)) (k-1)) k:=by
   funext k
   show cR (n+1) k*f k=cR n k*f k+(if k=0 then 0 else cR n (k-1)*f (k-1+1))
   rw [cR_pas]
   by_cases h:k=0
   ·rw [if_pos h,if_pos h];grind
   ·rw [if_neg h,if_neg h,show k-1+1=k by omega];grind
  have hz:cR n (n+1)=0:=by unfold cR;rw [chs_gt (by omega)];rfl
  have h2:=gH_sr a b n (fun j=>cR n j*f (j+1))
  rw [e,gH_add,h2,gH_tail _ _ _ _ (by show cR n (n+1)*f (n+1)=0;rw [hz,Rat.zero_mul]),fE_step,fE_gH a b n f,fE_gH a b n (fun i=>f (i+1))]
def sq (p:List Rat) (k:Nat):Rat:=cR (p.length-1) k*p.getD k 0
theorem sq_gt {p:List Rat} {k:Nat} (h:p.length≤k):sq p k=0:=by unfold sq;rw [ge_zero h,Rat.mul_zero]
theorem ev_gH {p:List Rat} {t:Rat} (h:0<p.length):evP p t=gH (1-t) t (p.length-1) (sq p):=by rw [ev_fE h,fE_gH];rfl
theorem cR_ne {n k:Nat} (h:k≤n):cR n k≠0:=by
 have:=chs_pos h
 exact fun e=>by have:=Rat.intCast_eq_zero_iff.1 e;omega
def sm:Nat→(Nat→Rat)→Rat
 | 0,_=>0
 | n+1,f=>sm n f+f n
theorem sm_congr:∀ (n:Nat) (f g:Nat→Rat),(∀ i,i<n→f i=g i)→sm n f=sm n g
 | 0,_,_,_=>rfl
 | n+1,f,g,h=>by rw [sm,sm,sm_congr n f g (fun i hi=>h i (by omega)),h n (by omega)]
theorem sm_add:∀ (n:Nat) (f g:Nat→Rat),sm n (fun i=>f i+g i)=sm n f+sm n g
 | 0,_,_=>by show (0:Rat)=0+0;grind
 | n+1,f,g=>by rw [sm,sm,sm,sm_add n];grind
theorem sm_head:∀ (n:Nat) (f:Nat→Rat),sm (n+1) f=f 0+sm n (fun i=>f (i+1))
 | 0,f=>by show 0+f 0=f 0+0;grind
 | n+1,f=>by rw [sm,sm_head n f,sm];grind
theorem sm_zero (n:Nat) (f:Nat→Rat) (h:∀ i,i<n→f i=0):sm n f=0:=by
 induction n with
 | zero=>rfl
 | succ n ih=>rw [sm,ih (fun i hi=>h i (by omega)),h n (by omega)];exact Rat.add_zero 0
theorem sm_ext (n:Nat) (f:Nat→Rat) (h:∀ i,n≤i→f i=0):∀ m,sm (n+m) f=sm n f
 | 0=>rfl
 | m+1=>by rw [←Nat.add_assoc,sm,sm_ext n f h m,h _ (by omega)];grind
def cf (f g:Nat→Rat) (k:Nat):Rat:=sm (k+1) fun i=>f i*g (k-i)
theorem cf_head (f g:Nat→Rat) (k:Nat):cf f g k=f 0*g k+(if k=0 then 0 else cf (fun i=>f (i+1)) g (k-1)):=by
 unfold cf
 rw [sm_head,Nat.sub_zero]
 cases k with
 | zero=>rfl
 | succ k =>
  rw [if_neg (by omega)]
  congr 1
  refine sm_congr _ _ _ fun i hi=>?_
  rw [show k+1-(i+1)=k+1-1-i by omega]
theorem gH_cf (a b:Rat) (g:Nat→Rat) (m:Nat) (hg:∀ k,m<k→g k=0):∀ (n:Nat) (f:Nat→Rat),(∀ k,n<k→f k=0)→gH a b (m+n) (cf f g)=gH a b n f*gH a b m g
 | 0,f,hf=>by
  have e:cf f g=fun k=>f 0*g k:=by
   funext k
   rw [cf,sm_head,sm_zero _ _ (fun i _=>by rw [hf (i+1) (by omega),Rat.zero_mul]),Rat.add_zero,Nat.sub_zero]
  rw [e,gH_mul];rfl
 | n+1,f,hf=>by
  have e:cf f g=fun k=>(fun k=>f 0*g k) k+(fun k=>if k=0 then 0 else cf (fun i=>f (i+1)) g (k-1)) k:=by funext k;exact cf_head f g k
  rw [e,gH_add,gH_mul,←Nat.add_assoc,gH_sr,gH_cf a b g m hg n _ (fun k hk=>hf _ (by omega)),Nat.add_assoc,gH_tails a b g m hg (n+1),gH]
  grind
open H0 in
theorem c_Elev (p:List Rat) (n:Nat) (hp0:0<p.length) (hn:n≤40) (hpn:p.length≤n+1) (hps:upS p n):CallP Tryz.prog 277 [.list 3 (p.map ratL),nI64 n] (.tup [.list 3 ((upP p n).map ratL),iL 0]):=by
 refine fnP Tryz.func277 ?_
 refine zg12 ?_
 refine st_pure rfl (.bin rfl rfl (sub64 (by omega) (by omega))) ?_
 refine zg2 ?_
 refine op_if 11 rfl (fun h11r h11=>?_) (fun h11r h11=>?_)
 ·refine zg14 ?_
  exfalso
  omega
 ·refine zg5 ?_
  refine wl_if rfl (fun h14r h14=>?_) (fun h14r h14=>?_)
  ·omega
  ·refine zg6 ?_
   refine cp am2 (c_up p n hp0 (by omega) (by omega) hps) ?_
   refine zg5 ?_
   exact ret2 rfl (.pure (pure_lst ratE _ _)) rfl (.pure rfl)
end Go.Proofs.YtfpdccbgngdhkaaGreat
namespace Go.Lg
theorem Weak.cell {L:St} (b:Nat) {sz:Nat} {x y:LV} {mt:Bool} (hb:L.heap b=some ⟨sz,[x],mt⟩) (h:∀ Z μ w cs,Rep Z μ w x cs→Rep Z μ w y cs):Weak L (L.setB b (some ⟨sz,[y],mt⟩)):=by
 rintro n W X Z0 a w ⟨hdf,hsz,μ,Z,hc,hr⟩
 refine⟨hdf,hsz,μ,Z,?_,hr⟩
 have hs:∀ c,(L.setB b (some ⟨sz,[y],mt⟩)).heap c=if c=b then some ⟨sz,[y],mt⟩ else L.heap c:=fun c=>rfl
 refine⟨hc.keep,hc.zone,hc.zsup,hc.zsub,hc.inj,hc.own,hc.x0,hc.xlt,hc.x1,fun c id blk g1 g2=>?_,fun c id blk g1 g2=>?_,fun c id g1=>?_⟩
 ·rw [hs] at g2
  split at g2
  ·rename_i e;subst e;cases g2;exact hc.mutz c id ⟨sz,[x],mt⟩ g1 hb
  ·exact hc.mutz c id blk g1 g2
 ·rw [hs] at g2
  split at g2
  ·rename_i e;subst e;cases g2;exact hc.frz c id ⟨sz,[x],mt⟩ g1 hb
  ·exact hc.frz c id blk g1 g2
 ·obtain⟨blk,k1,k2⟩:=hc.heap c id g1
  rw [hs]
  by_cases e:c=b
  ·subst e
   rw [if_pos rfl]
   rw [hb] at k1
   cases k1
   refine⟨_,rfl,?_⟩
   obtain⟨cs,T,part,rest,e1,e2,e3⟩:=k2
   refine⟨cs,T,part,rest,e1,e2,?_⟩
   simp only [RepAll] at e3 ⊢
   obtain⟨c1,c2,q1,q2,q3,q4⟩:=e3
   exact⟨c1,c2,q1,q2,h _ _ _ _ q3,q4⟩
  ·rw [if_neg e];exact⟨blk,k1,k2⟩
theorem Weak.newB (L:St) (d sz:Nat) (hd:L.heap d=none):Weak L (L.setB d (some ⟨sz,[],true⟩)):=by
 rintro n W X Z0 a w ⟨hdf,hsz,μ,Z,hc,hr⟩
 refine⟨hdf,hsz,μ,Z,?_,hr⟩
 refine hc.reheap fun c id hcd=>?_
 have:c≠d:=by rintro rfl;rw [mu_none hc hd] at hcd;cases hcd
 simp [St.setB,this]
theorem rep_net (d sz:Nat) (x y:LV) (Z:Nat→Prop) (μ:Nat→Option Nat) (w:World) (cs:List Value) (h:Rep Z μ w (.agg [x,y,.v (.slice none 0 0)]) cs):Rep Z μ w (.agg [x,y,.ref d sz 0 0]) cs:=by
 simp only [Rep,RepFs] at h ⊢
 obtain⟨c1,c2,e1,e2,e3,c3,c4,e4,e5,e6,c5,c6,e7,e8,e9,e10⟩:=h
 exact⟨c1,c2,e1,e2,e3,c3,c4,e4,e5,e6,c5,c6,e7,e8,.inl ⟨e9.1,trivial⟩,e10⟩
end Go.Lg
namespace Go.Proofs.YtfpdccbgngdhkaaGreat
open Go.Lg
def _root_.Go.Lg.V3.at (p:V3):Nat→Rat
 | 0=>p.x
 | 1=>p.y
 | _=>p.z
def nmP (po:List PoR) (k:Nat):List Rat:=po.map fun q=>q.w*q.p.at k
def wtP (po:List PoR):List Rat:=po.map fun q=>q.w
theorem nmP_len (po:List PoR) (k:Nat):(nmP po k).length=po.length:=by simp [nmP]
theorem wtP_len (po:List PoR):(wtP po).length=po.length:=by simp [wtP]
theorem at_rl {R:Nat} {p:V3} (h:bd3 R p):∀ k,rl (p.at k)≤R
 | 0=>h.1
 | 1=>h.2.1
 | _+2=>h.2.2
theorem nmP_rl {R:Nat} {po:List PoR} (h:∀ q∈po,okP R q) (k:Nat):∀ x∈nmP po k,rl x≤2*R:=fun x hx=>by
 obtain⟨q,hq,rfl⟩:=List.mem_map.1 hx
 obtain⟨h1,h2,_⟩:=h q hq
 have h3:=at_rl h1 k
 have h4:=rl_mul q.w (q.p.at k)
 show rl (q.w*q.p.at k)≤_
 omega
theorem wtP_rl {R:Nat} {po:List PoR} (h:∀ q∈po,okP R q):∀ x∈wtP po,rl x≤R:=fun x hx=>by
 obtain⟨q,hq,rfl⟩:=List.mem_map.1 hx
 exact(h q hq).2.1
def trP (po:List PoR) (k:Nat):List Rat:=zipG (·-·) (mulP (difP (nmP po k)) (wtP po)) (mulP (nmP po k) (difP (wtP po)))
theorem mulP_rlK {p q:List Rat} {R:Nat} (h:p.length-1+(q.length-1)≤40) (hpl:p.length≤41) (hql:q.length≤41) (hR1:1≤R) (hR:R≤100) (hpR:∀ x∈p,rl x≤R) (hqR:∀ x∈q,rl x≤R):∀ x∈mulP p q,rl x≤344700:=fun x hx=>by
 obtain⟨k,hk,rfl⟩:=List.mem_map.1 hx
 have hS:=allM_rl hpl hql hR1 hpR hqR p.length
 have hbd:p.length*(q.length*(2*R+5))≤41*(41*205):=Nat.mul_le_mul hpl (Nat.mul_le_mul hql (by omega))
 have hg1:=getD_rl (by omega) hS k
 have hg2:=getD_rl (S:=2) (by decide) (chR_rl (n:=p.length-1+(q.length-1)) h) k
 have h3:=rl_div ((allM p q p.length).getD k 0) ((chR (p.length-1+(q.length-1))).getD k 0)
 omega
theorem zipK_rl {R:Nat} {p q:List Rat} {g:Rat→Rat→Rat} (hg:∀ a b,rl (g a b)≤rl a+rl b+1) (hR:1≤R) (hp:∀ x∈p,rl x≤R) (hq:∀ x∈q,rl x≤R):∀ x∈zipG g p q,rl x≤2*R+1:=fun x hx=>by
 obtain⟨i,_,rfl⟩:=List.mem_map.1 hx
 have h1:=getD_rl hR hp i
 have h2:=getD_rl hR hq i
 have h3:=hg (p.getD i 0) (q.getD i 0)
 omega
structure cvF (po:List PoR) (d:Nat):Prop where
 hl:po.length=d+1
 hd:1≤d
 h6:d≤6
 ok:∀ q∈po,okP 1 q
section
variable {po:List PoR} {d:Nat} (h:cvF po d)
theorem cvF.n (h:cvF po d) (k:Nat):(nmP po k).length=d+1∧∀ x∈nmP po k,rl x≤2:=⟨by rw [nmP_len,h.hl],nmP_rl h.ok k⟩
theorem cvF.w (h:cvF po d):(wtP po).length=d+1∧∀ x∈wtP po,rl x≤2:=⟨by rw [wtP_len,h.hl],fun x hx=>Nat.le_trans (wtP_rl h.ok x hx) (by decide)⟩
theorem cvF.dn (h:cvF po d) (k:Nat):(difP (nmP po k)).length=d∧∀ x∈difP (nmP po k),rl x≤8:=by
 obtain⟨h1,h2⟩:=h.n k
 have:=h.hd
 have:=h.h6
 exact⟨by rw [difP_len,h1,if_neg (by omega)];omega,difP_rl (by decide) (by omega) h2⟩
theorem cvF.dw (h:cvF po d):(difP (wtP po)).length=d∧∀ x∈difP (wtP po),rl x≤8:=by
 obtain⟨h1,h2⟩:=h.w
 have:=h.hd
 have:=h.h6
 exact⟨by rw [difP_len,h1,if_neg (by omega)];omega,difP_rl (by decide) (by omega) h2⟩
theorem cvF.m1 (h:cvF po d) (k:Nat):(mulP (difP (nmP po k)) (wtP po)).length=2*d-1+1∧∀ x∈mulP (difP (nmP po k)) (wtP po),rl x≤344700:=by
 obtain⟨h1,h2⟩:=h.dn k
 obtain⟨h3,h4⟩:=h.w
 have:=h.hd
 have:=h.h6
 exact⟨by rw [mulP_len,h1,h3];omega,mulP_rlK (R:=8) (by omega) (by omega) (by omega) (by decide) (by decide) h2 (fun x hx=>Nat.le_trans (h4 x hx) (by decide))⟩
theorem cvF.m2 (h:cvF po d) (k:Nat):(mulP (nmP po k) (difP (wtP po))).length=2*d-1+1∧∀ x∈mulP (nmP po k) (difP (wtP po)),rl x≤344700:=by
 obtain⟨h1,h2⟩:=h.n k
 obtain⟨h3,h4⟩:=h.dw
 have:=h.hd
 have:=h.h6
 exact⟨by rw [mulP_len,h1,h3];omega,mulP_rlK (R:=8) (by omega) (by omega) (by omega) (by decide) (by decide) (fun x hx=>Nat.le_trans (h2 x hx) (by decide)) h4⟩
theorem cvF.t (h:cvF po d) (k:Nat):(trP po k).length=2*d-1+1∧∀ x∈trP po k,rl x≤689401:=by
 obtain⟨h1,h2⟩:=h.m1 k
 obtain⟨_,h4⟩:=h.m2 k
 exact⟨by rw [trP,zipG_len,h1],fun x hx=>zipK_rl rl_sub (by decide) h2 h4 x hx⟩
end
theorem getD_memP {po:List PoR} {j:Nat} (h:j<po.length):po.getD j default∈po:=by
 rw [List.getD_eq_getElem?_getD,List.getElem?_eq_getElem h];exact List.getElem_mem h
end Go.Proofs.YtfpdccbgngdhkaaGreat
namespace Go.Lg
end Go.Lg
namespace Go.Proofs.YtfpdccbgngdhkaaGreat
open Go.Lg
theorem chsQ_rl {n:Nat} (k:Nat) (hn:n≤40):rl (((chs n k:Nat):Int):Rat)≤2:=by
 rcases Nat.lt_or_ge n k with h | h
 ·rw [chs_gt h];decide
 ·have h1:=chR_rl hn _ (getD_mem (i:=k) (by rw [chR_len];omega))
  rw [chR_get h] at h1;exact h1
def lin (α β:Rat):Rat→List Rat→List Rat
 | c,[]=>[β*c]
 | c,x :: l=>(β*c+α*x) :: lin α β x l
inductive KS:Nat→List Rat→Prop
 | z {s:Int} {l:List Rat}:l≠[]→s=1∨s=-1→(∀ x∈l,sgnR x=s)→KS 0 l
 | r {n:Nat} {l:List Rat} {a b:Rat}:KS n l→0<a→0<b→KS (n+1) (lin (-a) b 0 l)
theorem retCC {P:Program} {L:St} {a u:Nat} {T U:TypeId} {b c sz sy:Nat} {x y x' y':LV} {m m':Bool} {n n':Nat} {ag ag':Bool} (bs:List Nat) (h0:bs.contains 0=false) (h:L.slot a=.eptr b sz 0 0) (hb:L.heap b=some ⟨sz,[x],m⟩)
  (hx:x.csize=sz) (hat:x.at 0 n ag=some x) (hT:TyIs P T n ag) (hi:Imm (L.frz bs).heap x y) (h':L.slot u=.eptr c sy 0 0) (hc:L.heap c=some ⟨sy,[x'],m'⟩)
  (hx':x'.csize=sy) (hat':x'.at 0 n' ag'=some x') (hT':TyIs P U n' ag') (hi':Imm (L.frz bs).heap x' y'):RetL P [.cell a T,.cell u U] L (.tup [y,y']) [] :=
 ⟨[x,x'],[y,y'],(L.frz bs).heap,[],.cons ⟨b,sz,0,0,_,x,n,ag,h,hb,rfl,rfl,hx,hat,hT⟩ (.cons ⟨c,sy,0,0,_,x',n',ag',h',hc,rfl,rfl,hx',hat',hT'⟩ .nil),frz_le bs h0,.cons (.imm hi) (.cons (.imm hi') .nil),List.nodup_nil,rfl,fun k b h=>by simp at h,rfl⟩
section
variable {P:Program} {H:Heap} {ρ:Operand→LV} {T E:TypeId}
end
theorem ps_get (po:List PoR) (i:Nat):(po.map (·.p)).getD i default=(po.getD i default).p:=by
 rw [List.getD_eq_getElem?_getD,List.getD_eq_getElem?_getD,List.getElem?_map]
 cases po[i]?<;>rfl
def fIdx {α:Type} (pr:α→Bool) (l:List α):Int:=if l.any pr then(l.findIdx pr:Nat) else -1
theorem fIdx_hit {α:Type} [Inhabited α] {pr:α→Bool} {l:List α} {i:Nat} (hi:i<l.length) (h0:∀ j,j<i→pr (l.getD j default)=false) (h:pr (l.getD i default)=true):fIdx pr l=(i:Int):=by
 have hg:∀ j (hj:j<l.length),l.getD j default=l[j]:=fun j hj=>by rw [List.getD_eq_getElem?_getD,List.getElem?_eq_getElem hj];rfl
 have e:l.findIdx pr=i:=by
  rw [List.findIdx_eq hi]
  refine⟨by rw [←hg i hi];exact h,fun j hj=>?_⟩
  rw [←hg j (by omega)];exact h0 j hj
 have ha:l.any pr=true:=List.any_eq_true.2 ⟨l[i],List.getElem_mem hi,by rw [←hg i hi];exact h⟩
 unfold fIdx
 rw [if_pos ha,e]
theorem fIdx_none {α:Type} [Inhabited α] {pr:α→Bool} {l:List α} (h0:∀ j,j<l.length→pr (l.getD j default)=false):fIdx pr l=-1:=by
 have ha:l.any pr=false:=by
  rw [List.any_eq_false]
  intro x hx
  obtain⟨i,hi,rfl⟩:=List.mem_iff_getElem.1 hx
  have:=h0 i hi
  rw [List.getD_eq_getElem?_getD,List.getElem?_eq_getElem hi] at this
  simpa using this
 unfold fIdx
 rw [if_neg (by rw [ha];decide)]
theorem fIdx_any {α:Type} (pr:α→Bool) (l:List α):decide (fIdx pr l≥0)=l.any pr:=by
 unfold fIdx
 split
 ·rename_i h
  rw [h];exact decide_eq_true (by omega)
 ·rename_i h
  rw [Bool.not_eq_true] at h
  rw [h];rfl
theorem getD_memL {α:Type} [Inhabited α] {l:List α} {i:Nat} (h:i<l.length):l.getD i default∈l:=by
 rw [List.getD_eq_getElem?_getD,List.getElem?_eq_getElem h];exact List.getElem_mem h
namespace H_c_IdxR
theorem zSm {p q:Prop} (k:q) (e:p=q:=by simp only [e1,e2,e3,e4,p1,p2,p3,q1,q2,q3,l1,t0,t1,r1,r2,r3,r4,Nat.zero_add,Nat.reduceMul,Nat.reduceAdd,b1,b2,b3,b4,b5,b6,i1,i2,i3,i4,i5,i6,Nat.reduceBEq,List.set_cons_zero,List.set_cons_succ,Nat.reduceEqDiff,reduceIte,if_true,if_false,ptL_kill,poL_kill,kills_map ptE,kills_map poE,kills_map ratE,ratL_kill,spL_kill,LV.kill,kills,List.length_map];exact rfl):p:=e.mpr k
end H_c_IdxR
open H_c_IdxR in
theorem c_IdxR (f:Nat) (pr:Rat→Bool) (l:List Rat) (hl:l.length≤1048576) (hf:∀ x∈l,CallP Tryz.prog f [ratL x] (bL (pr x))):CallP Tryz.prog 222 [.list 3 (l.map ratL),.clo f []] (iL (fIdx pr l)):=by
 refine fnP Tryz.func222 ?_
 refine zg14 ?_
 refine lp1 (fun(i:Nat) L=>((((((St.mk L.slot (hp [])).put (some 0) (.list 3 (l.map ratL))).put (some 1) (.clo f [])).put (some 6) (.list 3 (l.map ratL))).put (some 7) (nI64 l.length)).put (some 8) (nI64 i))) (fun i=>i≤l.length∧∀ j,j<i→pr (l.getD j default)=false) (fun i=>l.length-i) 0 ⟨Nat.zero_le _,fun j hj=>absurd hj (Nat.not_lt_zero j)⟩ ?_
 rintro i L1 ⟨hi,h0⟩
 refine zg6 ?_
 refine wl_if rfl (fun h9r h9=>?_) (fun h9r h9=>?_)
 ·have hi2:i<l.length:=by omega
  have hc:=hf _ (getD_memL hi2)
  refine zg17 ?_
  refine st_opc [] rfl rfl (.clo (f:=f) (cap:=[]) (args:=[ratL (l.getD i 0)]) rfl (.cons im0 .nil) ⟨rfl,fun _ h=>by cases h⟩ hc.1 (by decide) (fun _ h=>by cases h)) (hc.2 _) ?_
  refine zg2 ?_
  refine wl_if rfl (fun h16r h16=>?_) (fun h16r h16=>?_)
  ·have hV:fIdx pr l=(i:Int):=fIdx_hit hi2 h0 (by first | exact h16r | exact h16)
   refine zg12 ?_
   rw [hV]
   exact ret1 rfl (.pure rfl)
  ·have hn:∀ j,j<i+1→pr (l.getD j default)=false:=fun j hj=>by
    rcases Nat.lt_succ_iff_lt_or_eq.1 hj with e | rfl
    ·exact h0 j e
    ·first | exact h16r | (simpa using h16)
   refine zg4 ?_
   refine st_pure rfl (.bin rfl rfl (add1N (by omega))) ?_
   refine zg3 ?_
   exact nx1 (i+1) ⟨by omega,hn⟩
 ·obtain rfl:i=l.length:=by omega
  refine zg11 ?_
  rw [fIdx_none h0]
  exact ret1 rfl (.pure rfl)
namespace H_c_HasR
theorem zSm {p q:Prop} (k:q) (e:p=q:=by simp only [e1,e2,e3,e4,p1,p2,p3,q1,q2,q3,l1,t0,t1,r1,r2,r3,r4,Nat.zero_add,Nat.reduceMul,Nat.reduceAdd,b1,b2,b3,b4,b5,b6,i1,i2,i3,i4,i5,i6,Nat.reduceBEq,List.set_cons_zero,List.set_cons_succ,Nat.reduceEqDiff,reduceIte,if_true,if_false,ptL_kill,poL_kill,kills_map ptE,kills_map poE,kills_map ratE,ratL_kill,spL_kill,LV.kill,kills];exact rfl):p:=e.mpr k
end H_c_HasR
open H_c_HasR in
theorem c_HasR (f:Nat) (pr:Rat→Bool) (l:List Rat) (hl:l.length≤1048576) (hf:∀ x∈l,CallP Tryz.prog f [ratL x] (bL (pr x))):CallP Tryz.prog 156 [.list 3 (l.map ratL),.clo f []] (bL (l.any pr)):=by
 refine fnP Tryz.func156 ?_
 refine zg9 ?_
 refine cp am2 (c_IdxR f pr l hl hf) ?_
 refine zg5 ?_
 rw [←fIdx_any]
 exact ret1 rfl (.pure rfl)
namespace H_c_IdxP
theorem zSm {p q:Prop} (k:q) (e:p=q:=by simp only [e1,e2,e3,e4,p1,p2,p3,q1,q2,q3,l1,t0,t1,r1,r2,r3,r4,Nat.zero_add,Nat.reduceMul,Nat.reduceAdd,b1,b2,b3,b4,b5,b6,i1,i2,i3,i4,i5,i6,Nat.reduceBEq,List.set_cons_zero,List.set_cons_succ,Nat.reduceEqDiff,reduceIte,if_true,if_false,ptL_kill,poL_kill,kills_map ptE,kills_map poE,kills_map ratE,ratL_kill,spL_kill,LV.kill,kills,List.length_map];exact rfl):p:=e.mpr k
end H_c_IdxP
open H_c_IdxP in
theorem c_IdxP (f:Nat) (pr:PoR→Bool) (l:List PoR) (hl:l.length≤1048576) (hf:∀ x∈l,CallP Tryz.prog f [poL x] (bL (pr x))):CallP Tryz.prog 230 [.list 12 (l.map poL),.clo f []] (iL (fIdx pr l)):=by
 refine fnP Tryz.func230 ?_
 refine zg14 ?_
 refine lp1 (fun(i:Nat) L=>((((((St.mk L.slot (hp [])).put (some 0) (.list 12 (l.map poL))).put (some 1) (.clo f [])).put (some 6) (.list 12 (l.map poL))).put (some 7) (nI64 l.length)).put (some 8) (nI64 i))) (fun i=>i≤l.length∧∀ j,j<i→pr (l.getD j default)=false) (fun i=>l.length-i) 0 ⟨Nat.zero_le _,fun j hj=>absurd hj (Nat.not_lt_zero j)⟩ ?_
 rintro i L1 ⟨hi,h0⟩
 refine zg6 ?_
 refine wl_if rfl (fun h9r h9=>?_) (fun h9r h9=>?_)
 ·have hi2:i<l.length:=by omega
  have hc:=hf _ (getD_memL hi2)
  refine zg17 ?_
  refine st_opc [] rfl rfl (.clo (f:=f) (cap:=[]) (args:=[poL (l.getD i default)]) rfl (.cons im0 .nil) ⟨rfl,fun _ h=>by cases h⟩ hc.1 (by decide) (fun _ h=>by cases h)) (hc.2 _) ?_
  refine zg2 ?_
  refine wl_if rfl (fun h16r h16=>?_) (fun h16r h16=>?_)
  ·have hV:fIdx pr l=(i:Int):=fIdx_hit hi2 h0 (by first | exact h16r | exact h16)
   refine zg12 ?_
   rw [hV]
   exact ret1 rfl (.pure rfl)
  ·have hn:∀ j,j<i+1→pr (l.getD j default)=false:=fun j hj=>by
    rcases Nat.lt_succ_iff_lt_or_eq.1 hj with e | rfl
    ·exact h0 j e
    ·first | exact h16r | (simpa using h16)
   refine zg4 ?_
   refine st_pure rfl (.bin rfl rfl (add1N (by omega))) ?_
   refine zg3 ?_
   exact nx1 (i+1) ⟨by omega,hn⟩
 ·obtain rfl:i=l.length:=by omega
  refine zg11 ?_
  rw [fIdx_none h0]
  exact ret1 rfl (.pure rfl)
namespace H_c_HasP
theorem zSm {p q:Prop} (k:q) (e:p=q:=by simp only [e1,e2,e3,e4,p1,p2,p3,q1,q2,q3,l1,t0,t1,r1,r2,r3,r4,Nat.zero_add,Nat.reduceMul,Nat.reduceAdd,b1,b2,b3,b4,b5,b6,i1,i2,i3,i4,i5,i6,Nat.reduceBEq,List.set_cons_zero,List.set_cons_succ,Nat.reduceEqDiff,reduceIte,if_true,if_false,ptL_kill,poL_kill,kills_map ptE,kills_map poE,kills_map ratE,ratL_kill,spL_kill,LV.kill,kills];exact rfl):p:=e.mpr k
end H_c_HasP
open H_c_HasP in
theorem c_HasP (f:Nat) (pr:PoR→Bool) (l:List PoR) (hl:l.length≤1048576) (hf:∀ x∈l,CallP Tryz.prog f [poL x] (bL (pr x))):CallP Tryz.prog 161 [.list 12 (l.map poL),.clo f []] (bL (l.any pr)):=by
 refine fnP Tryz.func161 ?_
 refine zg9 ?_
 refine cp am2 (c_IdxP f pr l hl hf) ?_
 refine zg5 ?_
 rw [←fIdx_any]
 exact ret1 rfl (.pure rfl)
theorem map4 {α:Type} (e:α→LV) (l:List α) (a b c d:α):l.map e++[e a,e b,e c,e d]=(l++[a,b,c,d]).map e:=by simp
theorem dig_inj {a b:Nat} (h:dig a=dig b):a=b:=by rw [←val_dig a,h,val_dig]
section
variable {a b:Rat}
theorem rsm2 (h2:decide (dig a.num.natAbs=dig b.num.natAbs)=false):false=decide (a=b):=by
 symm;rw [decide_eq_false_iff_not];rintro rfl;simp at h2
theorem rsm3 (h:(decide (a<0)==decide (b<0))=true) (h2:decide (dig a.num.natAbs=dig b.num.natAbs)=true):decide (dig (denN a)=dig (denN b))=decide (a=b):=by
 rw [decide_eq_decide,rat_ext']
 exact⟨fun h3=>⟨eq_of_beq h,dig_inj (of_decide_eq_true h2),dig_inj h3⟩,fun h3=>by rw [h3.2.2]⟩
end
def bitR (q:Rat):Nat:=max (blen q.num.natAbs) (blen q.den)
theorem bitR_le {q:Rat} {R:Nat} (h:rl q≤R):bitR q≤32*R:=by
 have h1:=rl_num q
 have h2:=rl_den q
 have e1:blen q.num.natAbs≤32*R:=by
  rw [blen_le,Nat.pow_mul]
  exact dig_length_ge (Nat.le_trans h1 h)
 have e2:blen q.den≤32*R:=by
  rw [blen_le,Nat.pow_mul]
  exact dig_length_ge (Nat.le_trans h2 h)
 unfold bitR;omega
def tmN (k:List Rat) (t:Rat):Nat→Nat
 | 0=>0
 | i+1=>tmN k t i+(if k.getD i 0=t then 1 else 0)
theorem tmN_le (k:List Rat) (t:Rat):∀ i,tmN k t i≤i
 | 0=>Nat.le_refl _
 | i+1=>by have:=tmN_le k t i;rw [tmN];split<;>omega
def dsN (k:List Rat):Nat→List Rat
 | 0=>[]
 | i+1=>if i=0∨k.getD i 0≠k.getD (i-1) 0 then dsN k i++[k.getD i 0] else dsN k i
theorem dsN_le (k:List Rat):∀ i,(dsN k i).length≤i
 | 0=>Nat.le_refl _
 | i+1=>by
  have:=dsN_le k i
  rw [dsN];split
  ·simp;omega
  ·omega
theorem dsN_mem (k:List Rat):∀ i,i≤k.length→∀ x∈dsN k i,x∈k
 | 0,_,x,h=>by cases h
 | i+1,hi,x,h=>by
  rw [dsN] at h
  split at h
  ·rcases List.mem_append.1 h with h | h
   ·exact dsN_mem k i (by omega) x h
   ·rw [List.mem_singleton.1 h];exact getD_mem (by omega)
  ·exact dsN_mem k i (by omega) x h
structure kOK (k:List Rat) (d:Nat):Prop where
 d1:1≤d
 d6:d≤6
 len:2*d+2≤k.length
 max:k.length≤d+41
 srt:∀ i,i+1<k.length→k.getD i 0≤k.getD (i+1) 0
 ne:k.getD 0 0≠k.getD (k.length-1) 0
 endk:∀ t∈k,(t=k.getD 0 0∨t=k.getD (k.length-1) 0)→tmN k t k.length=d+1
 ink:∀ t∈k,t≠k.getD 0 0→t≠k.getD (k.length-1) 0→tmN k t k.length≤d
 sz:∀ x∈k,rl x≤64
theorem ds_all {k:List Rat}:∀ i,i≤k.length→(∀ j,1≤j→j<i→k.getD j 0≠k.getD (j-1) 0)→dsN k i=k.take i
 | 0,_,_=>rfl
 | i+1,hi,h=>by
  rw [dsN,ds_all i (by omega) (fun j h1 h2=>h j h1 (by omega)),if_pos (by
   by_cases e:i=0
   ·exact .inl e
   ·exact .inr (h i (by omega) (by omega))),List.take_add_one,List.getD_eq_getElem?_getD,List.getElem?_eq_getElem (by omega)];rfl
theorem ds_y {k:List Rat} {i:Nat} (h0:0<i) (h:k.getD i 0≠k.getD (i-1) 0):dsN k (i+1)=dsN k i++[k.getD i 0]:=by rw [dsN,if_pos (.inr h)]
theorem ds_n {k:List Rat} {i:Nat} (h0:0<i) (h:k.getD i 0=k.getD (i-1) 0):dsN k (i+1)=dsN k i:=by rw [dsN,if_neg (fun e=>e.elim (fun e=>by omega) (fun e=>e h))]
theorem clr_eq {w:List Rat} {m n:Nat} (hm:m≤n) (hw:w.length=n):(w.map ratL).take m++List.replicate (n-m) (ratL 0)++(w.map ratL).drop (m+(n-m))=(w.take m++List.replicate (n-m) 0).map ratL:=by
 rw [List.drop_of_length_le (by simp;omega)]
 simp [List.map_take]
theorem take_snocL {l:List Rat} {k:Nat} (h:k<l.length):l.take k++[l.getD k 0]=l.take (k+1):=by
 rw [List.take_add_one,List.getElem?_eq_getElem h,List.getD_eq_getElem?_getD,List.getElem?_eq_getElem h];rfl
theorem imm_pre {α:Type} {e:α→LV} {ag:Bool} {bs:List Nat} {L:St} {b sz len:Nat} {l m:List α} {t:Bool} (he:EncOK e sz ag) (hb:L.heap b=some ⟨sz,(l++m).map e,t⟩) (hbs:bs.contains b=true) (hl:len=l.length):Imm (L.frz bs).heap (.ref b sz 0 len) (.list sz (l.map e)):=by
 have:=imm_ref (off:=0) (len:=len) hb hbs (pures_map he _) (by simp;omega)
 subst hl
 rwa [List.drop_zero,←List.map_take,List.take_left] at this
open H0 in
theorem c_RSame (a b:Rat) (h:rl a+rl b≤1099511627776):CallP Tryz.prog 175 [ratL a,ratL b] (bL (decide (a=b))):=by
 have a1:=rl_num a
 have a3:=rl_denN a
 have c1:=rl_num b
 have c3:=rl_denN b
 refine fnP Tryz.func175 ?_
 refine zg15 ?_
 refine op_if 10 rfl (fun h10r h10=>?_) (fun h10r h10=>?_)
 ·refine zg4 ?_
  refine cp am2 (c_Equal _ _ (by omega) (by omega)) ?_
  refine zg2 ?_
  refine op_if 17 rfl (fun h17r h17=>?_) (fun h17r h17=>?_)
  ·refine zg4 ?_
   refine cp am2 (c_Equal _ _ (by omega) (by omega)) ?_
   refine zg5 ?_
   rw [←rsm3 h10r h17r]
   exact ret1 rfl (by first | exact .pure rfl | exact .pure (limL_pure _) | exact .pure (magL_pure _) | exact .pure (ratE.pure _) | exact .pure (pure_lst u32E _ _) | exact .pure (pure_lst ratE _ _))
  ·refine zg10 ?_
   rw [←rsm2 h17r]
   exact ret1 rfl (by first | exact .pure rfl | exact .pure (limL_pure _) | exact .pure (magL_pure _) | exact .pure (ratE.pure _) | exact .pure (pure_lst u32E _ _) | exact .pure (pure_lst ratE _ _))
 ·refine zg17 ?_
  rw [←same1 h10r]
  exact ret1 rfl (by first | exact .pure rfl | exact .pure (limL_pure _) | exact .pure (magL_pure _) | exact .pure (ratE.pure _) | exact .pure (pure_lst u32E _ _) | exact .pure (pure_lst ratE _ _))
namespace H_c_RBits
theorem zSm {p q:Prop} (k:q) (e:p=q:=by simp only [e1,e2,e3,e4,p1,p2,p3,q1,q2,q3,l1,t0,t1,r1,r2,r3,r4,Nat.zero_add,Nat.reduceMul,Nat.reduceAdd,b1,b2,b3,b4,b5,b6,i1,i2,i3,i4,i5,i6,Nat.reduceBEq,val_dig];exact rfl):p:=e.mpr k
end H_c_RBits
open H_c_RBits in
theorem c_RBits (q:Rat) (h:rl q≤1000000):CallP Tryz.prog 164 [ratL q] (nI64 (bitR q)):=by
 have a1:=rl_num q
 have a2:=rl_den q
 have a3:=rl_denN q
 refine fnP Tryz.func164 ?_
 refine zg7 ?_
 refine wl_regD 8 (by decide +kernel) ?_
 refine zg2 ?_
 refine cp am1 (c_NBits _ (lim_dig _) (by omega)) ?_
 refine zg1 ?_
 refine cp am1 (c_den _) ?_
 refine cp am1 (c_NBits _ (lim_dig _) (by omega)) ?_
 refine zg5 ?_
 rw [bitR]
 refine ret1 ?_ (.pure rfl)
 simp only [e1,e2,e3,e4,p1,p2,p3,q1,q2,q3,Nat.reduceBEq,val_dig]
 congr 2
 omega
namespace H_c_IsSorted
theorem zSm {p q:Prop} (k:q) (e:p=q:=by simp only [e1,e2,e3,e4,p1,p2,p3,q1,q2,q3,l1,t0,t1,r1,r2,r3,r4,Nat.zero_add,Nat.reduceMul,Nat.reduceAdd,b1,b2,b3,b4,b5,b6,i1,i2,i3,i4,i5,i6,Nat.reduceBEq,dfq,eij,eii,List.set_cons_zero,List.set_cons_succ,Nat.reduceEqDiff,reduceIte,if_true,if_false,ptL_kill,poL_kill,kills_map ptE,kills_map poE,kills_map ratE,ratL_kill,spL_kill,LV.kill,kills];exact rfl):p:=e.mpr k
end H_c_IsSorted
open H_c_IsSorted in
theorem c_IsSorted (f:Nat) (k:List Rat) (h0:0<k.length) (hl:k.length≤1048576) (hs:∀ i,i+1<k.length→k.getD i 0≤k.getD (i+1) 0) (hf:∀ x∈k,∀ y∈k,CallP Tryz.prog f [ratL x,ratL y] (iL (cmpR x y))):CallP Tryz.prog 224 [.list 3 (k.map ratL),.clo f []] (bL true):=by
 refine fnP Tryz.func224 ?_
 have eij:True:=trivial
 have eii:True:=trivial
 refine zg10 ?_
 refine st_pure rfl (.bin rfl rfl (sub1N (by omega) (by omega))) ?_
 refine zg4 ?_
 refine lp1 (fun(i:Nat) L=>((((St.mk L.slot (hp [])).put (some 0) (.list 3 (k.map ratL))).put (some 1) (.clo f [])).put (some 5) (nI64 i))) (fun i=>i<k.length) (fun i=>i) (k.length-1) (by omega) ?_
 rintro i L1 hi
 refine zg7 ?_
 refine wl_if rfl (fun h10r h10=>?_) (fun h10r h10=>?_)
 ·have hi2:0<i:=by omega
  have eij:((i:Int)-1).toNat=i-1:=by omega
  have eii:((i:Int)).toNat=i:=by omega
  have hc:=hf _ (getD_mem (p:=k) (i:=i) hi) _ (getD_mem (p:=k) (i:=i-1) (by omega))
  have hge:=hs (i-1) (by omega)
  rw [Nat.sub_add_cancel (by omega)] at hge
  have hcg:0≤cmpR (k.getD i 0) (k.getD (i-1) 0):=cmpR_ge.2 hge
  refine zg5 ?_
  refine wl_regD 12 (by decide +kernel) ?_
  refine zg7 ?_
  refine st_pure rfl (.bin rfl rfl (sub1N (by omega) (by omega))) ?_
  refine zg2 ?_
  refine st_opc [] rfl rfl (.clo (f:=f) (cap:=[]) (args:=[ratL (k.getD i 0),ratL (k.getD (i-1) 0)]) rfl (.cons im0 (.cons im0 .nil)) ⟨rfl,fun _ h=>by cases h⟩ hc.1 (by decide) (fun _ h=>by cases h)) (hc.2 _) ?_
  refine zg3 ?_
  refine wl_if rfl (fun h24r h24=>?_) (fun h24r h24=>?_)
  ·omega
  ·refine zg5 ?_
   refine st_pure rfl (.bin rfl rfl (sub1N (by omega) (by omega))) ?_
   refine zg3 ?_
   exact nx1 (i-1) (by omega)
 ·refine zg11 ?_
  exact ret1 rfl (.pure rfl)
namespace H_c_KTimes
theorem zSm {p q:Prop} (k:q) (e:p=q:=by simp only [e1,e2,e3,e4,p1,p2,p3,q1,q2,q3,l1,t0,t1,r1,r2,r3,r4,Nat.zero_add,Nat.reduceMul,Nat.reduceAdd,b1,b2,b3,b4,b5,b6,i1,i2,i3,i4,i5,i6,Nat.reduceBEq,dfq,List.set_cons_zero,List.set_cons_succ,Nat.reduceEqDiff,reduceIte,if_true,if_false,ptL_kill,poL_kill,kills_map ptE,kills_map poE,kills_map ratE,ratL_kill,spL_kill,LV.kill,kills];exact rfl):p:=e.mpr k
end H_c_KTimes
open H_c_KTimes in
theorem c_KTimes (k:List Rat) (hl:k.length≤1048576) (hr:∀ x∈k,rl x≤549755813888) (t:Rat) (ht:rl t≤549755813888):CallP Tryz.prog 226 [.list 3 (k.map ratL),ratL t] (nI64 (tmN k t k.length)):=by
 refine fnP Tryz.func226 ?_
 refine zg20 ?_
 refine lp1 (fun(i:Nat) L=>((((((St.mk L.slot (hp [(3,⟨3,[ratL t],true⟩)])).put (some 3) (.eptr 3 3 0 0)).put (some 5) (nI64 (tmN k t i))).put (some 8) (.list 3 (k.map ratL))).put (some 9) (nI64 k.length)).put (some 10) (nI64 i))) (fun i=>i≤k.length) (fun i=>k.length-i) 0 (Nat.zero_le _) ?_
 rintro i L1 hi
 refine zg6 ?_
 refine wl_if rfl (fun h11r h11=>?_) (fun h11r h11=>?_)
 ·have hi2:i<k.length:=by omega
  have hx:=hr _ (getD_mem (i:=i) (by omega))
  have htl:=tmN_le k t i
  refine zg16 ?_
  refine cp am2 (c_RSame (k.getD i 0) t (by omega)) ?_
  refine zg2 ?_
  refine wl_if rfl (fun h16r h16=>?_) (fun h16r h16=>?_)
  ·have hT:tmN k t (i+1)=tmN k t i+1:=by rw [tmN,if_pos h16]
   refine zg2 ?_
   refine st_pure rfl (.bin rfl rfl (add1N (by omega))) ?_
   refine zg4 ?_
   refine wl_regW (Weak.kill _ 7) ?_
   refine st_pure rfl (.bin rfl rfl (add1N (by omega))) ?_
   refine zg3 ?_
   exact nx1 (i+1) (by omega)
  ·have hT:tmN k t (i+1)=tmN k t i:=by rw [tmN,if_neg h16];rfl
   refine zg3 ?_
   refine wl_regW (Weak.kill _ 7) ?_
   refine st_pure rfl (.bin rfl rfl (add1N (by omega))) ?_
   refine zg3 ?_
   exact nx1 (i+1) (by omega)
 ·obtain rfl:i=k.length:=by omega
  refine zg12 ?_
  exact ret1 rfl (.pure rfl)
namespace H_c_Compact
theorem zSm {p q:Prop} (k:q) (e:p=q:=by simp only [e1,e2,e3,e4,p1,p2,p3,q1,q2,q3,l1,t0,t1,r1,r2,r3,r4,Nat.zero_add,Nat.reduceMul,Nat.reduceAdd,b1,b2,b3,b4,b5,b6,i1,i2,i3,i4,i5,i6,Nat.reduceBEq,dfq,eij,eii,eik,eia,ecl,eyl,ewa,ewb,Nat.zero_add,Nat.add_zero,List.length_set,List.length_map,List.set_cons_zero,List.set_cons_succ,Nat.reduceEqDiff,reduceIte,if_true,if_false,ptL_kill,poL_kill,kills_map ptE,kills_map poE,kills_map ratE,ratL_kill,spL_kill,LV.kill,kills];exact rfl):p:=e.mpr k
end H_c_Compact
open H_c_Compact in
theorem c_Compact (f:Nat) (l:List Rat) (h0:0<l.length) (hl:l.length≤1048576) (hf:∀ x∈l,∀ y∈l,CallP Tryz.prog f [ratL x,ratL y] (bL (decide (x=y)))):CallOKM Tryz.prog 268 ⟨3,l.map ratL,true⟩ [.ref 0 3 0 l.length,.clo f []] (.ref 0 3 0 (dsN l l.length).length) ⟨3,((dsN l l.length)++List.replicate (l.length-(dsN l l.length).length) 0).map ratL,true⟩:=by
 refine fnM Tryz.func268 ?_
 have eij:True:=trivial
 have eii:True:=trivial
 have eik:True:=trivial
 have eia:True:=trivial
 have ecl:True:=trivial
 have eyl:True:=trivial
 have ewa:True:=trivial
 have ewb:True:=trivial
 refine zg13 ?_
 refine wl_if rfl (fun h10r h10=>?_) (fun h10r h10=>?_)
 ·obtain rfl1:l.length=1:=by omega
  have hE:(dsN l l.length)=l:=by rw [ds_all _ (Nat.le_refl _) (fun j h1 h2=>by omega),List.take_length]
  refine zg8 ?_
  first | (rw [hE,Nat.sub_self,List.replicate_zero,List.append_nil];exact retM1 rfl .ref rfl rfl (pures_map ratE _)) | (exact retM1 rfl .ref (by first | rfl | (simp;done)) rfl (pures_map ratE _))
 ·refine zg9 ?_
  refine lp1 (fun(i:Nat) L=>((((St.mk L.slot (hp [(0,⟨3,l.map ratL,true⟩)])).put (some 0) (.ref 0 3 0 l.length)).put (some 1) (.clo f [])).put (some 5) (nI64 i))) (fun i=>1≤i∧i≤l.length∧∀ j,1≤j→j<i→l.getD j 0≠l.getD (j-1) 0) (fun i=>l.length-i) 1 ⟨Nat.le_refl _,by omega,fun j h1 h2=>by omega⟩ ?_
  rintro i L1 ⟨hi1,hil,hne⟩
  refine zg9 ?_
  refine wl_if rfl (fun h15r h15=>?_) (fun h15r h15=>?_)
  ·have hi2:i<l.length:=by omega
   have eij:((i:Int)-1).toNat=i-1:=by omega
   have eii:((i:Int)).toNat=i:=by omega
   have hc:=hf _ (getD_mem (p:=l) (i:=i) hi2) _ (getD_mem (p:=l) (i:=i-1) (by omega))
   refine zg5 ?_
   refine wl_regD 11 (by decide +kernel) ?_
   refine zg7 ?_
   refine st_pure rfl (.bin rfl rfl (sub1N (by omega) (by omega))) ?_
   refine zg2 ?_
   try simp only [t1,dfq,eij,eii,Nat.zero_add]
   refine st_opc [] rfl rfl (.clo (f:=f) (cap:=[]) (args:=[ratL (l.getD i 0),ratL (l.getD (i-1) 0)]) rfl (.cons im0 (.cons im0 .nil)) ⟨rfl,fun _ h=>by cases h⟩ hc.1 (by decide) (fun _ h=>by cases h)) (hc.2 _) ?_
   refine zg2 ?_
   refine wl_if rfl (fun h28r h28=>?_) (fun h28r h28=>?_)
   ·have hdi:dsN l (i+1)=dsN l i:=ds_n (by omega) h28
    have hdt:dsN l i=l.take i:=ds_all i hil hne
    have hln:(l.take i).length=i:=by rw [List.length_take];omega
    have hst:1≤1∧i+1≤l.length∧l.length=l.length∧(dsN l (i+1)).length+1≤i+1∧l.take (dsN l (i+1)).length=dsN l (i+1)∧∀ x,i+1-1≤x→l.getD x 0=l.getD x 0:=⟨Nat.le_refl _,by omega,rfl,by rw [hdi,hdt,hln];omega,by rw [hdi,hdt,hln],fun _ _=>rfl⟩
    have eia:(dsN l (i+1)).length=i:=by rw [hdi,hdt,hln]
    refine zg4 ?_
    refine st_pure rfl (.sliceR (a:=i) (h:=l.length) rfl Tryz.underlying36 T29 (fun y hy=>by cases hy;exact⟨_,rfl⟩) (fun h=>by cases h) (fun y hy=>by cases hy) (fun _=>rfl) om om om) ?_
    refine zg10 ?_
    refine lp2 (fun(j:Nat) (w:List Rat) L=>((((((St.mk L.slot (hp [(0,⟨3,w.map ratL,true⟩)])).put (some 0) (.ref 0 3 0 l.length)).put (some 1) (.clo f [])).put (some 5) (nI64 (dsN l (i+j)).length)).put (some 6) (.ref 0 3 i (l.length-i))).put (some 7) (nI64 j))) (fun j w=>1≤j∧i+j≤l.length∧w.length=l.length∧(dsN l (i+j)).length+1≤i+j∧w.take (dsN l (i+j)).length=(dsN l (i+j))∧∀ x,i+j-1≤x→w.getD x 0=l.getD x 0) (fun j w=>l.length-(i+j)) 1 l hst ?_
    rintro j w L2 ⟨hj1,hij,hwl,hdl,hwt,hwx⟩
    refine zg9 ?_
    refine wl_if rfl (fun h35r h35=>?_) (fun h35r h35=>?_)
    ·have hi3:i+j<l.length:=by omega
     have ewa:w.getD (i+j) 0=l.getD (i+j) 0:=hwx _ (by omega)
     have ewb:w.getD (i+(j-1)) 0=l.getD (i+j-1) 0:=by rw [show i+(j-1)=i+j-1 by omega];exact hwx _ (by omega)
     have eik:((j:Int)-1).toNat=j-1:=by omega
     have hc:=hf _ (getD_mem (p:=l) (i:=i+j) hi3) _ (getD_mem (p:=l) (i:=i+j-1) (by omega))
     have hd2:(dsN l (i+j)).length<l.length:=by omega
     refine zg5 ?_
     refine wl_regD 12 (by decide +kernel) ?_
     refine zg7 ?_
     refine st_pure rfl (.bin rfl rfl (sub1N (by omega) (by omega))) ?_
     refine zg2 ?_
     try simp only [t1,dfq,eik,ewa,ewb]
     refine st_opc [] rfl rfl (.clo (f:=f) (cap:=[]) (args:=[ratL (l.getD (i+j) 0),ratL (l.getD (i+j-1) 0)]) rfl (.cons im0 (.cons im0 .nil)) ⟨rfl,fun _ h=>by cases h⟩ hc.1 (by decide) (fun _ h=>by cases h)) (hc.2 _) ?_
     refine zg3 ?_
     refine wl_if rfl (fun h49r h49=>?_) (fun h49r h49=>?_)
     ·have hy:=ds_y (k:=l) (i:=i+j) (by omega) h49
      have eyl:(dsN l (i+(j+1))).length=(dsN l (i+j)).length+1:=by rw [←Nat.add_assoc,hy];simp
      have hyl:(dsN l (i+j+1)).length=(dsN l (i+j)).length+1:=by rw [hy];simp
      have hnA:1≤j+1∧i+(j+1)≤l.length∧(w.set (dsN l (i+j)).length (l.getD (i+j) 0)).length=l.length∧(dsN l (i+(j+1))).length+1≤i+(j+1)∧(w.set (dsN l (i+j)).length (l.getD (i+j) 0)).take (dsN l (i+(j+1))).length=dsN l (i+(j+1))∧∀ x,i+(j+1)-1≤x→(w.set (dsN l (i+j)).length (l.getD (i+j) 0)).getD x 0=l.getD x 0:=⟨by omega,by omega,by simp [hwl],by rw [←Nat.add_assoc,hyl];omega,by rw [←Nat.add_assoc,hyl,hy,List.take_add_one,List.take_set_of_le (Nat.le_refl _),hwt,List.getElem?_set_self (by omega)];rfl,fun x hx=>by rw [set_getD _ _ _ _ (by omega),if_neg (by omega)];exact hwx x (by omega)⟩
      refine zg9 ?_
      try simp only [t1,dfq,ewa,Nat.zero_add]
      refine zg5 ?_
      refine st_pure rfl (.bin rfl rfl (add1N (by omega))) ?_
      refine zg6 ?_
      refine st_pure rfl (.bin rfl rfl (add1N (by omega))) ?_
      refine zg3 ?_
      exact nx2 (j+1) (w.set (dsN l (i+j)).length (l.getD (i+j) 0)) hnA
     ·have hy:=ds_n (k:=l) (i:=i+j) (by omega) h49
      have eyl:(dsN l (i+(j+1))).length=(dsN l (i+j)).length:=by rw [←Nat.add_assoc,hy]
      have hnB:1≤j+1∧i+(j+1)≤l.length∧w.length=l.length∧(dsN l (i+(j+1))).length+1≤i+(j+1)∧w.take (dsN l (i+(j+1))).length=dsN l (i+(j+1))∧∀ x,i+(j+1)-1≤x→w.getD x 0=l.getD x 0:=⟨by omega,by omega,hwl,by rw [←Nat.add_assoc,hy];omega,by rw [←Nat.add_assoc,hy];exact hwt,fun x hx=>hwx x (by omega)⟩
      refine zg5 ?_
      refine st_pure rfl (.bin rfl rfl (add1N (by omega))) ?_
      refine zg3 ?_
      exact nx2 (j+1) w hnB
    ·obtain rfl:j=l.length-i:=by omega
     have eia:i+(l.length-i)=l.length:=by omega
     have hdr:=hdl
     rw [eia] at hdl hwt
     have ecl:=clr_eq (w:=w) (m:=(dsN l l.length).length) (n:=l.length) (by omega) hwl
     rw [hwt] at ecl
     refine zg9 ?_
     refine st_pure rfl (.sliceR (a:=(dsN l (i+(l.length-i))).length) (h:=l.length) rfl Tryz.underlying36 T29 (fun y hy=>by cases hy;exact⟨_,rfl⟩) (fun h=>by cases h) (fun y hy=>by cases hy) (fun _=>rfl) om om om) ?_
     refine st_store rfl (.clr (n:=l.length-(dsN l (i+(l.length-i))).length) (off:=0+(dsN l (i+(l.length-i))).length) (z:=ratL 0) (blk:=⟨3,w.map ratL,true⟩) rfl rfl rfl rfl (by rw [List.length_map];omega) Tryz.underlying36 (ratL_zero ▸ Z29a) (ratE.csize 0)) ?_
     refine zg6 ?_
     refine st_pure rfl (.sliceRh rfl Tryz.underlying36 T29 rfl om om) ?_
     refine zg9 ?_
     first | (rw [hE,Nat.sub_self,List.replicate_zero,List.append_nil];exact retM1 rfl .ref rfl rfl (pures_map ratE _)) | (exact retM1 rfl .ref (by first | rfl | (simp;done)) rfl (pures_map ratE _))
   ·have hnx:∀ j,1≤j→j<i+1→l.getD j 0≠l.getD (j-1) 0:=fun j h1 h2=>by
     rcases Nat.lt_succ_iff_lt_or_eq.1 h2 with e | rfl
     ·exact hne j h1 e
     ·exact h28
    refine zg5 ?_
    refine st_pure rfl (.bin rfl rfl (add1N (by omega))) ?_
    refine zg3 ?_
    exact nx1 (i+1) ⟨by omega,by omega,hnx⟩
  ·obtain rfl:i=l.length:=by omega
   have hE:(dsN l l.length)=l:=by rw [ds_all _ (Nat.le_refl _) hne,List.take_length]
   refine zg12 ?_
   first | (rw [hE,Nat.sub_self,List.replicate_zero,List.append_nil];exact retM1 rfl .ref rfl rfl (pures_map ratE _)) | (exact retM1 rfl .ref (by first | rfl | (simp;done)) rfl (pures_map ratE _))
namespace H_c_KcopiedO
theorem zSm {p q:Prop} (k:q) (e:p=q:=by simp only [e1,e2,e3,e4,p1,p2,p3,q1,q2,q3,l1,t0,t1,r1,r2,r3,r4,Nat.zero_add,Nat.reduceMul,Nat.reduceAdd,b1,b2,b3,b4,b5,b6,i1,i2,i3,i4,i5,i6,Nat.reduceBEq,dfq,Rat.add_zero,ers,etk,Nat.zero_add,take_map_len,map_snoc,len_snoc,List.length_cons,List.length_nil,List.nil_append,List.map_nil,List.take_nil,List.append_nil,List.set_cons_zero,List.set_cons_succ,Nat.reduceEqDiff,reduceIte,if_true,if_false,ptL_kill,poL_kill,kills_map ptE,kills_map poE,kills_map ratE,ratL_kill,spL_kill,LV.kill,kills];exact rfl):p:=e.mpr k
end H_c_KcopiedO
open H_c_KcopiedO in
theorem c_KcopiedO (p:List Rat) (hl:p.length≤1048576) (hpr:∀ x∈p,rl x≤274877906944):CallOK Tryz.prog 269 [.list 3 (p.map ratL)] (.ref 1 3 0 p.length) [⟨3,p.map ratL,true⟩]:=by
 refine fnO Tryz.func269 ?_
 have ers:True:=trivial
 have etk:True:=trivial
 refine zg9 ?_
 refine st_alloc rfl rfl (.mkE (n:=0) (m:=p.length) ml ml om om om) ?_
 refine zg12 ?_
 refine lp1 (fun(k:Nat) L=>(((((St.mk L.slot (hp [(8,⟨3,(p.take k).map ratL,true⟩)])).put (some 3) (.ref 8 3 0 k)).put (some 9) (.list 3 (p.map ratL))).put (some 10) (nI64 p.length)).put (some 11) (nI64 k))) (fun k=>k≤p.length) (fun k=>p.length-k) 0 (Nat.zero_le _) ?_
 rintro k L1 hk
 refine zg6 ?_
 refine wl_if rfl (fun h12r h12=>?_) (fun h12r h12=>?_)
 ·have hk2:k<p.length:=by omega
  have hrk:=hpr _ (getD_mem hk2)
  have hA:=c_RAdd (p.getD k 0) 0 (by rw [show rl 0=1 from rfl];omega)
  rw [Rat.add_zero] at hA
  have ers:=take_snocL (l:=p) hk2
  have etk:((p.take k).map ratL).take k=(p.take k).map ratL:=List.take_of_length_le (by rw [List.length_map,List.length_take];omega)
  refine zg15 ?_
  refine st_pure rfl (.build0 SL29 Z29a) ?_
  refine cp am2 (hA) ?_
  refine zg1 ?_
  refine st_store rfl (.appX (d:=8) (news:=[ratL (p.getD k 0)]) rfl rfl rfl rfl (by simp;omega) (.inl rfl) (by decide) Tryz.underlying36 Tryz.underlying36 Z29a T29 rfl B29 (.inl ⟨19,0,_,rfl,by decide,rfl,rfl,by simp,rfl,by simp [pures,ratE.pure]⟩) (by simp;omega) (by simp;omega) (by decide)) ?_
  refine zg4 ?_
  refine wl_regW ((Weak.kill _ 5).trans (Weak.kill _ 19)) ?_
  refine st_pure rfl (.bin rfl rfl (add1N (by omega))) ?_
  refine zg3 ?_
  exact nx1 (k+1) (by omega)
 ·obtain rfl:k=p.length:=by omega
  have hE:p.take p.length=p:=List.take_length
  refine zg12 ?_
  rw [hE]
  exact ret1own rfl rfl (pures_map ratE _)
namespace H_c_Distinct
theorem zSm {p q:Prop} (k:q) (e:p=q:=by simp only [e1,e2,e3,e4,p1,p2,p3,q1,q2,q3,l1,t0,t1,r1,r2,r3,r4,Nat.zero_add,Nat.reduceMul,Nat.reduceAdd,b1,b2,b3,b4,b5,b6,i1,i2,i3,i4,i5,i6,Nat.reduceBEq,List.set_cons_zero,List.set_cons_succ,Nat.reduceEqDiff,reduceIte,if_true,if_false,ptL_kill,poL_kill,kills_map ptE,kills_map poE,kills_map ratE,ratL_kill,spL_kill,LV.kill,kills];exact rfl):p:=e.mpr k
end H_c_Distinct
open H_c_Distinct in
theorem c_Distinct (k:List Rat) (h0:0<k.length) (hl:k.length≤1048576) (hr:∀ x∈k,rl x≤274877906944):CallP Tryz.prog 225 [.list 3 (k.map ratL)] (.list 3 ((dsN k k.length).map ratL)):=by
 refine fnP Tryz.func225 ?_
 refine zg8 ?_
 refine st_call1 [] rfl rfl (.cons (.pure (pure_lst ratE _ _)) .nil) (c_KcopiedO k hl hr) (pures_map ratE _) rfl ?_
 refine st_callM 1000065 rfl rfl rfl (pures_map ratE _) (.cons .ref (.cons (.imm (.pure rfl)) .nil)) (.ref h0) (c_Compact 175 k h0 hl (fun x hx y hy=>c_RSame x y (by have:=hr x hx;have:=hr y hy;omega))) rfl (pures_map ratE _) ?_
 refine zg4 ?_
 exact ret1f [1000065] rfl rfl (imm_pre ratE rfl rfl rfl)
open H0 in
theorem c_KPoles (k:List Rat) (d:Nat) (h:d+1≤k.length) (hl:k.length≤1048576):CallP Tryz.prog 227 [.list 3 (k.map ratL),nI64 d] (nI64 (k.length-d-1)):=by
 refine fnP Tryz.func227 ?_
 refine zg10 ?_
 refine st_pure rfl (.bin rfl rfl (sub64 (by omega) (by omega))) ?_
 refine st_pure rfl (.bin rfl rfl (sub64 (by omega) (by omega))) ?_
 refine zg4 ?_
 refine ret1 ?_ (.pure rfl)
 simp only [e1,e2,e3,e4,p1,p2,p3,q1,q2,q3,Nat.reduceBEq]
 congr 2
 omega
namespace H_c_KCheck
theorem zSm {p q:Prop} (k:q) (e:p=q:=by simp only [e1,e2,e3,e4,p1,p2,p3,q1,q2,q3,l1,t0,t1,r1,r2,r3,r4,Nat.zero_add,Nat.reduceMul,Nat.reduceAdd,b1,b2,b3,b4,b5,b6,i1,i2,i3,i4,i5,i6,Nat.reduceBEq,dfq,hix,List.set_cons_zero,List.set_cons_succ,Nat.reduceEqDiff,reduceIte,if_true,if_false,ptL_kill,poL_kill,kills_map ptE,kills_map poE,kills_map ratE,ratL_kill,spL_kill,LV.kill,kills];exact rfl):p:=e.mpr k
end H_c_KCheck
open H_c_KCheck in
theorem c_KCheck (k:List Rat) (d:Nat) (h:kOK k d):CallP Tryz.prog 159 [.list 3 (k.map ratL),nI64 d] (iL 0):=by
 have hd1:=h.d1
 have hd6:=h.d6
 have hlen:=h.len
 have hmax:=h.max
 have hr:∀ x∈k,rl x≤274877906944:=fun x hx=>Nat.le_trans (h.sz x hx) (by decide)
 have hix:((k.length:Int)-1).toNat=k.length-1:=by omega
 have hr0:=h.sz _ (getD_mem (p:=k) (i:=0) (by omega))
 have hr1:=h.sz _ (getD_mem (p:=k) (i:=k.length-1) (by omega))
 have hS:CallP Tryz.prog 224 [.list 3 (k.map ratL),.clo 152 []] (bL true):=c_IsSorted 152 k (by omega) (by omega) h.srt (fun x hx y hy=>c_RCmp x y (by have:=h.sz x hx;have:=h.sz y hy;omega))
 refine fnP Tryz.func159 ?_
 refine zg11 ?_
 refine st_pure rfl (.bin rfl rfl (sub64 (by omega) (by omega))) ?_
 refine st_pure rfl (.bin rfl rfl (sub64 (by omega) (by omega))) ?_
 refine zg9 ?_
 refine op_if 18 rfl (fun h18r h18=>?_) (fun h18r h18=>?_)
 ·omega
 ·refine zg6 ?_
  refine wl_if rfl (fun h15r h15=>?_) (fun h15r h15=>?_)
  ·omega
  ·refine zg5 ?_
   refine st_pure rfl (.bin rfl rfl (mul64 (by omega) (by omega))) ?_
   refine st_pure rfl (.bin rfl rfl (add64 (by omega) (by omega))) ?_
   refine zg4 ?_
   refine wl_if rfl (fun h22r h22=>?_) (fun h22r h22=>?_)
   ·omega
   ·refine zg7 ?_
    refine wl_if rfl (fun h29r h29=>?_) (fun h29r h29=>?_)
    ·omega
    ·refine zg5 ?_
     refine wl_regD 15 (by decide +kernel) ?_
     refine zg1 ?_
     refine cp am2 (hS) ?_
     refine zg8 ?_
     refine st_pure (guardX (v:=false) rfl rfl (rfl) rfl) (.bin rfl rfl (sub64 (by omega) (by omega))) ?_
     refine zg2 ?_
     try simp only [t1,dfq,hix]
     refine cp am2 (c_RSame (k.getD 0 0) (k.getD (k.length-1) 0) (by omega)) ?_
     refine zg3 ?_
     refine wl_condY (b:=_) rfl (decide_eq_false h.ne) ?_
     refine zg6 ?_
     refine cp am1 (c_Distinct k (by omega) (by omega) hr) ?_
     refine zg5 ?_
     refine lp1 (fun(i:Nat) L=>((((((St.mk L.slot (hp [])).put (some 0) (.list 3 (k.map ratL))).put (some 1) (nI64 d)).put (some 48) (.list 3 ((dsN k k.length).map ratL))).put (some 49) (nI64 (dsN k k.length).length)).put (some 50) (nI64 i))) (fun i=>i≤(dsN k k.length).length) (fun i=>(dsN k k.length).length-i) 0 (Nat.zero_le _) ?_
     rintro i L1 hi
     refine zg6 ?_
     refine wl_if rfl (fun h51r h51=>?_) (fun h51r h51=>?_)
     ·have hdl:=dsN_le k k.length
      have hi2:i<(dsN k k.length).length:=by omega
      have hm:=dsN_mem k k.length (Nat.le_refl _) _ (getD_mem hi2)
      have hrt:=h.sz _ hm
      have he1:=h.endk _ hm
      have he2:=h.ink _ hm
      refine zg16 ?_
      refine cp am2 (c_KTimes k (by omega) (fun x hx=>Nat.le_trans (hr x hx) (by decide)) ((dsN k k.length).getD i 0) (by omega)) ?_
      refine zg4 ?_
      refine wl_regD 16 (by decide +kernel) ?_
      refine zg4 ?_
      refine cp am2 (c_RSame ((dsN k k.length).getD i 0) (k.getD 0 0) (by omega)) ?_
      refine zg1 ?_
      refine op_if 62 rfl (fun h62r h62=>?_) (fun h62r h62=>?_)
      ·refine zg7 ?_
       try simp only [t1,dfq,hix]
       refine zg11 ?_
       refine st_pure (guardX (v:=true) rfl rfl (rfl) rfl) (.bin rfl rfl (add64 (by omega) (by omega))) ?_
       refine zg3 ?_
       refine op_if 79 rfl (fun h79r h79=>?_) (fun h79r h79=>?_)
       ·have:=he1 (by first | exact .inl h62 | exact .inr h73)
        omega
       ·refine zg3 ?_
        refine st_skip (guardX (v:=false) rfl rfl ((by first | rfl | (rw [h73r];rfl))) rfl) ?_
        refine st_skip (guardX (v:=false) rfl rfl ((by first | rfl | (rw [h73r];rfl))) rfl) ?_
        refine st_skip (guardX (v:=false) rfl rfl ((by first | rfl | (rw [h73r];rfl))) rfl) ?_
        refine st_pure (guardX (v:=false) rfl rfl (h79r) rfl) (.pickF rfl ((by first | rfl | (rw [h73r];rfl)))) ?_
        refine zg7 ?_
        refine wl_regW (Weak.kill _ 7) ?_
        refine st_pure rfl (.bin rfl rfl (add1N (by omega))) ?_
        refine zg3 ?_
        exact nx1 (i+1) (by omega)
      ·refine zg4 ?_
       refine st_pure (guardX (v:=false) rfl rfl (h62r) rfl) (.bin rfl rfl (sub64 (by omega) (by omega))) ?_
       refine zg2 ?_
       try simp only [t1,dfq,hix]
       refine cp am2 (c_RSame ((dsN k k.length).getD i 0) (k.getD (k.length-1) 0) (by omega)) ?_
       refine zg8 ?_
       refine op_if 73 rfl (fun h73r h73=>?_) (fun h73r h73=>?_)
       ·refine zg2 ?_
        refine st_pure (guardX (v:=true) rfl rfl (h73r) rfl) (.bin rfl rfl (add64 (by omega) (by omega))) ?_
        refine zg3 ?_
        refine op_if 79 rfl (fun h79r h79=>?_) (fun h79r h79=>?_)
        ·have:=he1 (by first | exact .inl h62 | exact .inr h73)
         omega
        ·refine zg3 ?_
         refine st_skip (guardX (v:=false) rfl rfl ((by first | rfl | (rw [h73r];rfl))) rfl) ?_
         refine st_skip (guardX (v:=false) rfl rfl ((by first | rfl | (rw [h73r];rfl))) rfl) ?_
         refine st_skip (guardX (v:=false) rfl rfl ((by first | rfl | (rw [h73r];rfl))) rfl) ?_
         refine st_pure (guardX (v:=false) rfl rfl (h79r) rfl) (.pickF rfl ((by first | rfl | (rw [h73r];rfl)))) ?_
         refine zg7 ?_
         refine wl_regW (Weak.kill _ 7) ?_
         refine st_pure rfl (.bin rfl rfl (add1N (by omega))) ?_
         refine zg3 ?_
         exact nx1 (i+1) (by omega)
       ·refine zg9 ?_
        refine st_pure (guardX (v:=true) rfl rfl ((by first | rfl | (rw [h73r];rfl))) rfl) (.move _) ?_
        refine st_pure (guardX (v:=true) rfl rfl ((by first | rfl | (rw [h73r];rfl))) rfl) (.move _) ?_
        refine st_pure (guardX (v:=true) rfl rfl ((by first | rfl | (rw [h73r];rfl))) rfl) (.bin rfl rfl rfl) ?_
        refine st_pure (guardX (v:=false) rfl rfl (rfl) rfl) (.pickT rfl ((by first | rfl | (rw [h73r];rfl)))) ?_
        refine zg3 ?_
        refine wl_if rfl (fun h87r h87=>?_) (fun h87r h87=>?_)
        ·have:=he2 h62 h73
         omega
        ·refine zg3 ?_
         refine wl_regW (Weak.kill _ 7) ?_
         refine st_pure rfl (.bin rfl rfl (add1N (by omega))) ?_
         refine zg3 ?_
         exact nx1 (i+1) (by omega)
     ·refine zg11 ?_
      exact ret1 rfl (.pure rfl)
def bdS (R:Nat) (s:Rat × Rat):Prop:=rl s.1≤R∧rl s.2≤R
theorem bdS.le {R S:Nat} {s:Rat × Rat} (h:bdS R s) (k:R≤S):bdS S s:=⟨Nat.le_trans h.1 k,Nat.le_trans h.2 k⟩
theorem mx_rl3 {a b:Rat} {R:Nat} (ha:rl a≤R) (hb:rl b≤R):rl (mxR a b)≤R:=by unfold mxR;split<;>assumption
structure _root_.Go.Lg.Bx3 where
 x:Rat × Rat
 y:Rat × Rat
 z:Rat × Rat
abbrev bxL (b:Bx3):LV:=.agg [spL b.x,spL b.y,spL b.z]
theorem bxE:EncOK bxL 18 true:=by
 refine⟨fun b=>?_,fun b=>rfl,fun b=>?_⟩
 ·simp [bxL,LV.csize,csizes,spE.csize]
 ·simp [bxL,LV.pure,pures,spE.pure]
def bdB (R:Nat) (b:Bx3):Prop:=bdS R b.x∧bdS R b.y∧bdS R b.z
open H0 in
theorem c_SHas (s:Rat × Rat) (x:Rat) (h1:rl s.1+rl x≤549755813888) (h2:rl x+rl s.2≤549755813888):CallP Tryz.prog 130 [spL s,ratL x] (bL (hasR s x)):=by
 refine fnP Tryz.func130 ?_
 refine zg12 ?_
 refine cp am2 (c_RCmp _ _ (by omega)) ?_
 refine zg2 ?_
 refine op_if 10 rfl (fun h10r h10=>?_) (fun h10r h10=>?_)
 ·refine zg3 ?_
  refine cp am2 (c_RCmp _ _ (by omega)) ?_
  refine zg6 ?_
  rw [←has1 h10r]
  exact ret1 rfl (by first | exact .pure rfl | exact .pure (limL_pure _) | exact .pure (magL_pure _) | exact .pure (ratE.pure _) | exact .pure (pure_lst u32E _ _) | exact .pure (pure_lst ratE _ _))
 ·refine zg10 ?_
  rw [←has2 h10r]
  exact ret1 rfl (by first | exact .pure rfl | exact .pure (limL_pure _) | exact .pure (magL_pure _) | exact .pure (ratE.pure _) | exact .pure (pure_lst u32E _ _) | exact .pure (pure_lst ratE _ _))
namespace H_c_FPtSame
theorem zSm {p q:Prop} (k:q) (e:p=q:=by simp only [e1,e2,e3,e4,p1,p2,p3,q1,q2,q3,l1,t0,t1,r1,r2,r3,r4,Nat.zero_add,Nat.reduceMul,Nat.reduceAdd,b1,b2,b3,b4,b5,b6,i1,i2,i3,i4,i5,i6,Nat.reduceBEq,List.set_cons_zero,List.set_cons_succ,Nat.reduceEqDiff,reduceIte,if_true,if_false,ptL_kill,poL_kill,kills_map ptE,kills_map poE,kills_map ratE,ratL_kill,spL_kill,LV.kill,kills];exact rfl):p:=e.mpr k
end H_c_FPtSame
open H_c_FPtSame in
theorem c_FPtSame (p:V3) (h:bd3 100000000000 p):CallP Tryz.prog 20 [ptL p,ptL p] (bL true):=by
 obtain⟨a1,a2,a3⟩:=h
 refine fnP Tryz.func20 ?_
 refine zg13 ?_
 refine cp am2 (c_FSame p.x p.x (by omega)) ?_
 refine zg1 ?_
 refine st_pure (guardX (v:=true) rfl rfl ((decide_eq_true rfl)) rfl) ixA ?_
 refine st_pure (guardX (v:=true) rfl rfl ((decide_eq_true rfl)) rfl) ldA ?_
 refine st_pure (guardX (v:=true) rfl rfl ((decide_eq_true rfl)) rfl) ixA ?_
 refine st_pure (guardX (v:=true) rfl rfl ((decide_eq_true rfl)) rfl) ldA ?_
 refine st_callP (guardX (v:=true) rfl rfl ((decide_eq_true rfl)) rfl) (.cons im0 (.cons im0 .nil)) (c_FSame p.y p.y (by omega)) ?_
 refine st_pure rfl (.pickT rfl ((decide_eq_true rfl))) ?_
 refine zg1 ?_
 refine st_pure (guardX (v:=true) rfl rfl ((decide_eq_true rfl)) rfl) ixA ?_
 refine st_pure (guardX (v:=true) rfl rfl ((decide_eq_true rfl)) rfl) ldA ?_
 refine st_pure (guardX (v:=true) rfl rfl ((decide_eq_true rfl)) rfl) ixA ?_
 refine st_pure (guardX (v:=true) rfl rfl ((decide_eq_true rfl)) rfl) ldA ?_
 refine st_callP (guardX (v:=true) rfl rfl ((decide_eq_true rfl)) rfl) (.cons im0 (.cons im0 .nil)) (c_FSame p.z p.z (by omega)) ?_
 refine st_pure rfl (.pickT rfl ((decide_eq_true rfl))) ?_
 refine zg4 ?_
 refine ret1 (x:=bL true) ?_ (.pure rfl)
 first | rfl | (simp;done)
def d3V (l:List Int) (k:Nat):V3:=⟨(nbV l k).1,(nbV l (nbV l k).2).1,(nbV l (nbV l (nbV l k).2).2).1⟩
def d3K (l:List Int) (k:Nat):Nat:=(nbV l (nbV l (nbV l k).2).2).2
theorem d3_rl (l:List Int) (k:Nat):bd3 1 (d3V l k):=⟨nb_rl _ _,nb_rl _ _,nb_rl _ _⟩
theorem d3K_le {l:List Int} {k:Nat} (hl:l.length≤500) (hk:k≤500):d3K l k≤500:=nbK_le hl (nbK_le hl (nbK_le hl hk))
def dwV (l:List Int) (k:Nat):Rat:=((1+(nxV l k 3).tmod 3:Int):Rat)
def dpV (l:List Int) (k:Nat):PoR:=⟨d3V l k,dwV l (d3K l k)⟩
def dpK (l:List Int) (k:Nat):Nat:=nxK l (d3K l k)
theorem dw_in (l:List Int) (k:Nat):1≤1+(nxV l k 3).tmod 3∧1+(nxV l k 3).tmod 3≤3:=by
 have h:=nxV_lt (l:=l) (k:=k) (n:=3) (by decide)
 rw [Int.tmod_eq_emod_of_nonneg h.1]
 omega
theorem dw_rl (l:List Int) (k:Nat):rl (dwV l k)≤1:=by
 have:=dw_in l k
 exact rl_int (by omega)
theorem dw_pos (l:List Int) (k:Nat):0<dwV l k:=by
 have:=dw_in l k
 exact Rat.intCast_pos.2 (by omega)
theorem dpK_le {l:List Int} {k:Nat} (hl:l.length≤500) (hk:k≤500):dpK l k≤500:=nxK_le hl (d3K_le hl hk)
def dqK (l:List Int):Nat→Nat→Nat
 | k,0=>k
 | k,c+1=>dqK l (dpK l k) c
theorem dqK_le {l:List Int} (hl:l.length≤500):∀ (k c:Nat),k≤500→dqK l k c≤500
 | k,0,h=>h
 | k,c+1,h=>dqK_le hl _ c (dpK_le hl h)
def kn0 (d:Nat) (t:Rat):List Rat:=List.replicate (d+1) t++List.replicate (d+1) (t+1)
theorem kn0_len (d:Nat) (t:Rat):(kn0 d t).length=2*(d+1):=by simp [kn0];omega
def dtV (l:List Int) (k:Nat):Rat:=((nxV l k 4-2:Int):Rat)
theorem dt_rl (l:List Int) (k:Nat):rl (dtV l k)≤1∧rl (dtV l k+1)≤1:=by
 have h:=nxV_lt (l:=l) (k:=k) (n:=4) (by decide)
 refine⟨rl_int (by omega),?_⟩
 have e:dtV l k+1=((nxV l k 4-1:Int):Rat):=by
  unfold dtV
  rw [show nxV l k 4-1=(nxV l k 4-2)+1 by omega,Rat.intCast_add];rfl
 rw [e]
 exact rl_int (by omega)
def cD (l:List Int) (k:Nat) (n:Nat):Nat:=(1+nxV l k (n:Int)).toNat
theorem cD_in (l:List Int) (k:Nat) {n:Nat} (hn:0<n):1≤cD l k n∧cD l k n≤n∧(cD l k n:Int)=1+nxV l k (n:Int):=by
 have h:=nxV_lt (l:=l) (k:=k) (n:=(n:Int)) (by omega)
 unfold cD
 omega
theorem any_3 {P:Program} {ops:Array Oper} {D:Array Bool} {L:St} {K:St→Prop} {fuel:Nat} (i j k:Nat) (o o2 o3:Oper) (hr:Region.ready .any ops D=[i,j,k]) (ho:ops[i]?=some o) (ho2:ops[j]?=some o2) (ho3:ops[k]?=some o3)
  (h:opsL P false ops [o] L (fun L'=>anyL P ops fuel (D.setIfInBounds i true) L' K)) (h2:opsL P false ops [o2] L (fun L'=>anyL P ops fuel (D.setIfInBounds j true) L' K)) (h3:opsL P false ops [o3] L (fun L'=>anyL P ops fuel (D.setIfInBounds k true) L' K)):anyL P ops (fuel+1) D L K:=by
 simp only [opsL] at h h2 h3
 refine⟨fun e=>(by rw [hr] at e;cases e),fun x hx=>?_⟩
 rw [hr] at hx
 simp only [List.mem_cons,List.not_mem_nil,or_false] at hx
 rcases hx with rfl | rfl | rfl
 ·obtain⟨L',h1,h4⟩:=h
  exact⟨o,L',ho,h1,h4⟩
 ·obtain⟨L',h1,h4⟩:=h2
  exact⟨o2,L',ho2,h1,h4⟩
 ·obtain⟨L',h1,h4⟩:=h3
  exact⟨o3,L',ho3,h1,h4⟩
theorem rep_snoc {α:Type} (n:Nat) (t:α):List.replicate n t++[t]=List.replicate (n+1) t:=by
 rw [List.replicate_succ']
section
variable {P:Program} {H:Heap} {ρ:Operand→LV} {T:TypeId}
theorem bdPo {o0 o1:Operand} {p:V3} {r:Rat} [z:ZI P T (.agg [.agg [ratL 0,ratL 0,ratL 0],ratL 0])] [s:SI P T [(9,true),(3,true)]] (h0:ρ o0=ptL p) (h1:ρ o1=ratL r) :
  OpP P H ρ (.build T #[(0,o0),(1,o1)]) (poL ⟨p,r⟩):=by
 have:=OpP.bd (H:=H) (ρ:=ρ) (ps:=#[(0,o0),(1,o1)]) (z:=z) (s:=s) (by simp [lay,LV.csize,csizes,ratE.csize,ratE.isAgg,isAgg_agg]) (by
  intro q hq
  simp only [List.mem_cons,List.not_mem_nil,or_false] at hq
  rcases hq with rfl | rfl
  ·exact⟨_,rfl,by rw [h0];simp [lay,ptE.csize,LV.csize,csizes,ratE.csize];rfl,by rw [h0];exact LV.pure_ne_any (ptE.pure _),by rw [h0];exact LV.pure_ne_tup (ptE.pure _)⟩
  ·exact⟨_,rfl,by rw [h1];simp [lay,ratE.csize,ratE.isAgg],by rw [h1];exact LV.pure_ne_any (ratE.pure _),by rw [h1];exact LV.pure_ne_tup (ratE.pure _)⟩)
 simp only [buildL,List.map,List.foldl,List.set,h0,h1] at this
 exact this
end
theorem retMCf {P:Program} {L:St} {a:Nat} {T:TypeId} {b sz:Nat} {x y:LV} {m:Bool} {n:Nat} {ag:Bool} {blk:Blk} (bs:List Nat) (h0:bs.contains 0=false) (h:L.slot a=.eptr b sz 0 0) (hb:L.heap b=some ⟨sz,[x],m⟩)
  (hx:x.csize=sz) (hat:x.at 0 n ag=some x) (hT:TyIs P T n ag) (hi:Imm (L.frz bs).heap x y) (hc:(L.frz bs).heap 0=some blk) (hm:blk.mt=true) (hp:pures blk.vals=true):RetM P [.cell a T] L y blk :=
 ⟨[x],[y],(L.frz bs).heap,.cons ⟨b,sz,0,0,_,x,n,ag,h,hb,rfl,rfl,hx,hat,hT⟩ .nil,frz_le bs h0,.cons (.imm hi) .nil,hc,hm,hp,rfl⟩
namespace H_c_DPoint
theorem zSm {p q:Prop} (k:q) (e:p=q:=by simp only [e1,e2,e3,e4,p1,p2,p3,q1,q2,q3,l1,t0,t1,r1,r2,r3,r4,Nat.zero_add,Nat.reduceMul,Nat.reduceAdd,b1,b2,b3,b4,b5,b6,i1,i2,i3,i4,i5,i6,Nat.reduceBEq,l1,List.set_cons_zero,List.set_cons_succ,Nat.reduceEqDiff,reduceIte,if_true,if_false,ptL_kill,poL_kill,kills_map poE,kills_map ratE,ratL_kill,spL_kill,LV.kill,kills,dice_kill];exact rfl):p:=e.mpr k
end H_c_DPoint
open H_c_DPoint in
theorem c_DPoint (l:List Int) (k:Nat) (hl:l.length≤500) (hk:k≤500):CallOKM Tryz.prog 55 ⟨2,[diceL l k],true⟩ [.eptr 0 2 0 0] (ptL (d3V l k)) ⟨2,[diceL l (d3K l k)],true⟩:=by
 have k1:=nbK_le (l:=l) hl hk
 have k2:=nbK_le (l:=l) hl k1
 refine fnM Tryz.func55 ?_
 refine zg8 ?_
 refine st_callMp 0 rfl rfl rfl (dice_pure l _) (.cons .ptr .nil) .ptr (c_number l k (by omega) (by omega)) rfl (dice_pure l _) (ratE.pure _) ?_
 refine zg1 ?_
 refine st_callMp 0 rfl rfl rfl (dice_pure l _) (.cons .ptr .nil) .ptr (c_number l (nbV l k).2 (by omega) (by omega)) rfl (dice_pure l _) (ratE.pure _) ?_
 refine zg1 ?_
 refine st_callMp 0 rfl rfl rfl (dice_pure l _) (.cons .ptr .nil) .ptr (c_number l (nbV l (nbV l k).2).2 (by omega) (by omega)) rfl (dice_pure l _) (ratE.pure _) ?_
 refine zg5 ?_
 exact retMC rfl rfl cs (at_all cs rfl) T31 (.pure pu) rfl rfl (dice_pure l _)
namespace H_c_Dpole
theorem zSm {p q:Prop} (k:q) (e:p=q:=by simp only [e1,e2,e3,e4,p1,p2,p3,q1,q2,q3,l1,t0,t1,r1,r2,r3,r4,Nat.zero_add,Nat.reduceMul,Nat.reduceAdd,b1,b2,b3,b4,b5,b6,i1,i2,i3,i4,i5,i6,Nat.reduceBEq,l1,List.set_cons_zero,List.set_cons_succ,Nat.reduceEqDiff,reduceIte,if_true,if_false,ptL_kill,poL_kill,kills_map poE,kills_map ratE,ratL_kill,spL_kill,LV.kill,kills,dice_kill];exact rfl):p:=e.mpr k
end H_c_Dpole
open H_c_Dpole in
theorem c_Dpole (l:List Int) (k:Nat) (hl:l.length≤500) (hk:k≤500):CallOKM Tryz.prog 58 ⟨2,[diceL l k],true⟩ [.eptr 0 2 0 0,bL false] (poL (dpV l k)) ⟨2,[diceL l (dpK l k)],true⟩:=by
 have k1:=d3K_le (l:=l) hl hk
 have hb:=nxV_lt (l:=l) (k:=d3K l k) (n:=3) (by decide)
 have hd:=dw_in l (d3K l k)
 refine fnM Tryz.func58 ?_
 refine zg8 ?_
 refine st_callMp 0 rfl rfl rfl (dice_pure l _) (.cons .ptr .nil) .ptr (c_DPoint l k (by omega) (by omega)) rfl (dice_pure l _) (ptE.pure _) ?_
 refine zg10 ?_
 refine wl_if rfl (fun h8r h8=>?_) (fun h8r h8=>?_)
 ·first | exact h8.elim | cases h8r
 ·refine zg3 ?_
  refine wl_regA ?_
  refine any_2 0 1 _ _ (by decide +kernel) rfl rfl ?_ ?_
  ·refine zg1 ?_
   refine st_nil ?_
   refine any_1 1 _ (by decide +kernel) rfl ?_
   refine zg1 ?_
   refine st_nil ?_
   refine any_1 2 _ (by decide +kernel) rfl ?_
   refine st_callMp 0 rfl rfl rfl (dice_pure l _) (.cons .ptr (.cons (.imm (.pure rfl)) .nil)) .ptr (c_Next l (d3K l k) 3 (by omega) (by omega) (by omega) (by omega)) rfl (dice_pure l _) rfl ?_
   refine st_nil ?_
   refine any_1 3 _ (by decide +kernel) rfl ?_
   refine st_pure rfl (.bin rfl rfl (rem64 (by decide))) ?_
   refine st_nil ?_
   refine any_1 4 _ (by decide +kernel) rfl ?_
   refine st_pure rfl (.bin rfl rfl (add64 (by omega) (by omega))) ?_
   refine st_nil ?_
   refine any_1 5 _ (by decide +kernel) rfl ?_
   refine cp am1 (c_FInt (1+(nxV l (d3K l k) 3).tmod 3) (by omega) (by omega)) ?_
   refine st_nil ?_
   refine any_1 6 _ (by decide +kernel) rfl ?_
   refine s0bd (bdPo rfl rfl) ?_
   refine st_nil ?_
   refine any_1 7 _ (by decide +kernel) rfl ?_
   refine zg1 ?_
   refine st_nil ?_
   refine any_0 (by decide +kernel) ?_
   refine zg2 ?_
   exact retMC rfl rfl cs (at_all cs rfl) T62 (.pure pu) rfl rfl (dice_pure l _)
  ·refine zg1 ?_
   refine st_nil ?_
   refine any_2 0 2 _ _ (by decide +kernel) rfl rfl ?_ ?_
   ·refine zg1 ?_
    refine st_nil ?_
    refine any_1 2 _ (by decide +kernel) rfl ?_
    refine st_callMp 0 rfl rfl rfl (dice_pure l _) (.cons .ptr (.cons (.imm (.pure rfl)) .nil)) .ptr (c_Next l (d3K l k) 3 (by omega) (by omega) (by omega) (by omega)) rfl (dice_pure l _) rfl ?_
    refine st_nil ?_
    refine any_1 3 _ (by decide +kernel) rfl ?_
    refine st_pure rfl (.bin rfl rfl (rem64 (by decide))) ?_
    refine st_nil ?_
    refine any_1 4 _ (by decide +kernel) rfl ?_
    refine st_pure rfl (.bin rfl rfl (add64 (by omega) (by omega))) ?_
    refine st_nil ?_
    refine any_1 5 _ (by decide +kernel) rfl ?_
    refine cp am1 (c_FInt (1+(nxV l (d3K l k) 3).tmod 3) (by omega) (by omega)) ?_
    refine st_nil ?_
    refine any_1 6 _ (by decide +kernel) rfl ?_
    refine s0bd (bdPo rfl rfl) ?_
    refine st_nil ?_
    refine any_1 7 _ (by decide +kernel) rfl ?_
    refine zg1 ?_
    refine st_nil ?_
    refine any_0 (by decide +kernel) ?_
    refine zg2 ?_
    exact retMC rfl rfl cs (at_all cs rfl) T62 (.pure pu) rfl rfl (dice_pure l _)
   ·refine st_callMp 0 rfl rfl rfl (dice_pure l _) (.cons .ptr (.cons (.imm (.pure rfl)) .nil)) .ptr (c_Next l (d3K l k) 3 (by omega) (by omega) (by omega) (by omega)) rfl (dice_pure l _) rfl ?_
    refine st_nil ?_
    refine any_2 0 3 _ _ (by decide +kernel) rfl rfl ?_ ?_
    ·refine zg1 ?_
     refine st_nil ?_
     refine any_1 3 _ (by decide +kernel) rfl ?_
     refine st_pure rfl (.bin rfl rfl (rem64 (by decide))) ?_
     refine st_nil ?_
     refine any_1 4 _ (by decide +kernel) rfl ?_
     refine st_pure rfl (.bin rfl rfl (add64 (by omega) (by omega))) ?_
     refine st_nil ?_
     refine any_1 5 _ (by decide +kernel) rfl ?_
     refine cp am1 (c_FInt (1+(nxV l (d3K l k) 3).tmod 3) (by omega) (by omega)) ?_
     refine st_nil ?_
     refine any_1 6 _ (by decide +kernel) rfl ?_
     refine s0bd (bdPo rfl rfl) ?_
     refine st_nil ?_
     refine any_1 7 _ (by decide +kernel) rfl ?_
     refine zg1 ?_
     refine st_nil ?_
     refine any_0 (by decide +kernel) ?_
     refine zg2 ?_
     exact retMC rfl rfl cs (at_all cs rfl) T62 (.pure pu) rfl rfl (dice_pure l _)
    ·refine st_pure rfl (.bin rfl rfl (rem64 (by decide))) ?_
     refine st_nil ?_
     refine any_2 0 4 _ _ (by decide +kernel) rfl rfl ?_ ?_
     ·refine zg1 ?_
      refine st_nil ?_
      refine any_1 4 _ (by decide +kernel) rfl ?_
      refine st_pure rfl (.bin rfl rfl (add64 (by omega) (by omega))) ?_
      refine st_nil ?_
      refine any_1 5 _ (by decide +kernel) rfl ?_
      refine cp am1 (c_FInt (1+(nxV l (d3K l k) 3).tmod 3) (by omega) (by omega)) ?_
      refine st_nil ?_
      refine any_1 6 _ (by decide +kernel) rfl ?_
      refine s0bd (bdPo rfl rfl) ?_
      refine st_nil ?_
      refine any_1 7 _ (by decide +kernel) rfl ?_
      refine zg1 ?_
      refine st_nil ?_
      refine any_0 (by decide +kernel) ?_
      refine zg2 ?_
      exact retMC rfl rfl cs (at_all cs rfl) T62 (.pure pu) rfl rfl (dice_pure l _)
     ·refine st_pure rfl (.bin rfl rfl (add64 (by omega) (by omega))) ?_
      refine st_nil ?_
      refine any_2 0 5 _ _ (by decide +kernel) rfl rfl ?_ ?_
      ·refine zg1 ?_
       refine st_nil ?_
       refine any_1 5 _ (by decide +kernel) rfl ?_
       refine cp am1 (c_FInt (1+(nxV l (d3K l k) 3).tmod 3) (by omega) (by omega)) ?_
       refine st_nil ?_
       refine any_1 6 _ (by decide +kernel) rfl ?_
       refine s0bd (bdPo rfl rfl) ?_
       refine st_nil ?_
       refine any_1 7 _ (by decide +kernel) rfl ?_
       refine zg1 ?_
       refine st_nil ?_
       refine any_0 (by decide +kernel) ?_
       refine zg2 ?_
       exact retMC rfl rfl cs (at_all cs rfl) T62 (.pure pu) rfl rfl (dice_pure l _)
      ·refine cp am1 (c_FInt (1+(nxV l (d3K l k) 3).tmod 3) (by omega) (by omega)) ?_
       refine st_nil ?_
       refine any_1 0 _ (by decide +kernel) rfl ?_
       refine zg1 ?_
       refine st_nil ?_
       refine any_1 6 _ (by decide +kernel) rfl ?_
       refine s0bd (bdPo rfl rfl) ?_
       refine st_nil ?_
       refine any_1 7 _ (by decide +kernel) rfl ?_
       refine zg1 ?_
       refine st_nil ?_
       refine any_0 (by decide +kernel) ?_
       refine zg2 ?_
       exact retMC rfl rfl cs (at_all cs rfl) T62 (.pure pu) rfl rfl (dice_pure l _)
theorem gD1 {a b:List Rat} {i:Nat} (h:i<a.length):(a++b).getD i 0=a.getD i 0:=by
 rw [List.getD_eq_getElem?_getD,List.getD_eq_getElem?_getD,List.getElem?_append_left h]
theorem gD2 {a b:List Rat} {i:Nat} (h:a.length≤i):(a++b).getD i 0=b.getD (i-a.length) 0:=by
 rw [List.getD_eq_getElem?_getD,List.getD_eq_getElem?_getD,List.getElem?_append_right h]
theorem getD_rep {n i:Nat} {T:Rat} (h:i<n):(List.replicate n T).getD i 0=T:=by
 rw [List.getD_eq_getElem?_getD,List.getElem?_eq_getElem (by simpa using h)];simp
theorem tm_rep (a b:List Rat) (t:Rat):∀ i,i≤a.length→tmN (a++b) t i=tmN a t i
 | 0,_=>rfl
 | i+1,h=>by rw [tmN,tmN,tm_rep a b t i (by omega),gD1 (by omega)]
theorem tm_app (a b:List Rat) (t:Rat):∀ i,tmN (a++b) t (a.length+i)=tmN a t a.length+tmN b t i
 | 0=>by rw [Nat.add_zero,tm_rep _ _ _ _ (Nat.le_refl _)];rfl
 | i+1=>by
  rw [←Nat.add_assoc,tmN,tm_app a b t i,tmN,gD2 (by omega),Nat.add_sub_cancel_left];omega
theorem tm_const (n:Nat) (T t:Rat):∀ i,i≤n→tmN (List.replicate n T) t i=if T=t then i else 0
 | 0,_=>by split<;>rfl
 | i+1,h=>by
  rw [tmN,tm_const n T t i (by omega),getD_rep (by omega)]
  split<;>rfl
theorem kn0_tm (d:Nat) (T t:Rat):tmN (kn0 d T) t (kn0 d T).length=(if T=t then d+1 else 0)+(if T+1=t then d+1 else 0):=by
 have h:=tm_app (List.replicate (d+1) T) (List.replicate (d+1) (T+1)) t (d+1)
 rw [List.length_replicate] at h
 have e:(kn0 d T).length=d+1+(d+1):=by rw [kn0_len];omega
 rw [e]
 show tmN (List.replicate (d+1) T++_) t _=_
 rw [h,tm_const _ _ _ _ (Nat.le_refl _),tm_const _ _ _ _ (Nat.le_refl _)]
theorem kn0_get (d:Nat) (T:Rat) (i:Nat) (h:i<2*(d+1)):(kn0 d T).getD i 0=if i<d+1 then T else T+1:=by
 unfold kn0
 split
 ·rw [gD1 (by simp;omega),getD_rep (by omega)]
 ·rw [gD2 (by simp;omega),List.length_replicate,getD_rep (by omega)]
theorem kn0_ok {d:Nat} {T:Rat} (h1:1≤d) (h6:d≤6) (hT:rl T≤64) (hT1:rl (T+1)≤64):kOK (kn0 d T) d:=by
 have hl:=kn0_len d T
 have hne:T≠T+1:=by grind
 have e0:(kn0 d T).getD 0 0=T:=by rw [kn0_get _ _ _ (by omega),if_pos (by omega)]
 have e1:(kn0 d T).getD ((kn0 d T).length-1) 0=T+1:=by rw [hl,kn0_get _ _ _ (by omega),if_neg (by omega)]
 have hm:∀ x∈kn0 d T,x=T∨x=T+1:=fun x hx=>by
  rcases List.mem_append.1 hx with h | h
  ·exact .inl (List.mem_replicate.1 h).2
  ·exact .inr (List.mem_replicate.1 h).2
 refine⟨h1,h6,by omega,by omega,fun i hi=>?_,by rw [e0,e1];exact hne,fun t ht he=>?_,fun t ht g0 g1=>?_,fun x hx=>?_⟩
 ·rw [kn0_get _ _ _ (by omega),kn0_get _ _ _ (by omega)]
  split<;>split
  ·exact Rat.le_refl
  ·grind
  ·omega
  ·exact Rat.le_refl
 ·rw [kn0_tm]
  rcases hm t ht with rfl | rfl
  ·rw [if_pos rfl,if_neg (fun e=>hne e.symm)]
  ·rw [if_neg hne,if_pos rfl,Nat.zero_add]
 ·rw [e0] at g0;rw [e1] at g1
  rcases hm t ht with h | h
  ·exact absurd h g0
  ·exact absurd h g1
 ·rcases hm x hx with rfl | rfl<;>assumption
theorem any_ff {α:Type} (l:List α):l.any (fun _=>false)=false:=by simp
theorem wid1 (T:Rat):T+1-T=1:=by grind
theorem div1 (x:Rat):x/1=x:=by grind
theorem retCCT {P:Program} {L:St} {a u v:Nat} {T U:TypeId} {b c sz sy:Nat} {x y x' y' z z':LV} {m m':Bool} {n n':Nat} {ag ag':Bool} (bs:List Nat) (h0:bs.contains 0=false) (h:L.slot a=.eptr b sz 0 0) (hb:L.heap b=some ⟨sz,[x],m⟩)
  (hx:x.csize=sz) (hat:x.at 0 n ag=some x) (hT:TyIs P T n ag) (hi:Imm (L.frz bs).heap x y) (h':L.slot u=.eptr c sy 0 0) (hc:L.heap c=some ⟨sy,[x'],m'⟩)
  (hx':x'.csize=sy) (hat':x'.at 0 n' ag'=some x') (hT':TyIs P U n' ag') (hi':Imm (L.frz bs).heap x' y') (hz:L.slot v=z) (hiz:Imm (L.frz bs).heap z z'):RetL P [.cell a T,.cell u U,.tmp v] L (.tup [y,y',z']) [] :=
 ⟨[x,x',z],[y,y',z'],(L.frz bs).heap,[],.cons ⟨b,sz,0,0,_,x,n,ag,h,hb,rfl,rfl,hx,hat,hT⟩ (.cons ⟨c,sy,0,0,_,x',n',ag',h',hc,rfl,rfl,hx',hat',hT'⟩ (.cons hz .nil)),frz_le bs h0,.cons (.imm hi) (.cons (.imm hi') (.cons (.imm hiz) .nil)),List.nodup_nil,rfl,fun k b h=>by simp at h,rfl⟩
open H0 in
theorem c_SWidth (s:Rat × Rat) (h:rl s.2+rl s.1≤549755813888):CallP Tryz.prog 110 [spL s] (ratL (s.2-s.1)):=by
 refine fnP Tryz.func110 ?_
 refine zg12 ?_
 refine cp am2 (c_RSub s.2 s.1 h) ?_
 refine zg4 ?_
 exact retC [] rfl rfl rfl (ratE.csize _) (ratL_all _) T29 (.pure (ratE.pure _))
section
variable {P:Program} {H:Heap} {ρ:Operand→LV} {T E:TypeId}
theorem bdW {o1:Operand} {r:Rat} [z:ZI P T (.agg [.agg [ratL 0,ratL 0,ratL 0],ratL 0])] [s:SI P T [(9,true),(3,true)]] (h1:ρ o1=ratL r) :
  OpP P H ρ (.build T #[(1,o1)]) (poL ⟨⟨0,0,0⟩,r⟩):=by
 have:=OpP.bd (H:=H) (ρ:=ρ) (ps:=#[(1,o1)]) (z:=z) (s:=s) (by simp [lay,LV.csize,csizes,ratE.csize,ratE.isAgg,isAgg_agg]) (by
  intro q hq
  simp only [List.mem_cons,List.not_mem_nil,or_false] at hq
  subst hq
  exact⟨_,rfl,by rw [h1];simp [lay,ratE.csize,ratE.isAgg],by rw [h1];exact LV.pure_ne_any (ratE.pure _),by rw [h1];exact LV.pure_ne_tup (ratE.pure _)⟩)
 simp only [buildL,List.map,List.foldl,List.set,h1] at this
 exact this
end
theorem c_tx1:CallP Tryz.prog 54 [ratL 1] (.v (.string ⟨#[49]⟩)):=by
 have:=c_FText 1 (by decide +kernel) (by decide +kernel) (by decide +kernel)
 exact this
namespace H_c_Unit0
theorem zSm {p q:Prop} (k:q) (e:p=q:=by simp only [e1,e2,e3,e4,p1,p2,p3,q1,q2,q3,l1,t0,t1,r1,r2,r3,r4,Nat.zero_add,Nat.reduceMul,Nat.reduceAdd,b1,b2,b3,b4,b5,b6,i1,i2,i3,i4,i5,i6,Nat.reduceBEq,List.set_cons_zero,List.set_cons_succ,Nat.reduceEqDiff,reduceIte,if_true,if_false,ptL_kill,poL_kill,kills_map ptE,kills_map poE,kills_map ratE,ratL_kill,spL_kill,LV.kill,kills];exact rfl):p:=e.mpr k
end H_c_Unit0
open H_c_Unit0 in
theorem c_Unit0 :CallP Tryz.prog 53 [iL 0] (ptL ⟨1,0,0⟩):=by
 have h1:CallP Tryz.prog 60 [iL 1] (ratL 1):=c_FInt 1 (by decide) (by decide)
 refine fnP Tryz.func53 (ht:=(fun r=>LV.ren_pure r _ (ptE.pure _))) ?_
 refine zg13 ?_
 refine cp am1 (h1) ?_
 refine zg11 ?_
 exact retC [] rfl rfl rfl cs (at_all cs rfl) T31 (.pure pu)
namespace H_c_Unit1
theorem zSm {p q:Prop} (k:q) (e:p=q:=by simp only [e1,e2,e3,e4,p1,p2,p3,q1,q2,q3,l1,t0,t1,r1,r2,r3,r4,Nat.zero_add,Nat.reduceMul,Nat.reduceAdd,b1,b2,b3,b4,b5,b6,i1,i2,i3,i4,i5,i6,Nat.reduceBEq,List.set_cons_zero,List.set_cons_succ,Nat.reduceEqDiff,reduceIte,if_true,if_false,ptL_kill,poL_kill,kills_map ptE,kills_map poE,kills_map ratE,ratL_kill,spL_kill,LV.kill,kills];exact rfl):p:=e.mpr k
end H_c_Unit1
open H_c_Unit1 in
theorem c_Unit1 :CallP Tryz.prog 53 [iL 1] (ptL ⟨0,1,0⟩):=by
 have h1:CallP Tryz.prog 60 [iL 1] (ratL 1):=c_FInt 1 (by decide) (by decide)
 refine fnP Tryz.func53 (ht:=(fun r=>LV.ren_pure r _ (ptE.pure _))) ?_
 refine zg13 ?_
 refine cp am1 (h1) ?_
 refine zg11 ?_
 exact retC [] rfl rfl rfl cs (at_all cs rfl) T31 (.pure pu)
theorem bdP0 {P:Program} {H:Heap} {ρ:Operand→LV} {T E:TypeId} [u:UN P T (.array 3 E)] [t:TI P E 3 true] [z:ZI P T (.agg [ratL 0,ratL 0,ratL 0])]:OpP P H ρ (.build T #[]) (ptL ⟨0,0,0⟩) :=
 OpP.bda (H:=H) (ρ:=ρ) (ps:=#[]) (u:=u) (t:=t) (z:=z) (by simp [lay,ratE.csize,ratE.isAgg]) (fun q hq=>by simp at hq)
section
variable {po:List PoR} {d:Nat} (h:cvF po d)
include h
end
def wiV (s:Rat × Rat) (n:Int):Rat:=s.1+ptV n*(s.2-s.1)
theorem wi_one (T:Rat) (n:Int):wiV (T,T+1) n=T+ptV n:=by show T+ptV n*(T+1-T)=_;rw [wid1,Rat.mul_one]
theorem wi_has (T:Rat) (n:Int):hasR (T,T+1) (T+ptV n)=true:=by
 have:=ptV_in n
 unfold hasR
 rw [decide_eq_true (by show T≤T+ptV n;grind),decide_eq_true (by show T+ptV n≤T+1;grind)];rfl
theorem wi_rl {T:Rat} (h:rl T≤1) (n:Int):rl (T+ptV n)≤3:=by
 have:=rl_add T (ptV n)
 have:=ptV_rl n
 omega
namespace H_c_Within
theorem zSm {p q:Prop} (k:q) (e:p=q:=by simp only [e1,e2,e3,e4,p1,p2,p3,q1,q2,q3,l1,t0,t1,r1,r2,r3,r4,Nat.zero_add,Nat.reduceMul,Nat.reduceAdd,b1,b2,b3,b4,b5,b6,i1,i2,i3,i4,i5,i6,Nat.reduceBEq,List.set_cons_zero,List.set_cons_succ,Nat.reduceEqDiff,reduceIte,if_true,if_false,ptL_kill,poL_kill,kills_map ptE,kills_map poE,kills_map ratE,ratL_kill,spL_kill,LV.kill,kills];exact rfl):p:=e.mpr k
end H_c_Within
open H_c_Within in
theorem c_Within (s:Rat × Rat) (n:Int) (R:Nat) (hR:R≤1000000) (hs:bdS R s) (hn:-9223372036854775808≤n∧n≤9223372036854775807):CallP Tryz.prog 13 [spL s,iL n] (ratL (wiV s n)):=by
 obtain⟨a1,a2⟩:=hs
 have hp:=ptV_rl n
 have m1:=rl_sub s.2 s.1
 have m2:=rl_mul (ptV n) (s.2-s.1)
 refine fnP Tryz.func13 ?_
 refine zg7 ?_
 refine wl_regD 11 (by decide +kernel) ?_
 refine zg3 ?_
 refine cp am1 (c_MPart n hn) ?_
 refine zg4 ?_
 refine cp am2 (c_FRSub s.2 s.1 (by omega)) ?_
 refine cp am2 (c_FRMul (ptV n) (s.2-s.1) (by omega)) ?_
 refine cp am2 (c_FRAdd s.1 (ptV n*(s.2-s.1)) (by omega)) ?_
 refine zg4 ?_
 exact retC [] rfl rfl rfl (ratE.csize _) (ratL_all _) T29 (.pure (ratE.pure _))
theorem nm_get {po:List PoR} {k i:Nat} (h:i<po.length):(nmP po k).getD i 0=(po.getD i default).w*(po.getD i default).p.at k:=by
 unfold nmP
 rw [List.getD_eq_getElem?_getD,List.getElem?_map,List.getElem?_eq_getElem h,List.getD_eq_getElem?_getD,List.getElem?_eq_getElem h];rfl
theorem wt_get {po:List PoR} {i:Nat} (h:i<po.length):(wtP po).getD i 0=(po.getD i default).w:=by
 unfold wtP
 rw [List.getD_eq_getElem?_getD,List.getElem?_map,List.getElem?_eq_getElem h,List.getD_eq_getElem?_getD,List.getElem?_eq_getElem h];rfl
theorem subNN {a b c:Nat} (h:a=b+c) (h2:a≤9223372036854775807):binI .sub .i64 (a:Nat) (b:Nat)=some (.int .i64 ((c:Nat):Int)):=by
 rw [sub64 (by omega) (by omega)];congr 2;omega
theorem lt_le_trans {a b c:Rat} (h:a<b) (k:b≤c):a<c:=by grind
section
variable {po:List PoR} {d:Nat} (h:cvF po d)
include h
end
theorem fE_rl {a b:Rat}:∀ (n:Nat) (c:Nat→Rat) (R:Nat),(∀ i,rl (c i)≤R)→rl (fE a b n c)≤(R+(rl a+rl b+1))*2 ^ n
 | 0,c,R,h=>by
  have:=h 0
  show rl (c 0)≤_
  omega
 | n+1,c,R,h=>by
  have:=fE_rl (a:=a) (b:=b) n (fun i=>a*c i+b*c (i+1)) (2*R+(rl a+rl b+1)) (fun i=>by
   have h0:=h i
   have h1:=h (i+1)
   have m0:=rl_mul a (c i)
   have m1:=rl_mul b (c (i+1))
   have s0:=rl_add (a*c i) (b*c (i+1))
   omega)
  rw [fE]
  refine Nat.le_trans this ?_
  rw [Nat.pow_succ,Nat.mul_comm (2 ^ n) 2,←Nat.mul_assoc]
  exact Nat.mul_le_mul_right _ (by omega)
theorem ev_rl {p:List Rat} {t:Rat} {R:Nat} (hl:0<p.length) (hR:1≤R) (h:∀ x∈p,rl x≤R):rl (evP p t)≤(R+(rl (1-t)+rl t+1))*2 ^ (p.length-1):=by
 rw [ev_fE hl]
 exact fE_rl _ _ R (fun i=>getD_rl hR h i)
theorem fz0 (bs:List Nat):frzH bs []=[]:=rfl
def sS (t:Rat) (f:Nat→Rat):Nat→Rat:=fun i=>(1-t)*f i+t*f (i+1)
def sI (t:Rat):Nat→(Nat→Rat)→(Nat→Rat)
 | 0,f=>f
 | n+1,f=>sI t n (sS t f)
structure cvR (po:List PoR) (d R:Nat):Prop where
 hl:po.length=d+1
 hd:1≤d
 h6:d≤6
 ok:∀ q∈po,okP R q
theorem cvF.r {po:List PoR} {d:Nat} (h:cvF po d):cvR po d 1:=⟨h.hl,h.hd,h.h6,h.ok⟩
section
variable {po:List PoR} {d R:Nat} (h:cvR po d R) {x y:Rat} (hx0:0≤x) (hx1:x<1) (hy0:0≤y) (hy1:y≤1)
include h
include hx1
include hx0 hy0 hy1
end
def kn2 (d:Nat) (a b:Rat):List Rat:=List.replicate (d+1) a++List.replicate (d+1) b
theorem kn2_len (d:Nat) (a b:Rat):(kn2 d a b).length=2*(d+1):=by simp [kn2];omega
theorem kn2_get (d:Nat) (a b:Rat) (i:Nat) (h:i<2*(d+1)):(kn2 d a b).getD i 0=if i<d+1 then a else b:=by
 unfold kn2
 split
 ·rw [gD1 (by simp;omega),getD_rep (by omega)]
 ·rw [gD2 (by simp;omega),List.length_replicate,getD_rep (by omega)]
theorem kn2_lo (d:Nat) (a b:Rat):(kn2 d a b).getD 0 0=a:=by rw [kn2_get _ _ _ _ (by omega),if_pos (by omega)]
theorem kn2_hi (d:Nat) (a b:Rat):(kn2 d a b).getD (2*(d+1)-1) 0=b:=by rw [kn2_get _ _ _ _ (by omega),if_neg (by omega)]
theorem mn_lt2 {a b:Rat} (h:a<b):mnR a b=a:=by unfold mnR;rw [if_neg (by grind)]
theorem mx_lt2 {a b:Rat} (h:a<b):mxR a b=b:=by unfold mxR;rw [if_pos h]
theorem hs_ofL {p:List Rat} {x:Rat} (hl:p.length≤7) (hp:∀ y∈p,rl y≤7000000) (hx:rl x≤100000):HS p x:=by
 have h1:=rl_sub 1 x
 have h0:rl 1=1:=rfl
 refine⟨rl (1-x)+rl x+1,Nat.le_refl _,by omega,fun y hy=>?_⟩
 have h2:=hp y hy
 have h3:2 ^ p.length≤2 ^ 7:=Nat.pow_le_pow_right (by decide) hl
 have h4:(rl y+(rl (1-x)+rl x+1))*2 ^ p.length≤8000000*2 ^ 7:=Nat.mul_le_mul (by omega) h3
 omega
namespace H_c_Of2
theorem zSm {p q:Prop} (k:q) (e:p=q:=by simp only [e1,e2,e3,e4,p1,p2,p3,q1,q2,q3,l1,t0,t1,r1,r2,r3,r4,Nat.zero_add,Nat.reduceMul,Nat.reduceAdd,b1,b2,b3,b4,b5,b6,i1,i2,i3,i4,i5,i6,Nat.reduceBEq,List.set_cons_zero,List.set_cons_succ,Nat.reduceEqDiff,reduceIte,if_true,if_false,ptL_kill,poL_kill,kills_map ptE,kills_map poE,kills_map ratE,ratL_kill,spL_kill,LV.kill,kills];exact rfl):p:=e.mpr k
end H_c_Of2
open H_c_Of2 in
theorem c_Of2 (q:PoR) (R:Nat) (hR:R≤1000000) (h:okP R q):CallP Tryz.prog 77 [poL q] (.agg [ratL (q.w*q.p.x),ratL (q.w*q.p.y),ratL (q.w*q.p.z),ratL q.w]):=by
 obtain⟨⟨a1,a2,a3⟩,a4,_⟩:=h
 have hA:=c_RAdd q.w 0 (by have:rl 0=1:=rfl;omega)
 rw [Rat.add_zero] at hA
 refine fnP Tryz.func77 (ht:=(fun g=>LV.ren_pure g _ pu)) ?_
 refine zg20 ?_
 refine wl_unroll ?_
 refine zg6 ?_
 refine wl_condX (b:=_) rfl (by decide) ?_
 refine zg18 ?_
 refine cp am2 (c_RMul q.w q.p.x (by omega)) ?_
 refine zg5 ?_
 refine wl_regW (Weak.kill _ 5) ?_
 refine zg4 ?_
 refine wl_unroll ?_
 refine zg6 ?_
 refine wl_condX (b:=_) rfl (by decide) ?_
 refine zg18 ?_
 refine cp am2 (c_RMul q.w q.p.y (by omega)) ?_
 refine zg5 ?_
 refine wl_regW (Weak.kill _ 5) ?_
 refine zg4 ?_
 refine wl_unroll ?_
 refine zg6 ?_
 refine wl_condX (b:=_) rfl (by decide) ?_
 refine zg18 ?_
 refine cp am2 (c_RMul q.w q.p.z (by omega)) ?_
 refine zg5 ?_
 refine wl_regW (Weak.kill _ 5) ?_
 refine zg4 ?_
 refine wl_unroll ?_
 refine zg6 ?_
 refine wl_condY (b:=_) rfl (by decide) ?_
 refine zg9 ?_
 refine st_pure rfl (.build0 SL29 Z29a) ?_
 refine cp am2 (hA) ?_
 refine zg11 ?_
 exact retC [] rfl rfl rfl cs (at_all cs rfl) T118 (.pure pu)
def kx (d:Nat) (T:Rat) (inn:List Rat) (E:Rat):List Rat:=List.replicate (d+1) T++(inn++List.replicate (d+1) E)
theorem kx_len (d:Nat) (T:Rat) (inn:List Rat) (E:Rat):(kx d T inn E).length=2*(d+1)+inn.length:=by simp [kx];omega
theorem kx_get (d:Nat) (T:Rat) (inn:List Rat) (E:Rat) (i:Nat) (h:i<2*(d+1)+inn.length):(kx d T inn E).getD i 0=if i<d+1 then T else if i<d+1+inn.length then inn.getD (i-(d+1)) 0 else E:=by
 unfold kx
 split
 ·rw [gD1 (by simp;omega),getD_rep (by omega)]
 ·rw [gD2 (by simp;omega),List.length_replicate]
  split
  ·rw [gD1 (by omega)]
  ·rw [gD2 (by omega),getD_rep (by omega)]
theorem tm_no {l:List Rat} {t:Rat} (h:∀ x∈l,x≠t):∀ i,i≤l.length→tmN l t i=0
 | 0,_=>rfl
 | i+1,hi=>by rw [tmN,tm_no h i (by omega),if_neg (h _ (getD_mem (by omega)))]
theorem kx_tm (d:Nat) (T:Rat) (inn:List Rat) (E t:Rat):tmN (kx d T inn E) t (kx d T inn E).length=(if T=t then d+1 else 0)+(tmN inn t inn.length+(if E=t then d+1 else 0)):=by
 have h:=tm_app (List.replicate (d+1) T) (inn++List.replicate (d+1) E) t (inn.length+(d+1))
 have h2:=tm_app inn (List.replicate (d+1) E) t (d+1)
 rw [List.length_replicate] at h
 have e:(kx d T inn E).length=d+1+(inn.length+(d+1)):=by rw [kx_len];omega
 rw [e]
 show tmN (List.replicate (d+1) T++_) t _=_
 rw [h,h2,tm_const _ _ _ _ (Nat.le_refl _),tm_const _ _ _ _ (Nat.le_refl _)]
structure inOK (d:Nat) (T:Rat) (inn:List Rat) (E:Rat):Prop where
 btw:∀ x∈inn,T<x∧x<E
 srt:∀ i,i+1<inn.length→inn.getD i 0≤inn.getD (i+1) 0
 tms:∀ x∈inn,tmN inn x inn.length≤d
 len:inn.length≤2
 sz:∀ x∈inn,rl x≤64
theorem kx_ok {d:Nat} {T E:Rat} {inn:List Rat} (h1:1≤d) (h6:d≤6) (hT:rl T≤64) (hE:rl E≤64) (hTE:T<E) (h:inOK d T inn E):kOK (kx d T inn E) d:=by
 have hl:=kx_len d T inn E
 have hn:=h.len
 have hne:T≠E:=by grind
 have e0:(kx d T inn E).getD 0 0=T:=by rw [kx_get _ _ _ _ _ (by omega),if_pos (by omega)]
 have e1:(kx d T inn E).getD ((kx d T inn E).length-1) 0=E:=by rw [hl,kx_get _ _ _ _ _ (by omega),if_neg (by omega),if_neg (by omega)]
 have hm:∀ x∈kx d T inn E,x=T∨x∈inn∨x=E:=fun x hx=>by
  rcases List.mem_append.1 hx with g | g
  ·exact .inl (List.mem_replicate.1 g).2
  ·rcases List.mem_append.1 g with g | g
   ·exact .inr (.inl g)
   ·exact .inr (.inr (List.mem_replicate.1 g).2)
 refine⟨h1,h6,by omega,by omega,fun i hi=>?_,by rw [e0,e1];exact hne,fun t ht he=>?_,fun t ht g0 g1=>?_,fun x hx=>?_⟩
 ·rw [kx_get _ _ _ _ _ (by omega),kx_get _ _ _ _ _ (by omega)]
  by_cases c1:i+1<d+1
  ·rw [if_pos (by omega),if_pos c1];exact Rat.le_refl
  ·rw [if_neg c1]
   by_cases c2:i<d+1
   ·rw [if_pos c2]
    split
    ·exact Rat.le_of_lt (h.btw _ (getD_mem (by omega))).1
    ·exact Rat.le_of_lt hTE
   ·rw [if_neg c2]
    by_cases c3:i+1<d+1+inn.length
    ·rw [if_pos (by omega),if_pos c3,show i+1-(d+1)=i-(d+1)+1 by omega]
     exact h.srt _ (by omega)
    ·rw [if_neg c3]
     split
     ·exact Rat.le_of_lt (h.btw _ (getD_mem (by omega))).2
     ·exact Rat.le_refl
 ·rw [kx_tm]
  rw [e0,e1] at he
  have z:∀ s,(s=T∨s=E)→tmN inn s inn.length=0:=fun s hs=>tm_no (fun x hx e=>by
   have:=h.btw x hx
   rcases hs with rfl | rfl
   ·rw [e] at this;exact absurd this.1 (by grind)
   ·rw [e] at this;exact absurd this.2 (by grind)) _ (Nat.le_refl _)
  rw [z t he]
  rcases he with rfl | rfl
  ·rw [if_pos rfl,if_neg (fun e=>hne e.symm)]
  ·rw [if_neg hne,if_pos rfl];omega
 ·rw [e0] at g0;rw [e1] at g1
  rw [kx_tm,if_neg (fun e=>g0 e.symm),if_neg (fun e=>g1 e.symm)]
  rcases hm t ht with e | e | e
  ·exact absurd e g0
  ·have:=h.tms t e;omega
  ·exact absurd e g1
 ·rcases hm x hx with rfl | g | rfl
  ·exact hT
  ·exact h.sz x g
  ·exact hE
end Go.Proofs.YtfpdccbgngdhkaaGreat
end
section
set_option linter.unusedVariables false
set_option linter.unusedSimpArgs false
namespace Go.Lg
def plainOp:Op→Bool
 | .move _=>true
 | .pick ..=>true
 | .binOp ..=>true
 | .load ..=>true
 | .fieldAddr ..=>true
 | .indexAddr ..=>true
 | .call ⟨.builtin .len,_,_⟩=>true
 | _=>false
theorem plain_tail {op:Op} (h:plainOp op=true):opTail op=false:=by
 unfold plainOp at h
 split at h<;>first | rfl | cases h
section
variable {P:Program} {H:Heap} {ρ ρ':Operand→LV}
theorem OpP.cong {op:Op} {r:LV} (h:OpP P H ρ op r) (hp:plainOp op=true) (hr:∀ x∈op.operands,ρ' x=ρ x):OpP P H ρ' op r:=by
 cases h with
 | move x=>rw [←hr x (by simp [Op.operands])];exact .move x
 | pick hc =>
  rename_i c x y t
  have e1:=hr x (by simp [Op.operands])
  have e2:=hr y (by simp [Op.operands])
  have:=OpP.pick (P:=P) (H:=H) (ρ:=ρ') (x:=x) (y:=y) ((hr _ (by simp [Op.operands])).trans hc)
  rw [e1,e2] at this
  exact this
 | bin hx hy h=>exact .bin ((hr _ (by simp [Op.operands])).trans hx) ((hr _ (by simp [Op.operands])).trans hy) h
 | sh hx hy h=>exact .sh ((hr _ (by simp [Op.operands])).trans hx) ((hr _ (by simp [Op.operands])).trans hy) h
 | beq hx hy hT=>exact .beq ((hr _ (by simp [Op.operands])).trans hx) ((hr _ (by simp [Op.operands])).trans hy) hT
 | bne hx hy hT=>exact .bne ((hr _ (by simp [Op.operands])).trans hx) ((hr _ (by simp [Op.operands])).trans hy) hT
 | addS hx hy h=>exact .addS ((hr _ (by simp [Op.operands])).trans hx) ((hr _ (by simp [Op.operands])).trans hy) h
 | eqS hx hy=>exact .eqS ((hr _ (by simp [Op.operands])).trans hx) ((hr _ (by simp [Op.operands])).trans hy)
 | eqN hx hy hT=>exact .eqN ((hr _ (by simp [Op.operands])).trans hx) ((hr _ (by simp [Op.operands])).trans hy) hT
 | eqNL hx hy hT=>exact .eqNL ((hr _ (by simp [Op.operands])).trans hx) ((hr _ (by simp [Op.operands])).trans hy) hT
 | fieldAddrB hq hT hr'=>exact .fieldAddrB ((hr _ (by simp [Op.operands])).trans hq) hT hr'
 | fieldAddrE hq hT hk=>exact .fieldAddrE ((hr _ (by simp [Op.operands])).trans hq) hT hk
 | loadB hq hT hc=>exact .loadB ((hr _ (by simp [Op.operands])).trans hq) hT hc
 | loadE hq hb hs hi hx hr' hT=>exact .loadE ((hr _ (by simp [Op.operands])).trans hq) hb hs hi hx hr' hT
 | idxAE hx hT hE hi h0 hm=>exact .idxAE ((hr _ (by simp [Op.operands])).trans hx) hT hE ((hr _ (by simp [Op.operands])).trans hi) h0 hm
 | idxAB hx hT hE hf hi h0 hr'=>exact .idxAB ((hr _ (by simp [Op.operands])).trans hx) hT hE hf ((hr _ (by simp [Op.operands])).trans hi) h0 hr'
 | idxL hx hT hE hi h0 hr' hc=>exact .idxL ((hr _ (by simp [Op.operands])).trans hx) hT hE ((hr _ (by simp [Op.operands])).trans hi) h0 hr' hc
 | idxR hx hT hE hi h0 hn=>exact .idxR ((hr _ (by simp [Op.operands])).trans hx) hT hE ((hr _ (by simp [Op.operands])).trans hi) h0 hn
 | lenL hx has hT=>exact .lenL ((hr _ (by simp [Op.operands,Call.operands])).trans hx) has hT
 | lenR hx has hT=>exact .lenR ((hr _ (by simp [Op.operands,Call.operands])).trans hx) has hT
 | lenN hx has hT=>exact .lenN ((hr _ (by simp [Op.operands,Call.operands])).trans hx) has hT
 | _=>first | (cases hp;done) | (simp [plainOp] at hp;done)
end
def doneTo (n e:Nat):Array Bool:=((List.range n).map fun i=>decide (i<e)).toArray
theorem doneTo_get {n e i:Nat} (h:i<n):(doneTo n e).getD i false=decide (i<e):=by
 unfold doneTo
 rw [Array.getD_eq_getD_getElem?]
 simp [h]
theorem doneTo_size (n e:Nat):(doneTo n e).size=n:=by simp [doneTo]
theorem doneTo_eq {n e:Nat} {D:Array Bool} (hs:D.size=n) (h:∀ i,i<n→D.getD i false=decide (i<e)):D=doneTo n e:=by
 refine Array.ext (by rw [doneTo_size,hs]) fun i h1 h2=>?_
 have e1:=h i (by omega)
 have e2:=doneTo_get (n:=n) (e:=e) (i:=i) (by omega)
 rw [Array.getD_eq_getD_getElem?,Array.getElem?_eq_getElem h1] at e1
 rw [Array.getD_eq_getD_getElem?,Array.getElem?_eq_getElem h2] at e2
 simp only [Option.getD_some] at e1 e2
 rw [e1,e2]
def segOk (ops:Array Oper) (s e:Nat):Bool :=
 decide (s≤e) && decide (e≤ops.size) && ((List.range ops.size).all fun i=>(dirs (ops.getD i default)).all (·<i)) &&
 ((List.range e).all fun i=>decide (i<s) || plainOp (ops.getD i default).op) &&
 ((List.range e).all fun i=>(List.range e).all fun j=>decide (i<s) || decide (j<s) || i==j || okPair ops (bef ops.toList []) i j) &&
 ((List.range ops.size).all fun i=>decide (i<e) || (List.range e).all fun j=>decide (j<s) || ((bef ops.toList []).getD i 0).testBit j)
section
variable {P:Program} {ops:Array Oper}
theorem anyL_fuel {K:St→Prop}:∀ (n:Nat) (D:Array Bool) (L:St),anyL P ops n D L K→anyL P ops (n+1) D L K
 | 0,D,L,h=>⟨fun _=>h.2,fun i hi=>by rw [h.1] at hi;cases hi⟩
 | n+1,D,L,h=>⟨h.1,fun i hi=>by
  obtain⟨o,L',h1,h2,h3⟩:=h.2 i hi
  exact⟨o,L',h1,h2,anyL_fuel n _ _ h3⟩⟩
open Classical in
noncomputable def slotG (ops:Array Oper) (g:Nat→St) (s e:Nat) (D:Array Bool) (t:Nat):LV :=
 if ∃ i o,s≤i∧i<e∧D.getD i false=true∧ops[i]?=some o∧o.dst=some t then(g e).slot t else(g s).slot t
theorem any_seg {fuel:Nat} {K:St→Prop} {L:St} {D:Array Bool} (s e:Nat) (l:List Oper) (hD:D=doneTo ops.size s) (hl:l=(ops.toList.drop s).take (e-s)) (hok:segOk ops s e=true)
  (h:opsL P true ops l L (fun L'=>anyL P ops fuel (doneTo ops.size e) L' K)):anyL P ops (fuel+(e-s)) D L K:=by
 unfold segOk at hok
 simp only [Bool.and_eq_true,decide_eq_true_eq,List.all_eq_true,List.mem_range,Bool.or_eq_true] at hok
 obtain⟨⟨⟨⟨⟨hse,hen⟩,h1⟩,h2⟩,h3⟩,h4⟩:=hok
 have getD_of:∀ i o,ops[i]?=some o→ops.getD i default=o:=fun i o h=>by rw [Array.getD_eq_getD_getElem?,h];rfl
 have lt_of:∀ i o,ops[i]?=some o→i<ops.size:=fun i o h=>(Array.getElem?_eq_some_iff.1 h).1
 have some_of:∀ i,i<ops.size→∃ o,ops[i]?=some o:=fun i h=>⟨_,Array.getElem?_eq_getElem h⟩
 have hanc:=bef_anc ops ops.toList [] (fun i=>by simp) (fun i t h=>by simp at h)
 have hdir:∀ i o,ops[i]?=some o→∀ j∈dirs o,j<i:=fun i o h j hj=>h1 i (lt_of i o h) j (by rw [getD_of i o h];exact hj)
 have hplain:∀ i o,ops[i]?=some o→s≤i→i<e→plainOp o.op=true:=fun i o h a b=>by
  rcases h2 i b with c | c
  ·omega
  ·rw [getD_of i o h] at c;exact c
 have htail:∀ i,i<ops.size→e≤i→∀ j,s≤j→j<e→Anc ops j i:=fun i hi a j b c=>by
  rcases h4 i hi with q | q
  ·omega
  ·rcases q j c with q | q
   ·omega
   ·exact hanc i j q
 have hpair:∀ i j oi oj d,ops[i]?=some oi→ops[j]?=some oj→s≤i→i<e→s≤j→j<e→i≠j→oj.dst=some d→oi.dst≠some d∧(d∈oi.looksAt ops→if j<i then Anc ops j i else Anc ops i j):=by
  intro i j oi oj d hi hj si ei sj ej hne hdj
  rcases h3 i ei j ej with((q | q) | q) | q
  ·omega
  ·omega
  ·exact absurd (by simpa using q) hne
  ·unfold okPair at q
   rw [getD_of j oj hj,getD_of i oi hi,hdj] at q
   simp only [Bool.and_eq_true,bne_iff_ne,ne_eq,Bool.or_eq_true,Bool.not_eq_true'] at q
   refine⟨q.1,fun hmem=>?_⟩
   rcases q.2 with h' | h'
   ·rw [List.contains_iff_mem.2 hmem] at h';cases h'
   ·split at h'<;>rename_i hlt
    ·rw [if_pos hlt];exact hanc i j h'
    ·rw [if_neg hlt];exact hanc j i h'
 obtain⟨f,f0,fs,fK⟩:=opsL_chain _ _ h
 have hlen:l.length=e-s:=by rw [hl];simp;omega
 obtain⟨g,hg⟩:∃ g:Nat→St,g=fun i=>f (i-s):=⟨_,rfl⟩
 have gs0:g s=L:=by rw [hg];simp only [Nat.sub_self];exact f0
 have ge0:g e=f l.length:=by rw [hg,hlen]
 have gst:∀ i o,ops[i]?=some o→s≤i→i<e→Step P true ops o (g i) (g (i+1)):=fun i o h a b=>by
  have:=fs (i-s) o (by
   rw [hl,List.getElem?_take,if_pos (by omega),List.getElem?_drop,show s+(i-s)=i by omega]
   simpa using h)
  rw [hg]
  simp only
  rw [show i+1-s=i-s+1 by omega]
  exact this
 rw [←ge0] at fK
 have hstep:∀ i o,ops[i]?=some o→s≤i→i<e→(g i).heap.le (g (i+1)).heap∧∀ t,o.dst≠some t→(g (i+1)).slot t=(g i).slot t:=fun i o h a b=>step_tail (plain_tail (hplain i o h a b)) (gst i o h a b)
 have hle:∀ i j,s≤i→i≤j→j≤e→(g i).heap.le (g j).heap:=by
  intro i j si hij
  induction j with
  | zero =>
   intro _
   obtain rfl:i=0:=by omega
   exact Heap.le_refl _
  | succ j ih =>
   intro hjm
   by_cases c:i=j+1
   ·subst c;exact Heap.le_refl _
   ·obtain⟨o,ho⟩:=some_of j (by omega)
    exact Heap.le_trans (ih (by omega) (by omega)) (hstep j o ho (by omega) (by omega)).1
 have hconst:∀ i j t,s≤i→i≤j→j≤e→(∀ k o,i≤k→k<j→ops[k]?=some o→o.dst≠some t)→(g j).slot t=(g i).slot t:=by
  intro i j t si hij
  induction j with
  | zero =>
   intro _ _
   obtain rfl:i=0:=by omega
   rfl
  | succ j ih =>
   intro hjm hk
   by_cases c:i=j+1
   ·subst c;rfl
   ·obtain⟨o,ho⟩:=some_of j (by omega)
    rw [(hstep j o ho (by omega) (by omega)).2 t (hk j o (by omega) (by omega) ho)]
    exact ih (by omega) (by omega) (fun k o a b=>hk k o a (by omega))
 have hslot:∀ i o t,ops[i]?=some o→s≤i→i<e→o.dst=some t→(g e).slot t=(g (i+1)).slot t:=fun i o t ho si ei hdt =>
  hconst (i+1) e t (by omega) (by omega) (Nat.le_refl _) (fun k ok a b hk q=>(hpair i k o ok t ho hk si ei (by omega) b (by omega) q).1 hdt)
 let closed:Array Bool→Prop:=fun D=>∀ i o,ops[i]?=some o→D.getD i false=true→∀ j∈dirs o,D.getD j false=true
 have hclosed:∀ D,closed D→∀ j i,Anc ops j i→(∀ o,ops[i]?=some o→∀ k∈dirs o,D.getD k false=true)→D.getD j false=true:=by
  intro D hD j i hA
  induction hA with
  | @one i o ho h=>intro hr;exact hr o ho _ h
  | @step k i o hA ho hk ih=>intro hr;exact ih (fun o' ho' k' hk'=>hD k o' ho' (hr o ho k hk) k' hk')
 have main:∀ (n:Nat) (D:Array Bool) (L:St),D.size=ops.size→(∀ i,i<s→D.getD i false=true)→(∀ i,e≤i→D.getD i false=false)→closed D→(∀ t,L.slot t=slotG ops g s e D t) →
   (L.heap=(g e).heap∨(L.heap=(g s).heap∧∀ i,s≤i→i<e→D.getD i false=true→(g (i+1)).heap=(g i).heap))→(List.range e).countP (fun i=>!D.getD i false)≤n→anyL P ops (fuel+n) D L K:=by
  intro n
  induction n with
  | zero =>
   intro D L hsz hlo hhi hcl hsl hhp hct
   have hall:∀ i,i<e→D.getD i false=true:=fun i hi=>by
    have:(List.range e).countP (fun i=>!D.getD i false)=0:=by omega
    have:=List.countP_eq_zero.1 this i (List.mem_range.2 hi)
    simpa using this
   have eD:D=doneTo ops.size e:=doneTo_eq hsz fun i hi=>by
    rcases Nat.lt_or_ge i e with c | c
    ·rw [hall i c,decide_eq_true c]
    ·rw [hhi i c,decide_eq_false (by omega)]
   have eL:L=g e:=by
    have q1:L.slot=(g e).slot:=by
     funext t
     rw [hsl t]
     unfold slotG
     split
     ·rfl
     ·rename_i hno
      exact(hconst s e t (Nat.le_refl _) hse (Nat.le_refl _) (fun k o a b hk q=>hno ⟨k,o,a,b,hall k b,hk,q⟩)).symm
    have q2:L.heap=(g e).heap:=by
     rcases hhp with q | ⟨q,hq⟩
     ·exact q
     ·rw [q]
      have:∀ m,s≤m→m≤e→(g m).heap=(g s).heap:=by
       intro m
       induction m with
       | zero =>
        intro a _
        obtain rfl:s=0:=by omega
        rfl
       | succ m ih =>
        intro a b
        by_cases c:s=m+1
        ·rw [c]
        ·rw [hq m (by omega) (by omega) (hall m (by omega))];exact ih (by omega) (by omega)
      exact(this e hse (Nat.le_refl _)).symm
    cases L;cases hge:g e
    rw [hge] at q1 q2
    simp only at q1 q2
    rw [q1,q2]
   rw [eD,eL];exact fK
  | succ n ih =>
   intro D L hsz hlo hhi hcl hsl hhp hct
   by_cases hall:∀ i,i<e→D.getD i false=true
   ·have h0:(List.range e).countP (fun i=>!D.getD i false)=0:=List.countP_eq_zero.2 fun i hi=>by rw [hall i (List.mem_range.1 hi)];decide
    exact anyL_fuel _ _ _ (ih D L hsz hlo hhi hcl hsl hhp (by omega))
   ·have hin:∀ i,i∈Region.ready .any ops D→s≤i∧i<e:=fun i hi=>by
     obtain⟨o,p1',p2',p3'⟩:=(ready_spec hsz).1 hi
     have hlt:=lt_of i o p1'
     have hni:D.getD i false=false:=by rw [getD_sz (by omega) false true];exact p2'
     refine⟨?_,?_⟩
     ·rcases Nat.lt_or_ge i s with c | c
      ·rw [hlo i c] at hni;cases hni
      ·exact c
     ·rcases Nat.lt_or_ge i e with c | c
      ·exact c
      ·exfalso
       refine hall fun j hj=>?_
       rcases Nat.lt_or_ge j s with d | d
       ·exact hlo j d
       ·exact hclosed D hcl j i (htail i hlt c j d hj) (fun o' ho' k hk=>by rw [p1'] at ho';cases ho';exact p3' k hk)
    refine⟨fun hr=>?_,fun i hi=>?_⟩
    ·exfalso
     refine hall fun i=>?_
     induction i using Nat.strongRecOn with
     | _ i ihh =>
      intro hie
      cases hc:D.getD i false with
      | true=>rfl
      | false =>
       obtain⟨o,ho⟩:=some_of i (by omega)
       have:i∈Region.ready .any ops D:=(ready_spec hsz).2 ⟨o,ho,by rw [getD_sz (by omega) true false];exact hc,fun j hj=>by
        have:=hdir i o ho j hj
        exact ihh j this (by omega)⟩
       rw [hr] at this;cases this
    ·obtain⟨si,ei⟩:=hin i hi
     obtain⟨o,ho,hni',hrd⟩:=(ready_spec hsz).1 hi
     have hni:D.getD i false=false:=by rw [getD_sz (by omega) false true];exact hni'
     have hset:∀ k,(D.setIfInBounds i true).getD k false=true↔k=i∨D.getD k false=true:=fun k=>by
      by_cases c:i=k
      ·subst c
       rw [Array.getD_eq_getD_getElem?,Array.getElem?_setIfInBounds_self_of_lt (by omega)];simp
      ·rw [Array.getD_eq_getD_getElem?,Array.getElem?_setIfInBounds_ne c,←Array.getD_eq_getD_getElem?]
       constructor
       ·exact fun h=>.inr h
       ·rintro(h | h)
        ·exact absurd h.symm c
        ·exact h
     have hcl':closed (D.setIfInBounds i true):=fun k ok hk hDk j hj=>by
      rcases(hset k).1 hDk with rfl | h
      ·rw [ho] at hk;cases hk
       exact(hset j).2 (.inr (hrd j hj))
      ·exact(hset j).2 (.inr (hcl k ok hk h j hj))
     have hrd':∀ o',ops[i]?=some o'→∀ k∈dirs o',D.getD k false=true:=fun o' ho' k hk=>(by rw [ho] at ho';cases ho';exact hrd k hk)
     have hread:∀ t,t∈o.looksAt ops→(g i).slot t=L.slot t:=by
      intro t ht
      rw [hsl t]
      by_cases hex:∃ j oj,s≤j∧j<e∧ops[j]?=some oj∧oj.dst=some t
      ·obtain⟨j,oj,sj,ej,hj,hdj⟩:=hex
       have huniq:∀ k ok,s≤k→k<e→ops[k]?=some ok→ok.dst=some t→k=j:=fun k ok sk ek hk hdk =>
        Classical.byContradiction fun hne=>(hpair k j ok oj t hk hj sk ek sj ej hne hdj).1 hdk
       have nodone:(∀ hh:D.getD j false=true,False)→slotG ops g s e D t=(g s).slot t:=fun hh=>by
        unfold slotG
        rw [if_neg]
        rintro⟨k,ok,sk,ek,hDk,hk,hdk⟩
        have:=huniq k ok sk ek hk hdk
        subst this
        exact hh hDk
       by_cases hji:j=i
       ·subst hji
        rw [hconst s j t (Nat.le_refl _) si (by omega) (fun k ok a b hk q=>by have:=huniq k ok a (by omega) hk q;omega),nodone (fun hh=>by rw [hni] at hh;cases hh)]
       ·have hp:=(hpair i j o oj t ho hj si ei sj ej (Ne.symm hji) hdj).2 ht
        by_cases hlt:j<i
        ·rw [if_pos hlt] at hp
         have hDj:=hclosed D hcl j i hp hrd'
         have e2:slotG ops g s e D t=(g e).slot t:=by
          unfold slotG
          rw [if_pos ⟨j,oj,sj,ej,hDj,hj,hdj⟩]
         rw [e2,hslot j oj t hj sj ej hdj]
         exact hconst (j+1) i t (by omega) (by omega) (by omega) (fun k ok a b hk q=>by have:=huniq k ok (by omega) (by omega) hk q;omega)
        ·rw [if_neg hlt] at hp
         rw [hconst s i t (Nat.le_refl _) si (by omega) (fun k ok a b hk q=>by have:=huniq k ok a (by omega) hk q;omega),nodone (fun hh=>by
          have:=hclosed D hcl i j hp (fun o' ho' k' hk'=>hcl j o' ho' hh k' hk')
          rw [hni] at this;cases this)]
      ·rw [hconst s i t (Nat.le_refl _) si (by omega) (fun k ok a b hk q=>hex ⟨k,ok,a,by omega,hk,q⟩)]
       unfold slotG
       rw [if_neg]
       rintro⟨k,ok,sk,ek,hDk,hk,hdk⟩
       exact hex ⟨k,ok,sk,ek,hk,hdk⟩
     have hafter:∀ t,slotG ops g s e (D.setIfInBounds i true) t=if o.dst=some t then(g (i+1)).slot t else L.slot t:=by
      intro t
      rw [hsl t]
      by_cases hdt:o.dst=some t
      ·rw [if_pos hdt]
       unfold slotG
       rw [if_pos ⟨i,o,si,ei,(hset i).2 (.inl rfl),ho,hdt⟩]
       exact hslot i o t ho si ei hdt
      ·rw [if_neg hdt]
       unfold slotG
       congr 1
       apply propext
       constructor
       ·rintro⟨k,ok,sk,ek,hDk,hk,hdk⟩
        rcases(hset k).1 hDk with rfl | h
        ·rw [ho] at hk;cases hk;exact absurd hdk hdt
        ·exact⟨k,ok,sk,ek,h,hk,hdk⟩
       ·rintro⟨k,ok,sk,ek,hDk,hk,hdk⟩
        exact⟨k,ok,sk,ek,(hset k).2 (.inr hDk),hk,hdk⟩
     have hguard:∀ res,GuardIs ops (g i) o res→GuardIs ops L o res:=fun res hgd=>by
      unfold GuardIs at hgd ⊢
      cases hh:o.guard with
      | none=>rw [hh] at hgd;exact hgd
      | some pr =>
       obtain⟨j,want⟩:=pr
       rw [hh] at hgd
       obtain⟨d,q1',q'⟩:=hgd
       have e1:(g i).slot d=L.slot d:=hread d (by unfold Oper.looksAt;rw [hh];simp [q1'])
       refine⟨d,q1',?_⟩
       show (∃ b,L.slot d=_∧_)∨(L.slot d=_∧_)
       rw [←e1]
       exact q'
     have hput:∀ (r:LV) (H1:Heap),(∀ t,o.dst=some t→(g (i+1)).slot t=r)→∀ t,(⟨(L.put o.dst r).slot,H1⟩:St).slot t=slotG ops g s e (D.setIfInBounds i true) t:=fun r H1 hr t=>by
      rw [hafter t]
      show (L.put o.dst r).slot t=_
      cases hd:o.dst with
      | none=>rw [if_neg (by simp)];rfl
      | some d =>
       rw [put_slot]
       by_cases c:t=d
       ·subst c
        rw [if_pos rfl,if_pos rfl,hr t hd]
       ·rw [if_neg c,if_neg (fun q=>c (by cases q;rfl))]
     have hcnt:(List.range e).countP (fun k=>!(D.setIfInBounds i true).getD k false)≤n:=by
      have:(List.range e).countP (fun k=>!(D.setIfInBounds i true).getD k false)<(List.range e).countP (fun k=>!D.getD k false):=by
       apply countP_lt
       ·intro k _ hk
        cases hc:D.getD k false with
        | false=>rfl
        | true=>rw [(hset k).2 (.inr hc)] at hk;cases hk
       ·exact⟨i,List.mem_range.2 ei,by rw [hni];rfl,by rw [(hset i).2 (.inl rfl)];rfl⟩
      omega
     have hfin:∀ L',Step P false ops o L L'→(∀ t,L'.slot t=slotG ops g s e (D.setIfInBounds i true) t)→(L'.heap=(g e).heap∨(L'.heap=(g s).heap∧∀ k,s≤k→k<e→(D.setIfInBounds i true).getD k false=true→(g (k+1)).heap=(g k).heap)) →
       ∃ o L',ops[i]?=some o∧Step P false ops o L L'∧anyL P ops (fuel+n) (D.setIfInBounds i true) L' K:=fun L' hst hs' hh' =>
      ⟨o,L',ho,hst,ih _ L' (by simpa using hsz) (fun k hk=>(hset k).2 (.inr (hlo k hk))) (fun k hk=>by
       cases hc:(D.setIfInBounds i true).getD k false with
       | false=>rfl
       | true =>
        rcases(hset k).1 hc with rfl | q
        ·omega
        ·rw [hhi k hk] at q;cases q) hcl' hs' hh' hcnt⟩
     have hpl:=hplain i o ho si ei
     cases gst i o ho si ei with
     | skip hg' h' =>
      refine hfin (L.put o.dst (.tup [])) (.skip (hguard false hg') rfl) (fun t=>?_) ?_
      ·have:=hput (.tup []) L.heap (fun t ht=>by rw [h',ht,put_slot,if_pos rfl]) t
       exact this
      ·rw [put_heap]
       rcases hhp with q | ⟨q,hq⟩
       ·exact .inl q
       ·refine .inr ⟨q,fun k sk ek hk=>?_⟩
        rcases(hset k).1 hk with rfl | hk
        ·rw [h',put_heap]
        ·exact hq k sk ek hk
     | @val r fr H1 hg' hH hfr hov h' =>
      obtain⟨dst,op,ty,pos,after,gd⟩:=o
      have hH1:H1=(g (i+1)).heap:=by rw [h']
      have hle1:H1.le (g e).heap:=by rw [hH1];exact hle (i+1) e (by omega) (by omega) (Nat.le_refl _)
      cases hov with
      | alloc ha=>cases ha<;>cases hpl
      | call hc=>cases hc<;>cases hpl
      | pure hpp =>
       have hev:∀ x∈op.operands,L.ev x=(g i).ev x:=by
        intro x hx
        cases x with
        | tmp t =>
         have ht:t∈Oper.looksAt ops ⟨dst,op,ty,pos,after,gd⟩:=by
          unfold Oper.looksAt
          simp only [List.mem_append,List.mem_filterMap]
          exact .inl ⟨.tmp t,by simpa using hx,rfl⟩
         exact(hread t ht).symm
        | const v=>rfl
        | func f=>rfl
        | global f=>rfl
       have hpp':=OpP.cong (OpP.le hle1 hpp) hpl hev
       have hLe:L.heap.le (g e).heap:=by
        rcases hhp with q | ⟨q,_⟩
        ·rw [q];exact Heap.le_refl _
        ·rw [q];exact hle s e (Nat.le_refl _) hse (Nat.le_refl _)
       refine hfin ⟨(L.put dst r).slot,(g e).heap⟩ (.val (fr:=[]) (hguard true hg') hLe (fun _ _ hh=>by cases hh) (.pure hpp') rfl) (hput r _ (fun t ht=>?_)) (.inl rfl)
       rw [h']
       show ((g i).put dst r).slot t=r
       have ht:dst=some t:=ht
       rw [ht,put_slot,if_pos rfl]
     | st hg' hot =>
      obtain⟨dst,op,ty,pos,after,gd⟩:=o
      have:=plain_tail hpl
      rw [hot.tail] at this;cases this
     | stM hdr _ _=>cases hdr
 have hsz:D.size=ops.size:=by rw [hD];exact doneTo_size _ _
 have hDg:∀ i,D.getD i false=true↔i<s:=fun i=>by
  rcases Nat.lt_or_ge i ops.size with c | c
  ·rw [hD,doneTo_get c,decide_eq_true_eq]
  ·constructor
   ·intro q
    rw [Array.getD_eq_getD_getElem?,Array.getElem?_eq_none (by omega)] at q
    cases q
   ·intro q;omega
 refine main (e-s) D L hsz (fun i hi=>(hDg i).2 hi) (fun i hi=>?_) (fun i o ho hi j hj=>(hDg j).2 (by have:=hdir i o ho j hj;have:=(hDg i).1 hi;omega)) (fun t=>?_) (.inr ⟨by rw [gs0],fun i si _ hi=>by have:=(hDg i).1 hi;omega⟩) ?_
 ·cases hc:D.getD i false with
  | false=>rfl
  | true=>have:=(hDg i).1 hc;omega
 ·unfold slotG
  rw [if_neg,gs0]
  rintro⟨k,o,sk,_,hk,_⟩
  have:=(hDg k).1 hk
  omega
 ·have:∀ m,(List.range m).countP (fun i=>!D.getD i false)≤m-s:=by
   intro m
   induction m with
   | zero=>simp
   | succ m ih =>
    rw [List.range_succ,List.countP_append]
    have hone:List.countP (fun i=>!D.getD i false) [m]=if D.getD m false=true then 0 else 1:=by
     rw [List.countP_cons,List.countP_nil,Nat.zero_add]
     cases hc:D.getD m false<;>rfl
    rw [hone]
    split
    ·omega
    ·rename_i hc
     have:¬m<s:=fun q=>hc ((hDg m).2 q)
     omega
  exact this e
theorem any_segm {m:Nat} {K:St→Prop} {L:St} {D:Array Bool} {l0:List Oper} (s e fuel:Nat) (hm:m=fuel+(e-s)) (hD:D=doneTo l0.toArray.size s) (hok:segOk l0.toArray s e=true)
  (h:opsL P true l0.toArray ((l0.drop s).take (e-s)) L (fun L'=>anyL P l0.toArray fuel (doneTo l0.toArray.size e) L' K)):anyL P l0.toArray m D L K:=by
 subst hm
 exact any_seg s e _ hD rfl hok h
end
def slimOp:Op→Bool
 | .move _=>true
 | .binOp ..=>true
 | .fieldAddr ..=>true
 | .indexAddr ..=>true
 | .call ⟨.builtin .len,_,_⟩=>true
 | _=>false
def kindOp:Op→Bool
 | .store ..=>true
 | .call ⟨.value (.func _),_,_⟩=>true
 | op=>plainOp op
theorem slim_plain {op:Op} (h:slimOp op=true):plainOp op=true:=by
 unfold slimOp at h
 split at h<;>first | rfl | cases h
theorem OpP.slim {P:Program} {H H':Heap} {ρ:Operand→LV} {op:Op} {r:LV} (h:OpP P H ρ op r) (hp:slimOp op=true):OpP P H' ρ op r:=by
 cases h with
 | move x=>exact .move x
 | bin hx hy h=>exact .bin hx hy h
 | sh hx hy h=>exact .sh hx hy h
 | beq hx hy hT=>exact .beq hx hy hT
 | bne hx hy hT=>exact .bne hx hy hT
 | addS hx hy h=>exact .addS hx hy h
 | eqS hx hy=>exact .eqS hx hy
 | eqN hx hy hT=>exact .eqN hx hy hT
 | eqNL hx hy hT=>exact .eqNL hx hy hT
 | fieldAddrB hq hT hr'=>exact .fieldAddrB hq hT hr'
 | fieldAddrE hq hT hk=>exact .fieldAddrE hq hT hk
 | idxAE hx hT hE hi h0 hm=>exact .idxAE hx hT hE hi h0 hm
 | idxAB hx hT hE hf hi h0 hr'=>exact .idxAB hx hT hE hf hi h0 hr'
 | idxL hx hT hE hi h0 hr' hc=>exact .idxL hx hT hE hi h0 hr' hc
 | idxR hx hT hE hi h0 hn=>exact .idxR hx hT hE hi h0 hn
 | lenL hx has hT=>exact .lenL hx has hT
 | lenR hx has hT=>exact .lenR hx has hT
 | lenN hx has hT=>exact .lenN hx has hT
 | _=>first | (cases hp;done) | (simp [slimOp] at hp;done)
theorem put_comm (L:St) {d e:Nat} (h:d≠e) (v r:LV):(L.put (some d) v).put (some e) r=(L.put (some e) r).put (some d) v:=by
 have:∀ t,((L.put (some d) v).put (some e) r).slot t=((L.put (some e) r).put (some d) v).slot t:=fun t=>by
  rw [put_slot,put_slot,put_slot,put_slot]
  by_cases h1:t=e
  ·rw [if_pos h1,if_neg (by omega),if_pos h1]
  ·rw [if_neg h1,if_neg h1]
 exact congrArg (fun f=>St.mk f L.heap) (funext this)
theorem put_commO (L:St) {d:Nat} {e:Option Nat} (h:e≠some d) (v r:LV):(L.put (some d) v).put e r=(L.put e r).put (some d) v:=by
 cases e with
 | none=>rfl
 | some e=>exact put_comm L (fun q=>h (by rw [q])) v r
section
variable {P:Program} {ops:Array Oper}
theorem ev_put {L:St} {d:Nat} {v:LV} {o:Oper} (h:d∉o.looksAt ops):∀ x∈o.op.operands,(L.put (some d) v).ev x=L.ev x:=fun x hx=>by
 cases x with
 | tmp t =>
  have ht:t∈o.looksAt ops:=by
   unfold Oper.looksAt
   simp only [List.mem_append,List.mem_filterMap]
   exact .inl ⟨.tmp t,by simpa using hx,rfl⟩
  show (L.put (some d) v).slot t=L.slot t
  rw [put_slot,if_neg (fun q=>h (by rw [←q];exact ht))]
 | const v=>rfl
 | func f=>rfl
 | global f=>rfl
theorem guard_put {L:St} {d:Nat} {v:LV} {o:Oper} {res:Bool} (h:d∉o.looksAt ops) (hg:GuardIs ops (L.put (some d) v) o res):GuardIs ops L o res:=by
 unfold GuardIs at hg ⊢
 cases hh:o.guard with
 | none=>rw [hh] at hg;exact hg
 | some pr =>
  obtain⟨j,want⟩:=pr
  rw [hh] at hg
  obtain⟨t,q1',q'⟩:=hg
  have hne:t≠d:=fun q=>h (by rw [←q];unfold Oper.looksAt;rw [hh];simp [q1'])
  have e1:(L.put (some d) v).slot t=L.slot t:=by rw [put_slot,if_neg hne]
  refine⟨t,q1',?_⟩
  show (∃ b,L.slot t=_∧_)∨(L.slot t=_∧_)
  rw [←e1]
  exact q'
theorem mem_args {f:Operand} {xs:Array Operand} {ats:Array TypeId} {x:Operand} (h:x∈xs.toList):x∈(Op.call ⟨.value f,xs,ats⟩).operands:=by
 have:=Array.mem_toList_iff.1 h
 simp [Op.operands,Call.operands,this]
theorem step_comm {L L2:St} {d:Nat} {v:LV} {o:Oper} (hk:kindOp o.op=true) (hl:d∉o.looksAt ops) (hd:o.dst≠some d) (h:Step P false ops o (L.put (some d) v) L2) :
  ∃ L1,Step P false ops o L L1∧L2=L1.put (some d) v∧∀ t,o.dst≠some t→L1.slot t=L.slot t:=by
 have hev:=ev_put (L:=L) (v:=v) hl
 have hsl:∀ (M:St) (r:LV) t,M.slot t=L.slot t→o.dst≠some t→(M.put o.dst r).slot t=L.slot t:=fun M r t hM hne=>by
  cases hh:o.dst with
  | none=>exact hM
  | some e=>rw [put_slot,if_neg (fun q=>hne (by rw [hh,q]))];exact hM
 cases h with
 | skip hg hL=>exact⟨L.put o.dst (.tup []),.skip (guard_put hl hg) rfl,by rw [hL,put_commO L hd],fun t ht=>hsl L _ t rfl ht⟩
 | @val r fr H1 hg hle hfr hov hL =>
  obtain⟨dst,op,ty,pos,after,gd⟩:=o
  have hev':∀ x∈op.operands,L.ev x=(L.put (some d) v).ev x:=fun x hx=>(hev x hx).symm
  have hov2:OpV P H1 L.ev (dst.getD 0) op r fr:=by
   cases hov with
   | pure hp =>
    by_cases hpl:plainOp op=true
    ·exact .pure (hp.cong hpl hev')
    ·cases hp with
     | ext2 hf hname hb hn he hx hr h1 h2 =>
      refine .pure (.ext2 hf hname hb hn he ?_ hr h1 h2)
      rw [←hx]
      exact List.map_congr_left fun x hxm=>hev' x (mem_args hxm)
     | _=>first | (exfalso;exact hpl rfl) | (exfalso;revert hk hpl;simp [kindOp,plainOp])
   | alloc ha=>cases ha<;>(exfalso;revert hk;simp [kindOp,plainOp])
   | call hc =>
    cases hc with
    | func ha hkk hlen hpu =>
     refine .call (.func ?_ hkk hlen hpu)
     rw [show (_:Array Operand).toList.map L.ev=_ from List.map_congr_left fun x hxm=>hev' x (mem_args hxm)]
     exact ha
    | clo=>exfalso;revert hk;simp [kindOp,plainOp]
    | mk=>exfalso;revert hk;simp [kindOp,plainOp]
  refine⟨⟨(L.put dst r).slot,H1⟩,.val (guard_put hl hg) hle hfr hov2 rfl,?_,fun t ht=>hsl L r t rfl ht⟩
  rw [hL]
  have:=put_commO L hd v r
  exact congrArg (fun M=>St.mk (St.slot M) H1) this
 | st hg hot =>
  obtain⟨dst,op,ty,pos,after,gd⟩:=o
  cases hot with
  | store hp hb hs hm hi hy hput hT hne =>
   rename_i T p x b sz i o' blk y y'
   have e1:=hev p (by simp [Op.operands])
   have e2:=hev x (by simp [Op.operands])
   rw [e1] at hp
   rw [e2] at hput hT hne
   refine⟨_,.st (guard_put hl hg) (.store hp hb hs hm hi hy hput hT hne),?_,fun t ht=>?_⟩
   ·exact put_commO (L.setB b _) hd v .any
   ·exact hsl (L.setB b _) .any t rfl ht
  | _=>exfalso;revert hk;simp [kindOp,plainOp]
 | stM hdr hg hom =>
  obtain⟨dst,op,ty,pos,after,gd⟩:=o
  cases hom with
  | call hb hm hp ha hn hkk hm' hp' =>
   rename_i f xs ats args r b blk blk'
   have em:xs.toList.map (L.put (some d) v).ev=xs.toList.map L.ev:=List.map_congr_left fun x hxm=>hev x (mem_args hxm)
   rw [em] at ha hn
   refine⟨_,.stM hdr (guard_put hl hg) (.call hb hm hp ha hn hkk hm' hp'),?_,fun t ht=>?_⟩
   ·exact put_commO (L.setB b _) hd v _
   ·exact hsl (L.setB b _) _ t rfl ht
  | appz=>exfalso;revert hk;simp [kindOp,plainOp]
def hoistOk (ops:Array Oper) (i:Nat) (D:Array Bool):Bool :=
 D.size==ops.size && !D.getD i true && (dirs (ops.getD i default)).all (fun j=>D.getD j false) && (ops.getD i default).guard.isNone && slimOp (ops.getD i default).op &&
 (List.range ops.size).all fun j=>j==i || D.getD j true || (kindOp (ops.getD j default).op && ((ops.getD j default).dst != (ops.getD i default).dst) &&
  (match (ops.getD i default).dst with | some d=>!((ops.getD j default).looksAt ops).contains d || (dirs (ops.getD j default)).contains i | none=>false) &&
  (match (ops.getD j default).dst with | some e=>!((ops.getD i default).looksAt ops).contains e | none=>true))
theorem any_hoist {m:Nat} {K:St→Prop} {L:St} {D:Array Bool} {d:Nat} {v:LV} (i:Nat) {o:Oper} (ho:ops[i]?=some o) (hdst:o.dst=some d) (hok:hoistOk ops i D=true) (hv:OpP P L.heap L.ev o.op v)
  (h:anyL P ops m (D.setIfInBounds i true) (L.put (some d) v) K):anyL P ops (m+1) D L K:=by
 have getD_of:∀ i o,ops[i]?=some o→ops.getD i default=o:=fun i o h=>by rw [Array.getD_eq_getD_getElem?,h];rfl
 have hin:i<ops.size:=(Array.getElem?_eq_some_iff.1 ho).1
 let C:Array Bool→Prop:=fun D=>D.size=ops.size∧D.getD i false=false∧(∀ j∈dirs o,D.getD j false=true)∧∀ j oj,ops[j]?=some oj→j≠i→D.getD j false=false →
  kindOp oj.op=true∧oj.dst≠some d∧(d∈oj.looksAt ops→i∈dirs oj)∧∀ e,oj.dst=some e→e∉o.looksAt ops
 unfold hoistOk at hok
 rw [getD_of i o ho,hdst] at hok
 simp only [Bool.and_eq_true,List.all_eq_true,List.mem_range,Bool.or_eq_true,beq_iff_eq,Bool.not_eq_true',Option.isNone_iff_eq_none,bne_iff_ne,ne_eq] at hok
 obtain⟨⟨⟨⟨⟨hsz,hni⟩,hrd⟩,hgd⟩,hslim⟩,hall⟩:=hok
 have hC:C D:=by
  refine⟨hsz,by rw [getD_sz (by omega) false true];exact hni,hrd,fun j oj hj hne hDj=>?_⟩
  have hjl:j<ops.size:=(Array.getElem?_eq_some_iff.1 hj).1
  have:=hall j hjl
  rw [getD_of j oj hj] at this
  rcases this with(q | q) | q
  ·exact absurd q hne
  ·rw [getD_sz (by omega) true false,hDj] at q;cases q
  ·obtain⟨⟨⟨q1,q2⟩,q3⟩,q4⟩:=q
   refine⟨q1,q2,fun hm=>?_,fun e he hm=>?_⟩
   ·rcases q3 with q | q
    ·rw [List.contains_iff_mem.2 hm] at q;cases q
    ·exact List.contains_iff_mem.1 q
   ·rw [he] at q4
    simp only [Bool.not_eq_true'] at q4
    rw [List.contains_iff_mem.2 hm] at q4;cases q4
 have hstepi:∀ L:St,OpP P L.heap L.ev o.op v→Step P false ops o L (L.put (some d) v):=fun L hv=>by
  refine .val (fr:=[]) (H1:=L.heap) (r:=v) (by unfold GuardIs;rw [hgd]) (Heap.le_refl _) (fun _ _ hh=>by cases hh) (.pure hv) ?_
  rw [hdst];rfl
 clear hsz hni hrd hall
 have main:∀ (n:Nat) (D:Array Bool) (L:St),C D→OpP P L.heap L.ev o.op v→anyL P ops n (D.setIfInBounds i true) (L.put (some d) v) K→anyL P ops (n+1) D L K:=by
  intro n
  induction n with
  | zero =>
   intro D L ⟨c1,c2,c3,c4⟩ hv hh
   have hri:i∈Region.ready .any ops D:=(ready_spec c1).2 ⟨o,ho,by rw [getD_sz (by omega) true false];exact c2,c3⟩
   refine⟨fun hr=>(by rw [hr] at hri;cases hri),fun j hj=>?_⟩
   by_cases hji:j=i
   ·subst hji
    exact⟨o,_,ho,hstepi L hv,hh⟩
   ·exfalso
    obtain⟨oj,h1,h2,h3⟩:=(ready_spec c1).1 hj
    have:j∈Region.ready .any ops (D.setIfInBounds i true):=(ready_spec (by simpa using c1)).2 ⟨oj,h1,by
     rw [Array.getD_eq_getD_getElem?,Array.getElem?_setIfInBounds_ne (Ne.symm hji),←Array.getD_eq_getD_getElem?];exact h2,fun k hk=>by
     by_cases hki:i=k
     ·subst hki
      rw [Array.getD_eq_getD_getElem?,Array.getElem?_setIfInBounds_self_of_lt (by omega)];rfl
     ·rw [Array.getD_eq_getD_getElem?,Array.getElem?_setIfInBounds_ne hki,←Array.getD_eq_getD_getElem?];exact h3 k hk⟩
    rw [hh.1] at this;cases this
  | succ n ih =>
   intro D L ⟨c1,c2,c3,c4⟩ hv hh
   have hri:i∈Region.ready .any ops D:=(ready_spec c1).2 ⟨o,ho,by rw [getD_sz (by omega) true false];exact c2,c3⟩
   refine⟨fun hr=>(by rw [hr] at hri;cases hri),fun j hj=>?_⟩
   by_cases hji:j=i
   ·subst hji
    exact⟨o,_,ho,hstepi L hv,hh⟩
   ·obtain⟨oj,h1,h2,h3⟩:=(ready_spec c1).1 hj
    have hjl:j<ops.size:=(Array.getElem?_eq_some_iff.1 h1).1
    have hDj:D.getD j false=false:=by rw [getD_sz (by omega) false true];exact h2
    have hji2:j∈Region.ready .any ops (D.setIfInBounds i true):=(ready_spec (by simpa using c1)).2 ⟨oj,h1,by
     rw [Array.getD_eq_getD_getElem?,Array.getElem?_setIfInBounds_ne (Ne.symm hji),←Array.getD_eq_getD_getElem?];exact h2,fun k hk=>by
     by_cases hki:i=k
     ·subst hki
      rw [Array.getD_eq_getD_getElem?,Array.getElem?_setIfInBounds_self_of_lt (by omega)];rfl
     ·rw [Array.getD_eq_getD_getElem?,Array.getElem?_setIfInBounds_ne hki,←Array.getD_eq_getD_getElem?];exact h3 k hk⟩
    obtain⟨oj',L2,g1,g2,g3⟩:=hh.2 j hji2
    rw [h1] at g1;cases g1
    obtain⟨k1,k2,k3,k4⟩:=c4 j oj h1 hji hDj
    have hnl:d∉oj.looksAt ops:=fun hm=>by
     have:=h3 i (k3 hm)
     rw [c2] at this;cases this
    obtain⟨L1,s1,s2,s3⟩:=step_comm k1 hnl k2 g2
    refine⟨oj,L1,h1,s1,ih (D.setIfInBounds j true) L1 ⟨by simpa using c1,?_,fun k hk=>?_,fun k ok hk hne hDk=>?_⟩ ?_ ?_⟩
    ·rw [Array.getD_eq_getD_getElem?,Array.getElem?_setIfInBounds_ne hji,←Array.getD_eq_getD_getElem?];exact c2
    ·by_cases hjk:j=k
     ·subst hjk
      rw [Array.getD_eq_getD_getElem?,Array.getElem?_setIfInBounds_self_of_lt (by omega)];rfl
     ·rw [Array.getD_eq_getD_getElem?,Array.getElem?_setIfInBounds_ne hjk,←Array.getD_eq_getD_getElem?];exact c3 k hk
    ·by_cases hjk:j=k
     ·subst hjk
      rw [Array.getD_eq_getD_getElem?,Array.getElem?_setIfInBounds_self_of_lt (by omega)] at hDk
      cases hDk
     ·rw [Array.getD_eq_getD_getElem?,Array.getElem?_setIfInBounds_ne hjk,←Array.getD_eq_getD_getElem?] at hDk
      exact c4 k ok hk hne hDk
    ·refine(hv.cong (slim_plain hslim) fun x hx=>?_).slim hslim
     cases x with
     | tmp t =>
      have ht:t∈o.looksAt ops:=by
       unfold Oper.looksAt
       simp only [List.mem_append,List.mem_filterMap]
       exact .inl ⟨.tmp t,by simpa using hx,rfl⟩
      exact s3 t (fun q=>k4 t q ht)
     | const v=>rfl
     | func f=>rfl
     | global f=>rfl
    ·rw [←s2]
     have:(D.setIfInBounds j true).setIfInBounds i true=(D.setIfInBounds i true).setIfInBounds j true:=by
      refine Array.ext_getElem? fun k=>?_
      by_cases q1:i=k
      ·subst q1
       rw [Array.getElem?_setIfInBounds_self_of_lt (by simp;omega),Array.getElem?_setIfInBounds_ne hji,Array.getElem?_setIfInBounds_self_of_lt (by omega)]
      ·by_cases q2:j=k
       ·subst q2
        rw [Array.getElem?_setIfInBounds_ne q1,Array.getElem?_setIfInBounds_self_of_lt (by omega),Array.getElem?_setIfInBounds_self_of_lt (by simp;omega)]
       ·rw [Array.getElem?_setIfInBounds_ne q1,Array.getElem?_setIfInBounds_ne q2,Array.getElem?_setIfInBounds_ne q2,Array.getElem?_setIfInBounds_ne q1]
     rw [this];exact g3
 exact main m D L hC hv h
end
end Go.Lg
end
section
set_option linter.unusedVariables false
set_option linter.unusedSimpArgs false
set_option maxHeartbeats 8000000
set_option maxRecDepth 100000
attribute [local irreducible] Go.Lg.opsL Go.Lg.wpL Go.Lg.thenL Go.Lg.blockL
namespace Go.Proofs.YtfpdccbgngdhkaaGreat
open Go.Lg
def ksF (l:List Int) (j:Nat):Rat:=((1+nxV l j 3:Int):Rat)/((1+nxV l (nxK l j) 2:Int):Rat)
def ksJ (l:List Int) (d:Nat) (k:List Rat) (j:Nat):Nat:=if k.length=d+1 then j else nxK l j
def ksB (l:List Int) (d:Nat) (k:List Rat) (t:Rat) (j:Nat):Prop:=k.length=d+1∨0<nxV l j 3∨t=k.getD (k.length-d) 0
instance (l:List Int) (d:Nat) (k:List Rat) (t:Rat) (j:Nat):Decidable (ksB l d k t j):=by unfold ksB;infer_instance
def kiV (l:List Int) (d:Nat):Nat→List Rat→Rat→Nat→List Rat × Rat × Nat
 | 0,k,t,j=>(k,t,j)
 | n+1,k,t,j=>if ksB l d k t j then kiV l d n (k++[t+ksF l (ksJ l d k j)]) (t+ksF l (ksJ l d k j)) (nxK l (nxK l (ksJ l d k j))) else kiV l d n (k++[t]) t (ksJ l d k j)
theorem ksF_in (l:List Int) (j:Nat):0<ksF l j∧rl (ksF l j)≤2:=by
 have h1:=nxV_lt (l:=l) (k:=j) (n:=3) (by decide)
 have h2:=nxV_lt (l:=l) (k:=nxK l j) (n:=2) (by decide)
 have r1:rl ((1+nxV l j 3:Int):Rat)≤1:=rl_int (by omega)
 have r2:rl ((1+nxV l (nxK l j) 2:Int):Rat)≤1:=rl_int (by omega)
 have r3:=rl_div ((1+nxV l j 3:Int):Rat) ((1+nxV l (nxK l j) 2:Int):Rat)
 refine⟨?_,by unfold ksF;omega⟩
 unfold ksF
 rw [Rat.div_def]
 exact Rat.mul_pos (Rat.intCast_pos.2 (by omega)) (Rat.inv_pos.2 (Rat.intCast_pos.2 (by omega)))
theorem ki_in (l:List Int) {d n:Nat} {T:Rat} (hd:1≤d) (hn:n≤2) (hT:rl T≤1) (j:Nat) :
  ∃ inn t j',kiV l d n (List.replicate (d+1) T) T j=(List.replicate (d+1) T++inn,t,j')∧inn.length=n∧inOK d T inn (t+1)∧rl t≤7∧T<t+1:=by
 have hr1:rl 1=1:=rfl
 match n,hn with
 | 0,_ =>
  refine⟨[],T,j,by rw [List.append_nil];rfl,rfl,⟨fun x hx=>(by cases hx),fun i hi=>(by simp at hi),fun x hx=>(by cases hx),by decide,fun x hx=>(by cases hx)⟩,by omega,by grind⟩
 | 1,_ =>
  have hF:=ksF_in l (ksJ l d (List.replicate (d+1) T) j)
  have hb:ksB l d (List.replicate (d+1) T) T j:=.inl (by simp)
  refine⟨[T+ksF l (ksJ l d (List.replicate (d+1) T) j)],T+ksF l (ksJ l d (List.replicate (d+1) T) j),nxK l (nxK l (ksJ l d (List.replicate (d+1) T) j)),by rw [kiV,if_pos hb,kiV],rfl,?_,?_,?_⟩
  ·generalize ksF l _=f at hF
   have:=rl_add T f
   refine⟨fun x hx=>?_,fun i hi=>(by simp at hi),fun x hx=>?_,by simp,fun x hx=>?_⟩
   ·rw [List.mem_singleton.1 hx];constructor<;>grind
   ·show tmN _ x 1≤d
    have:=tmN_le [T+f] x 1
    omega
   ·rw [List.mem_singleton.1 hx];omega
  ·have:=rl_add T (ksF l (ksJ l d (List.replicate (d+1) T) j));omega
  ·grind
 | 2,_ =>
  have hb:ksB l d (List.replicate (d+1) T) T j:=.inl (by simp)
  have hF:=ksF_in l (ksJ l d (List.replicate (d+1) T) j)
  rw [kiV,if_pos hb]
  generalize nxK l (nxK l (ksJ l d (List.replicate (d+1) T) j))=j1
  generalize ksF l (ksJ l d (List.replicate (d+1) T) j)=f at *
  have a1:=rl_add T f
  rw [kiV]
  by_cases hb2:ksB l d (List.replicate (d+1) T++[T+f]) (T+f) j1
  ·rw [if_pos hb2,kiV]
   have hG:=ksF_in l (ksJ l d (List.replicate (d+1) T++[T+f]) j1)
   generalize nxK l (nxK l (ksJ l d (List.replicate (d+1) T++[T+f]) j1))=j2
   generalize ksF l (ksJ l d (List.replicate (d+1) T++[T+f]) j1)=g at *
   have a2:=rl_add (T+f) g
   refine⟨[T+f,T+f+g],T+f+g,j2,by rw [List.append_assoc];rfl,rfl,⟨fun x hx=>?_,fun i hi=>?_,fun x hx=>?_,by simp,fun x hx=>?_⟩,by omega,by grind⟩
   ·simp only [List.mem_cons,List.not_mem_nil,or_false] at hx
    rcases hx with rfl | rfl<;>constructor<;>grind
   ·obtain rfl:i=0:=by simp at hi;omega
    show T+f≤T+f+g
    grind
   ·show tmN _ x 2≤d
    have hne:T+f≠T+f+g:=by grind
    have e:tmN [T+f,T+f+g] x 2=0+(if T+f=x then 1 else 0)+(if T+f+g=x then 1 else 0):=rfl
    rw [e]
    by_cases c:T+f=x
    ·rw [if_pos c,if_neg (fun e=>hne (c.trans e.symm))];omega
    ·rw [if_neg c];split<;>omega
   ·simp only [List.mem_cons,List.not_mem_nil,or_false] at hx
    rcases hx with rfl | rfl<;>omega
  ·rw [if_neg hb2,kiV]
   have hd2:2≤d:=by
    rcases Nat.lt_or_ge d 2 with c | c
    ·exfalso
     obtain rfl:d=1:=by omega
     refine hb2 (.inr (.inr ?_))
     rw [show (List.replicate (1+1) T++[T+f]).length-1=2 by simp,gD2 (by simp)];simp
    ·exact c
   refine⟨[T+f,T+f],T+f,ksJ l d (List.replicate (d+1) T++[T+f]) j1,by rw [List.append_assoc];rfl,rfl,⟨fun x hx=>?_,fun i hi=>?_,fun x hx=>?_,by simp,fun x hx=>?_⟩,by omega,by grind⟩
   ·simp only [List.mem_cons,List.not_mem_nil,or_false,or_self] at hx
    subst hx;constructor<;>grind
   ·obtain rfl:i=0:=by simp at hi;omega
    exact Rat.le_refl
   ·show tmN _ x 2≤d
    have:=tmN_le [T+f,T+f] x 2
    omega
   ·simp only [List.mem_cons,List.not_mem_nil,or_false,or_self] at hx
    subst hx;omega
def kiN (l:List Int) (k n:Nat):Nat:=(nxV l (nxK l k) ((n+1:Nat):Int)).toNat
def kiR (l:List Int) (d k n:Nat):List Rat × Rat × Nat:=kiV l d (kiN l k n) (List.replicate (d+1) (dtV l k)) (dtV l k) (nxK l (nxK l k))
def knX (l:List Int) (d k n:Nat):List Rat:=(kiR l d k n).1++List.replicate (d+1) ((kiR l d k n).2.1+1)
theorem kiN_in (l:List Int) (k n:Nat):(kiN l k n:Int)=nxV l (nxK l k) ((n+1:Nat):Int)∧kiN l k n≤n:=by
 have h:=nxV_lt (l:=l) (k:=nxK l k) (n:=((n+1:Nat):Int)) (by omega)
 unfold kiN
 omega
structure kiI (l:List Int) (d N c:Nat) (K:List Rat) (t:Rat) (j:Nat) (R:List Rat × Rat × Nat):Prop where
 hj:j≤500
 hl:K.length+c=d+1+N
 ht:rl t+3*c≤1+3*N
 hK:∀ x∈K,rl x≤7
 hR:kiV l d c K t j=R
theorem mem_snoc {K:List Rat} {t:Rat} {R:Nat} (h:∀ x∈K,rl x≤R) (ht:rl t≤R):∀ x∈K++[t],rl x≤R:=fun x hx=>by
 rcases List.mem_append.1 hx with h1 | h1
 ·exact h x h1
 ·rw [List.mem_singleton.1 h1];exact ht
theorem ksJ_le {l:List Int} {d j:Nat} {K:List Rat} (hl:l.length≤500) (hj:j≤500):ksJ l d K j≤500:=by
 unfold ksJ;split
 ·exact hj
 ·exact nxK_le hl hj
theorem kiI.yes {l:List Int} {d N c:Nat} {K:List Rat} {t:Rat} {j:Nat} {R:List Rat × Rat × Nat} (hl:l.length≤500) (hN:N≤2) (h:kiI l d N (c+1) K t j R) (hb:ksB l d K t j) :
  kiI l d N c (K++[t+ksF l (ksJ l d K j)]) (t+ksF l (ksJ l d K j)) (nxK l (nxK l (ksJ l d K j))) R:=by
 have hF:=(ksF_in l (ksJ l d K j)).2
 have h1:=rl_add t (ksF l (ksJ l d K j))
 have h2:=h.ht
 have h3:=h.hl
 have h4:=h.hR
 rw [kiV,if_pos hb] at h4
 exact⟨nxK_le hl (nxK_le hl (ksJ_le hl h.hj)),by simp;omega,by omega,mem_snoc h.hK (by omega),h4⟩
theorem kiI.no {l:List Int} {d N c:Nat} {K:List Rat} {t:Rat} {j:Nat} {R:List Rat × Rat × Nat} (hl:l.length≤500) (hN:N≤2) (h:kiI l d N (c+1) K t j R) (hb:¬ksB l d K t j) :
  kiI l d N c (K++[t]) t (ksJ l d K j) R:=by
 have h2:=h.ht
 have h3:=h.hl
 have h4:=h.hR
 rw [kiV,if_neg hb] at h4
 exact⟨ksJ_le hl h.hj,by simp;omega,by omega,mem_snoc h.hK (by omega),h4⟩
namespace H_c_DKnotsI
theorem zSm {p q:Prop} (k:q) (e:p=q:=by simp only [e1,e2,e3,e4,p1,p2,p3,q1,q2,q3,l1,t0,t1,r1,r2,r3,r4,Nat.zero_add,Nat.reduceMul,Nat.reduceAdd,b1,b2,b3,b4,b5,b6,i1,i2,i3,i4,i5,i6,Nat.reduceBEq,l1,etkA,etkB,etkC,ers,ers2,ekb,ekj,eix,dfq,List.length_map,List.append_nil,List.replicate_zero,Nat.add_zero,take_map_len,map_snoc,len_snoc,List.length_cons,List.length_nil,List.nil_append,List.length_append,List.length_replicate,List.set_cons_zero,List.set_cons_succ,Nat.reduceEqDiff,reduceIte,if_true,if_false,ptL_kill,poL_kill,kills_map poE,kills_map ratE,ratL_kill,spL_kill,LV.kill,kills,dice_kill];exact rfl):p:=e.mpr k
end H_c_DKnotsI
open H_c_DKnotsI in
theorem c_DKnotsI (l:List Int) (k:Nat) (hl:l.length≤500) (d:Nat) (hd1:1≤d) (hd:d≤6) (n:Nat) (hn:n≤2) (hk:k≤500):CallOKM Tryz.prog 57 ⟨2,[diceL l k],true⟩ [.eptr 0 2 0 0,nI64 d,nI64 n] (.list 3 ((knX l d k n).map ratL)) ⟨2,[diceL l (kiR l d k n).2.2],true⟩:=by
 have k1:=nxK_le (l:=l) hl hk
 have k2:=nxK_le (l:=l) hl k1
 have hb:=nxV_lt (l:=l) (k:=k) (n:=4) (by decide)
 obtain⟨hn1,hn2⟩:=kiN_in l k n
 obtain⟨ht1,ht2⟩:=dt_rl l k
 have h1r:rl 1=1:=rfl
 refine fnM Tryz.func57 ?_
 have etkA:True:=trivial
 have etkB:True:=trivial
 have etkC:True:=trivial
 have ers:True:=trivial
 have ers2:True:=trivial
 have ekb:True:=trivial
 have ekj:True:=trivial
 have eix:True:=trivial
 refine zg8 ?_
 refine st_callMp 0 rfl rfl rfl (dice_pure l _) (.cons .ptr (.cons (.imm (.pure rfl)) .nil)) .ptr (c_Next l k 4 (by omega) (by omega) (by omega) (by omega)) rfl (dice_pure l _) rfl ?_
 refine st_pure rfl (.bin rfl rfl (sub64 (by omega) (by omega))) ?_
 refine cp am1 (c_FInt (nxV l k 4-2) (by omega) (by omega)) ?_
 refine zg16 ?_
 refine wl_weak (Weak.own (t:=8) 24 3 rfl rfl) ?_
 refine lp1 (fun(i:Nat) L=>(((((((St.mk L.slot (hp [(0,⟨2,[diceL l (nxK l k)],true⟩),(7,⟨3,[ratL (dtV l k)],true⟩),(24,⟨3,(List.replicate i (dtV l k)).map ratL,true⟩)])).put (some 0) (.eptr 0 2 0 0)).put (some 1) (nI64 d)).put (some 7) (.eptr 7 3 0 0)).put (some 2) (nI64 n)).put (some 8) (.ref 24 3 0 i)).put (some 9) (nI64 i))) (fun i=>i≤d+1) (fun i=>d+1-i) 0 (Nat.zero_le _) ?_
 rintro i L1 hi
 refine zg8 ?_
 refine wl_if rfl (fun h18r h18=>?_) (fun h18r h18=>?_)
 ·have hi2:i≤d:=by omega
  have ers:=rep_snoc i (dtV l k)
  have etkA:((List.replicate i (dtV l k)).map ratL).take i=(List.replicate i (dtV l k)).map ratL:=List.take_of_length_le (by simp)
  refine zg8 ?_
  refine st_store rfl (.appX (d:=24) (news:=[ratL ((dtV l k))]) rfl rfl rfl rfl (by simp) (.inl rfl) (by decide) Tryz.underlying36 Tryz.underlying36 Z29a T29 rfl B29 (.inl ⟨23,0,_,rfl,by decide,rfl,rfl,by simp,rfl,by simp [pures,ratE.pure]⟩) (by simp;omega) (by simp;omega) (by decide)) ?_
  refine zg4 ?_
  refine wl_regW (Weak.kill _ 23) ?_
  refine zg1 ?_
  refine st_pure rfl (.bin rfl rfl (add1N (by omega))) ?_
  refine zg3 ?_
  exact nx1 (i+1) (by omega)
 ·obtain rfl:i=d+1:=by omega
  refine zg10 ?_
  refine st_pure rfl (.bin rfl rfl (add1N (by omega))) ?_
  refine st_callMp 0 rfl rfl rfl (dice_pure l _) (.cons .ptr (.cons (.imm (.pure rfl)) .nil)) .ptr (c_Next l (nxK l k) ((n+1:Nat):Int) (by omega) (by omega) (by omega) (by omega)) rfl (dice_pure l _) rfl ?_
  rw [←hn1]
  refine zg4 ?_
  refine lp4 (fun(c:Nat) (K:List Rat) (t:Rat) (j:Nat) L=>((((((St.mk L.slot (hp [(0,⟨2,[diceL l j],true⟩),(7,⟨3,[ratL t],true⟩),(24,⟨3,K.map ratL,true⟩)])).put (some 0) (.eptr 0 2 0 0)).put (some 1) (nI64 d)).put (some 7) (.eptr 7 3 0 0)).put (some 8) (.ref 24 3 0 K.length)).put (some 10) (nI64 c))) (fun c K t j=>kiI l d (kiN l k n) c K t j (kiR l d k n)) (fun c K t j=>c) (kiN l k n) (List.replicate (d+1) (dtV l k)) (dtV l k) (nxK l (nxK l k)) ⟨k2,by simp,by omega,fun x hx=>by rw [(List.mem_replicate.1 hx).2];omega,rfl⟩ ?_
  rintro c K t j L2 hI
  refine zg7 ?_
  refine wl_if rfl (fun h30r h30=>?_) (fun h30r h30=>?_)
  ·obtain⟨e,rfl⟩:∃ e,c=e+1:=⟨c-1,by omega⟩
   have hj5:=hI.hj
   have hjl:=nxK_le (l:=l) hl hj5
   have hKl:=hI.hl
   have hrt:=hI.ht
   have hrK:=hI.hK _ (getD_mem (p:=K) (i:=K.length-d) (by omega))
   have etkC:(K.map ratL).take K.length=K.map ratL:=List.take_of_length_le (by simp)
   have hb3:=nxV_lt (l:=l) (k:=j) (n:=3) (by decide)
   refine zg6 ?_
   refine wl_cut (fun L=>∃  (L1:St),(True)∧L=(((((((St.mk L1.slot (hp [(0,⟨2,[diceL l (ksJ l d K j)],true⟩),(7,⟨3,[ratL t],true⟩),(24,⟨3,K.map ratL,true⟩)])).put (some 0) (.eptr 0 2 0 0)).put (some 1) (nI64 d)).put (some 7) (.eptr 7 3 0 0)).put (some 8) (.ref 24 3 0 K.length)).put (some 10) (nI64 (e+1))).put (some 53) (bL (decide (ksB l d K t j))))) ?_ ?_
   ·refine wl_regA ?_
    refine any_segm 0 6 15 rfl (by decide +kernel) (by decide +kernel) ?_
    simp only [List.drop_zero,List.drop_succ_cons,List.take_succ_cons,List.take_zero]
    refine zg3 ?_
    refine st_pure rfl (.bin rfl rfl (add1N (by omega))) ?_
    refine zg2 ?_
    refine st_nil ?_
    refine any_1 6 _ (by decide +kernel) rfl ?_
    refine op_if 38 rfl (fun h38r h38=>?_) (fun h38r h38=>?_)
    ·have hL:K.length=d+1:=by omega
     have ekb:decide (ksB l d K t j)=true:=decide_eq_true (.inl hL)
     have ekj:(ksJ l d K j)=j:=if_pos hL
     refine zg1 ?_
     refine st_nil ?_
     refine any_1 7 _ (by decide +kernel) rfl ?_
     refine zg1 ?_
     refine st_nil ?_
     refine any_1 8 _ (by decide +kernel) rfl ?_
     refine zg1 ?_
     refine st_nil ?_
     refine any_1 9 _ (by decide +kernel) rfl ?_
     refine zg1 ?_
     refine st_nil ?_
     refine any_1 10 _ (by decide +kernel) rfl ?_
     refine zg1 ?_
     refine st_nil ?_
     refine any_segm 11 19 2 rfl (by decide +kernel) (by decide +kernel) ?_
     simp only [List.drop_zero,List.drop_succ_cons,List.take_succ_cons,List.take_zero]
     refine zg8 ?_
     refine st_nil ?_
     refine any_1 19 _ (by decide +kernel) rfl ?_
     try simp only [t1,dfq,Int.toNat_natCast,Nat.zero_add]
     refine zg1 ?_
     refine st_nil ?_
     refine any_1 20 _ (by decide +kernel) rfl ?_
     refine zg1 ?_
     refine st_nil ?_
     refine any_0 (by decide +kernel) ?_
     refine zg1 ?_
     exact⟨_,trivial,((put_id' (put_id' (put_id' (put_id' (put_id' (put_id' (mk_id' cl) cl) cl) cl) cl) cl) cl)).symm⟩
    ·have hL:¬K.length=d+1:=by omega
     have ekj:(ksJ l d K j)=nxK l j:=if_neg hL
     refine zg1 ?_
     refine st_nil ?_
     refine any_1 7 _ (by decide +kernel) rfl ?_
     refine st_callMp 0 (guardX (v:=false) rfl rfl (h38r) rfl) rfl rfl (dice_pure l _) (.cons .ptr (.cons (.imm (.pure rfl)) .nil)) .ptr (c_Next l j 3 (by omega) (by omega) (by omega) (by omega)) rfl (dice_pure l _) rfl ?_
     refine st_nil ?_
     refine any_1 8 _ (by decide +kernel) rfl ?_
     refine zg1 ?_
     refine st_nil ?_
     refine any_1 9 _ (by decide +kernel) rfl ?_
     refine zg1 ?_
     refine st_nil ?_
     refine any_1 10 _ (by decide +kernel) rfl ?_
     refine zg1 ?_
     refine st_nil ?_
     refine any_segm 11 19 2 rfl (by decide +kernel) (by decide +kernel) ?_
     simp only [List.drop_zero,List.drop_succ_cons,List.take_succ_cons,List.take_zero]
     refine op_if 43 rfl (fun h43r h43=>?_) (fun h43r h43=>?_)
     ·have ekb:decide (ksB l d K t j)=true:=decide_eq_true (.inr (.inl (by omega)))
      refine zg8 ?_
      refine st_nil ?_
      refine any_1 19 _ (by decide +kernel) rfl ?_
      try simp only [t1,dfq,Int.toNat_natCast,Nat.zero_add]
      refine zg1 ?_
      refine st_nil ?_
      refine any_1 20 _ (by decide +kernel) rfl ?_
      refine zg1 ?_
      refine st_nil ?_
      refine any_0 (by decide +kernel) ?_
      refine zg1 ?_
      exact⟨_,trivial,((put_id' (put_id' (put_id' (put_id' (put_id' (put_id' (mk_id' cl) cl) cl) cl) cl) cl) cl)).symm⟩
     ·refine zg5 ?_
      refine st_pure (guardX (v:=false) rfl rfl (h43r) rfl) (.bin rfl rfl (subNN (c:=K.length-d) (by omega) (by omega))) ?_
      refine zg2 ?_
      refine st_nil ?_
      refine any_1 19 _ (by decide +kernel) rfl ?_
      try simp only [t1,dfq,Int.toNat_natCast,Nat.zero_add]
      refine cp am2 (c_FSame t (K.getD (K.length-d) 0) (by omega)) ?_
      refine st_nil ?_
      refine any_1 20 _ (by decide +kernel) rfl ?_
      have ekb:decide (ksB l d K t j)=decide (t=K.getD (K.length-d) 0):=decide_eq_decide.2 ⟨fun h=>by rcases h with h | h | h<;>first | exact h | (exfalso;omega),fun h=>.inr (.inr h)⟩
      refine zg1 ?_
      refine st_nil ?_
      refine any_0 (by decide +kernel) ?_
      refine zg1 ?_
      exact⟨_,trivial,((put_id' (put_id' (put_id' (put_id' (put_id' (put_id' (mk_id' cl) cl) cl) cl) cl) cl) cl)).symm⟩
   ·rintro _ ⟨LR10,-,rfl⟩
    refine zg1 ?_
    refine wl_if rfl (fun h53r h53=>?_) (fun h53r h53=>?_)
    ·have hB:ksB l d K t j:=by simpa using h53
     have hJ:=ksJ_le (l:=l) (d:=d) (j:=j) (K:=K) hl hj5
     have hJ2:=nxK_le (l:=l) hl hJ
     have hF:=ksF_in l (ksJ l d K j)
     have hbA:=nxV_lt (l:=l) (k:=(ksJ l d K j)) (n:=3) (by decide)
     have hbB:=nxV_lt (l:=l) (k:=nxK l (ksJ l d K j)) (n:=2) (by decide)
     have haF:=rl_add t (ksF l (ksJ l d K j))
     refine wl_cut (fun L=>∃  (L1:St),(True)∧L=((((((St.mk L1.slot (hp [(0,⟨2,[diceL l (nxK l (nxK l (ksJ l d K j)))],true⟩),(7,⟨3,[ratL (t+ksF l (ksJ l d K j))],true⟩),(24,⟨3,K.map ratL,true⟩)])).put (some 0) (.eptr 0 2 0 0)).put (some 1) (nI64 d)).put (some 7) (.eptr 7 3 0 0)).put (some 8) (.ref 24 3 0 K.length)).put (some 10) (nI64 (e+1)))) ?_ ?_
     ·refine wl_regA ?_
      refine any_hoist 1 rfl rfl (by decide +kernel) (.move _) ?_
      refine any_hoist 4 rfl rfl (by decide +kernel) (.move _) ?_
      refine any_2 0 2 _ _ (by decide +kernel) rfl rfl ?_ ?_
      ·refine zg1 ?_
       refine st_nil ?_
       refine any_1 2 _ (by decide +kernel) rfl ?_
       refine st_callMp 0 rfl rfl rfl (dice_pure l _) (.cons .ptr (.cons (.imm (.pure rfl)) .nil)) .ptr (c_Next l (ksJ l d K j) 3 (by omega) (by omega) (by omega) (by omega)) rfl (dice_pure l _) rfl ?_
       refine st_nil ?_
       refine any_hoist 3 rfl rfl (by decide +kernel) (.bin rfl rfl (add64 (by omega) (by omega))) ?_
       refine any_1 5 _ (by decide +kernel) rfl ?_
       refine st_callMp 0 rfl rfl rfl (dice_pure l _) (.cons .ptr (.cons (.imm (.pure rfl)) .nil)) .ptr (c_Next l (nxK l (ksJ l d K j)) 2 (by omega) (by omega) (by omega) (by omega)) rfl (dice_pure l _) rfl ?_
       refine st_nil ?_
       refine any_1 6 _ (by decide +kernel) rfl ?_
       refine st_pure rfl (.bin rfl rfl (add64 (by omega) (by omega))) ?_
       refine st_nil ?_
       refine any_1 7 _ (by decide +kernel) rfl ?_
       refine cp am2 (c_FFrac (1+nxV l (ksJ l d K j) 3) (1+nxV l (nxK l (ksJ l d K j)) 2) (by omega) (by omega) (by omega) (by omega) (by omega)) ?_
       refine st_nil ?_
       refine any_1 8 _ (by decide +kernel) rfl ?_
       refine cp am2 (c_FRAdd t (ksF l (ksJ l d K j)) (by omega)) ?_
       refine st_nil ?_
       refine any_1 9 _ (by decide +kernel) rfl ?_
       refine zg1 ?_
       refine st_nil ?_
       refine any_0 (by decide +kernel) ?_
       refine zg1 ?_
       exact⟨_,trivial,((put_id' (put_id' (put_id' (put_id' (put_id' (mk_id' cl) cl) cl) cl) cl) cl)).symm⟩
      ·refine st_callMp 0 rfl rfl rfl (dice_pure l _) (.cons .ptr (.cons (.imm (.pure rfl)) .nil)) .ptr (c_Next l (ksJ l d K j) 3 (by omega) (by omega) (by omega) (by omega)) rfl (dice_pure l _) rfl ?_
       refine st_nil ?_
       refine any_hoist 3 rfl rfl (by decide +kernel) (.bin rfl rfl (add64 (by omega) (by omega))) ?_
       refine any_2 0 5 _ _ (by decide +kernel) rfl rfl ?_ ?_
       ·refine zg1 ?_
        refine st_nil ?_
        refine any_1 5 _ (by decide +kernel) rfl ?_
        refine st_callMp 0 rfl rfl rfl (dice_pure l _) (.cons .ptr (.cons (.imm (.pure rfl)) .nil)) .ptr (c_Next l (nxK l (ksJ l d K j)) 2 (by omega) (by omega) (by omega) (by omega)) rfl (dice_pure l _) rfl ?_
        refine st_nil ?_
        refine any_1 6 _ (by decide +kernel) rfl ?_
        refine st_pure rfl (.bin rfl rfl (add64 (by omega) (by omega))) ?_
        refine st_nil ?_
        refine any_1 7 _ (by decide +kernel) rfl ?_
        refine cp am2 (c_FFrac (1+nxV l (ksJ l d K j) 3) (1+nxV l (nxK l (ksJ l d K j)) 2) (by omega) (by omega) (by omega) (by omega) (by omega)) ?_
        refine st_nil ?_
        refine any_1 8 _ (by decide +kernel) rfl ?_
        refine cp am2 (c_FRAdd t (ksF l (ksJ l d K j)) (by omega)) ?_
        refine st_nil ?_
        refine any_1 9 _ (by decide +kernel) rfl ?_
        refine zg1 ?_
        refine st_nil ?_
        refine any_0 (by decide +kernel) ?_
        refine zg1 ?_
        exact⟨_,trivial,((put_id' (put_id' (put_id' (put_id' (put_id' (mk_id' cl) cl) cl) cl) cl) cl)).symm⟩
       ·refine st_callMp 0 rfl rfl rfl (dice_pure l _) (.cons .ptr (.cons (.imm (.pure rfl)) .nil)) .ptr (c_Next l (nxK l (ksJ l d K j)) 2 (by omega) (by omega) (by omega) (by omega)) rfl (dice_pure l _) rfl ?_
        refine st_nil ?_
        refine any_hoist 6 rfl rfl (by decide +kernel) (.bin rfl rfl (add64 (by omega) (by omega))) ?_
        refine any_2 0 7 _ _ (by decide +kernel) rfl rfl ?_ ?_
        ·refine zg1 ?_
         refine st_nil ?_
         refine any_1 7 _ (by decide +kernel) rfl ?_
         refine cp am2 (c_FFrac (1+nxV l (ksJ l d K j) 3) (1+nxV l (nxK l (ksJ l d K j)) 2) (by omega) (by omega) (by omega) (by omega) (by omega)) ?_
         refine st_nil ?_
         refine any_1 8 _ (by decide +kernel) rfl ?_
         refine cp am2 (c_FRAdd t (ksF l (ksJ l d K j)) (by omega)) ?_
         refine st_nil ?_
         refine any_1 9 _ (by decide +kernel) rfl ?_
         refine zg1 ?_
         refine st_nil ?_
         refine any_0 (by decide +kernel) ?_
         refine zg1 ?_
         exact⟨_,trivial,((put_id' (put_id' (put_id' (put_id' (put_id' (mk_id' cl) cl) cl) cl) cl) cl)).symm⟩
        ·refine cp am2 (c_FFrac (1+nxV l (ksJ l d K j) 3) (1+nxV l (nxK l (ksJ l d K j)) 2) (by omega) (by omega) (by omega) (by omega) (by omega)) ?_
         refine st_nil ?_
         refine any_1 0 _ (by decide +kernel) rfl ?_
         refine zg1 ?_
         refine st_nil ?_
         refine any_1 8 _ (by decide +kernel) rfl ?_
         refine cp am2 (c_FRAdd t (ksF l (ksJ l d K j)) (by omega)) ?_
         refine st_nil ?_
         refine any_1 9 _ (by decide +kernel) rfl ?_
         refine zg1 ?_
         refine st_nil ?_
         refine any_0 (by decide +kernel) ?_
         refine zg1 ?_
         exact⟨_,trivial,((put_id' (put_id' (put_id' (put_id' (put_id' (mk_id' cl) cl) cl) cl) cl) cl)).symm⟩
     ·rintro _ ⟨LR11,-,rfl⟩
      refine zg5 ?_
      first | refine st_store rfl (.appX (d:=24) (news:=[ratL ((t+ksF l (ksJ l d K j)))]) rfl rfl rfl rfl (by simp) (.inl rfl) (by decide) Tryz.underlying36 Tryz.underlying36 Z29a T29 rfl B29 (.inl ⟨65,0,_,rfl,by decide,rfl,rfl,by simp,rfl,by simp [pures,ratE.pure]⟩) (by simp;omega) (by simp;omega) (by decide)) ?_ | refine st_store rfl (.appX (d:=24) (news:=[ratL (t)]) rfl rfl rfl rfl (by simp) (.inl rfl) (by decide) Tryz.underlying36 Tryz.underlying36 Z29a T29 rfl B29 (.inl ⟨65,0,_,rfl,by decide,rfl,rfl,by simp,rfl,by simp [pures,ratE.pure]⟩) (by simp;omega) (by simp;omega) (by decide)) ?_
      refine zg4 ?_
      refine wl_regW (Weak.kill _ 65) ?_
      refine zg1 ?_
      refine st_pure rfl (.bin rfl rfl (sub1N (by omega) (by omega))) ?_
      refine zg3 ?_
      exact nx4 e (K++[(t+ksF l (ksJ l d K j))]) (t+ksF l (ksJ l d K j)) (nxK l (nxK l (ksJ l d K j))) (hI.yes hl (by omega) hB)
    ·have hB:¬ksB l d K t j:=by simpa using h53
     refine zg6 ?_
     first | refine st_store rfl (.appX (d:=24) (news:=[ratL ((t+ksF l (ksJ l d K j)))]) rfl rfl rfl rfl (by simp) (.inl rfl) (by decide) Tryz.underlying36 Tryz.underlying36 Z29a T29 rfl B29 (.inl ⟨65,0,_,rfl,by decide,rfl,rfl,by simp,rfl,by simp [pures,ratE.pure]⟩) (by simp;omega) (by simp;omega) (by decide)) ?_ | refine st_store rfl (.appX (d:=24) (news:=[ratL (t)]) rfl rfl rfl rfl (by simp) (.inl rfl) (by decide) Tryz.underlying36 Tryz.underlying36 Z29a T29 rfl B29 (.inl ⟨65,0,_,rfl,by decide,rfl,rfl,by simp,rfl,by simp [pures,ratE.pure]⟩) (by simp;omega) (by simp;omega) (by decide)) ?_
     refine zg4 ?_
     refine wl_regW (Weak.kill _ 65) ?_
     refine zg1 ?_
     refine st_pure rfl (.bin rfl rfl (sub1N (by omega) (by omega))) ?_
     refine zg3 ?_
     exact nx4 e (K++[t]) t (ksJ l d K j) (hI.no hl (by omega) hB)
  ·obtain rfl:c=0:=by omega
   have hV:=hI.hR
   rw [kiV] at hV
   have hj5:=hI.hj
   have hKl:=hI.hl
   have hrt:=hI.ht
   have hrt1:=rl_add t 1
   refine zg6 ?_
   refine wl_regD 3 (by decide +kernel) ?_
   refine zg1 ?_
   refine cp am1 (c_FInt 1 (by decide) (by decide)) ?_
   refine cp am2 (c_FRAdd t 1 (by omega)) ?_
   refine zg10 ?_
   refine lp1 (fun(i:Nat) L=>(((((St.mk L.slot (hp [(0,⟨2,[diceL l j],true⟩),(7,⟨3,[ratL (t+1)],true⟩),(24,⟨3,(K++List.replicate i (t+1)).map ratL,true⟩)])).put (some 1) (nI64 d)).put (some 7) (.eptr 7 3 0 0)).put (some 8) (.ref 24 3 0 (K.length+i))).put (some 11) (nI64 i))) (fun i=>i≤d+1) (fun i=>d+1-i) 0 (Nat.zero_le _) ?_
   rintro i L3 hi
   refine zg8 ?_
   refine wl_if rfl (fun h72r h72=>?_) (fun h72r h72=>?_)
   ·have hi2:i≤d:=by omega
    have ers2:K++List.replicate i (t+1)++[t+1]=K++List.replicate (i+1) (t+1):=by rw [List.append_assoc,rep_snoc]
    have etkB:((K++List.replicate i (t+1)).map ratL).take (K.length+i)=(K++List.replicate i (t+1)).map ratL:=List.take_of_length_le (by simp)
    refine zg8 ?_
    refine st_store rfl (.appX (d:=24) (news:=[ratL (t+1)]) rfl rfl rfl rfl (by simp) (.inl rfl) (by decide) Tryz.underlying36 Tryz.underlying36 Z29a T29 rfl B29 (.inl ⟨77,0,_,rfl,by decide,rfl,rfl,by simp,rfl,by simp [pures,ratE.pure]⟩) (by simp;omega) (by simp;omega) (by decide)) ?_
    refine zg4 ?_
    refine wl_regW (Weak.kill _ 77) ?_
    refine zg1 ?_
    refine st_pure rfl (.bin rfl rfl (add1N (by omega))) ?_
    refine zg3 ?_
    exact nx1 (i+1) (by omega)
   ·obtain rfl:i=d+1:=by omega
    refine zg12 ?_
    have hE:K++List.replicate (d+1) (t+1)=knX l d k n:=by unfold knX;rw [←hV]
    have hE2:j=(kiR l d k n).2.2:=by rw [←hV]
    rw [←hE,←hE2]
    exact retMf [24] rfl rfl (imm_refm ratE rfl rfl (by simp)) rfl rfl (dice_pure l _)
end Go.Proofs.YtfpdccbgngdhkaaGreat
end
section
set_option linter.unusedVariables false
set_option linter.unusedSimpArgs false
namespace Go.Lg
theorem Weak.frz {L:St} {t:Nat} {x y:LV} (bs:List Nat) (h0:bs.contains 0=false) (h:L.slot t=x) (hi:Imm (L.frz bs).heap x y):Weak L ((L.frz bs).put (some t) y):=by
 rintro n W X Z0 a w ⟨hdf,hsz,μ,Z,hc,hr⟩
 obtain⟨Z',hc',hz⟩:=hc.widen (frz_le bs h0)
 refine⟨hdf,hsz,μ,Z',by rw [put_heap];exact hc',fun s=>?_⟩
 have hm:=RepV.mono hz (fun _ _ h=>h) (Frame.refl Z μ w) (hr s)
 rw [put_slot]
 split
 ·rename_i hst
  subst hst
  rw [h] at hm
  exact RepV.of1 (LV.pure_ne_tup hi.lay.2.2) (Imm.soundV (μ':=μ) hc' hi hm)
 ·exact hm
theorem Weak.hand {L:St} {t:Nat} {α:Type} {e:α→LV} {ag:Bool} {b sz len:Nat} {l:List α} {m:Bool} (he:EncOK e sz ag) (h:L.slot t=.ref b sz 0 len) (hb:L.heap b=some ⟨sz,l.map e,m⟩) (hl:len=l.length) (h0:b≠0:=by decide) :
  Weak L ((L.put (some t) (.list sz (l.map e))).kill b):=by
 have h0':([b]:List Nat).contains 0=false:=by simp;omega
 have e1:=(Weak.frz [b] h0' h (imm_refm (bs:=[b]) he hb (by simp) hl)).trans (Weak.kill _ b h0)
 have e2:((L.frz [b]).put (some t) (.list sz (l.map e))).kill b=(L.put (some t) (.list sz (l.map e))).kill b:=by
  unfold St.kill
  congr 1
  funext c
  rw [put_heap,put_heap]
  by_cases hcb:c=b
  ·simp [hcb]
  ·simp only [St.frz,if_neg hcb]
   cases L.heap c with
   | none=>rfl
   | some blk=>simp [hcb]
 rw [←e2]
 exact e1
end Go.Lg
end
section
set_option linter.unusedVariables false
set_option linter.unusedSimpArgs false
set_option maxHeartbeats 8000000
set_option maxRecDepth 100000
attribute [local irreducible] Go.Lg.opsL Go.Lg.wpL Go.Lg.thenL Go.Lg.blockL
namespace Go.Proofs.YtfpdccbgngdhkaaGreat
open Go.Lg
def prL (r:List PoR):LV:=.list 12 (r.map poL)
theorem prE:EncOK prL 1 false:=⟨fun _=>rfl,fun _=>rfl,fun p=>pure_lst poE 12 p⟩
theorem prZ:ZeroOK Tryz.prog 60 (prL []):=⟨Tryz.t60,_,by kernel_rfl,rfl,rfl,fun _ _ _=>repNil0 12⟩
theorem prL_kill (r:List PoR) (b:Nat):(prL r).kill b=prL r:=LV.kill_pure b _ (prE.pure r)
instance:EC Tryz.prog 60 prL 1 false []:=⟨prE,prZ,T60⟩
theorem rep_srf (d sz:Nat) (x y z u:LV) (Z:Nat→Prop) (μ:Nat→Option Nat) (w:World) (cs:List Value) (h:Rep Z μ w (.agg [x,y,z,u,.v (.slice none 0 0)]) cs):Rep Z μ w (.agg [x,y,z,u,.ref d sz 0 0]) cs:=by
 simp only [Rep,RepFs] at h ⊢
 obtain⟨c1,c2,e1,e2,e3,c3,c4,e4,e5,e6,c5,c6,e7,e8,e9,c7,c8,g1,g2,g3,c9,c10,g4,g5,g6,g7⟩:=h
 exact⟨c1,c2,e1,e2,e3,c3,c4,e4,e5,e6,c5,c6,e7,e8,e9,c7,c8,g1,g2,g3,c9,c10,g4,g5,.inl ⟨g6.1,trivial⟩,g7⟩
def gpV (w:Bool) (i j:Nat) (q:PoR):PoR :=
 bif w then q else⟨⟨((2*(i:Int):Int):Rat)+q.p.x*(((1:Int):Rat)/((8:Int):Rat)),((2*(j:Int):Int):Rat)+q.p.y*(((1:Int):Rat)/((8:Int):Rat)),q.p.z*(((1:Int):Rat)/((4:Int):Rat))⟩,q.w⟩
theorem gp_ok {w:Bool} {i j:Nat} {q:PoR} (h:okP 1 q) (hi:i≤100) (hj:j≤100):okP 4 (gpV w i j q):=by
 obtain⟨⟨h1,h2,h3⟩,h4,h5⟩:=h
 cases w with
 | true=>exact⟨⟨by show rl q.p.x≤4;omega,by show rl q.p.y≤4;omega,by show rl q.p.z≤4;omega⟩,by show rl q.w≤4;omega,h5⟩
 | false =>
  have e8:rl (((1:Int):Rat)/((8:Int):Rat))=1:=by decide +kernel
  have e4:rl (((1:Int):Rat)/((4:Int):Rat))=1:=by decide +kernel
  have a1:rl ((2*(i:Int):Int):Rat)≤1:=rl_int (by omega)
  have a2:rl ((2*(j:Int):Int):Rat)≤1:=rl_int (by omega)
  have m1:=rl_mul q.p.x (((1:Int):Rat)/((8:Int):Rat))
  have m2:=rl_mul q.p.y (((1:Int):Rat)/((8:Int):Rat))
  have m3:=rl_mul q.p.z (((1:Int):Rat)/((4:Int):Rat))
  have s1:=rl_add ((2*(i:Int):Int):Rat) (q.p.x*(((1:Int):Rat)/((8:Int):Rat)))
  have s2:=rl_add ((2*(j:Int):Int):Rat) (q.p.y*(((1:Int):Rat)/((8:Int):Rat)))
  exact⟨⟨by show rl (_+_)≤4;omega,by show rl (_+_)≤4;omega,by show rl (_*_)≤4;omega⟩,by show rl q.w≤4;omega,h5⟩
def srV (l:List Int) (w:Bool) (i:Nat):Nat→Nat→Nat→List PoR
 | _,0,_=>[]
 | j,c+1,k=>gpV w i j (dpV l k) :: srV l w i (j+1) c (dpK l k)
theorem srV_len (l:List Int) (w:Bool) (i:Nat):∀ c j k,(srV l w i j c k).length=c
 | 0,_,_=>rfl
 | c+1,j,k=>by simp [srV,srV_len l w i c]
theorem srV_ok (l:List Int) (w:Bool) {i:Nat} (hi:i≤100):∀ c j k,j+c≤100→∀ q∈srV l w i j c k,okP 4 q
 | 0,_,_,_,q,h=>by simp [srV] at h
 | c+1,j,k,hj,q,h=>by
  simp only [srV,List.mem_cons] at h
  rcases h with rfl | h
  ·exact gp_ok ⟨d3_rl l k,dw_rl _ _,dw_pos _ _⟩ hi (by omega)
  ·exact srV_ok l w hi c (j+1) _ (by omega) q h
def ssV (l:List Int) (w:Bool) (b:Nat):Nat→Nat→Nat→List (List PoR)
 | _,0,_=>[]
 | i,c+1,k=>srV l w i 0 b k :: ssV l w b (i+1) c (dqK l k b)
def ssK (l:List Int) (b:Nat):Nat→Nat→Nat
 | 0,k=>k
 | c+1,k=>ssK l b c (dqK l k b)
theorem ssV_len (l:List Int) (w:Bool) (b:Nat):∀ c i k,(ssV l w b i c k).length=c
 | 0,_,_=>rfl
 | c+1,i,k=>by simp [ssV,ssV_len l w b c]
theorem ssV_ok (l:List Int) (w:Bool) {b:Nat} (hb:b≤100):∀ c i k,i+c≤100→∀ r∈ssV l w b i c k,r.length=b∧∀ q∈r,okP 4 q
 | 0,_,_,_,r,h=>by simp [ssV] at h
 | c+1,i,k,hi,r,h=>by
  simp only [ssV,List.mem_cons] at h
  rcases h with rfl | h
  ·exact⟨srV_len ..,srV_ok l w (by omega) b 0 k (by omega)⟩
  ·exact ssV_ok l w hb c (i+1) _ (by omega) r h
theorem knX_in (l:List Int) {k d m:Nat} (hl:l.length≤500) (hk:k≤500) (hd1:1≤d) (hd:d≤6) (hm:m≤2):kOK (knX l d k m) d∧(knX l d k m).length=2*(d+1)+kiN l k m∧(kiR l d k m).2.2≤500:=by
 obtain⟨hN1,hN2⟩:=kiN_in l k m
 obtain⟨hT,hT1⟩:=dt_rl l k
 have hr1:rl 1=1:=rfl
 obtain⟨inn,t,j',e,hil,hin,hrt,hlt⟩:=ki_in l (d:=d) (n:=kiN l k m) (T:=dtV l k) hd1 (by omega) hT (nxK l (nxK l k))
 have ht1:=rl_add t 1
 have eK:knX l d k m=kx d (dtV l k) inn (t+1):=by
  unfold knX kiR kx
  rw [e,List.append_assoc]
 refine⟨by rw [eK];exact kx_ok hd1 hd (by omega) (by omega) hlt hin,?_,?_⟩
 ·rw [eK,kx_len,hil]
 ·have k1:=nxK_le (l:=l) hl hk
  have k2:=nxK_le (l:=l) hl k1
  have gen:∀ (c:Nat) (K:List Rat) (t:Rat) (j:Nat),j≤500→(kiV l d c K t j).2.2≤500:=by
   intro c
   induction c with
   | zero=>intro K t j hj;exact hj
   | succ c ih =>
    intro K t j hj
    rw [kiV]
    split
    ·exact ih _ _ _ (nxK_le hl (nxK_le hl (ksJ_le hl hj)))
    ·exact ih _ _ _ (ksJ_le hl hj)
  exact gen _ _ _ _ k2
def sU (l:List Int) (k n:Nat):Nat:=cD l k n
def sV (l:List Int) (k n:Nat):Nat:=cD l (nxK l k) n
def sJ2 (l:List Int) (k:Nat):Nat:=nxK l (nxK l k)
def sJ3 (l:List Int) (k n m:Nat):Nat:=(kiR l (sU l k n) (sJ2 l k) m).2.2
def sJ4 (l:List Int) (k n m:Nat):Nat:=(kiR l (sV l k n) (sJ3 l k n m) m).2.2
def sKU (l:List Int) (k n m:Nat):List Rat:=knX l (sU l k n) (sJ2 l k) m
def sKV (l:List Int) (k n m:Nat):List Rat:=knX l (sV l k n) (sJ3 l k n m) m
def sWd (l:List Int) (k n m:Nat):Bool:=decide (nxV l (sJ4 l k n m) 3=2)
def sA (l:List Int) (k n m:Nat):Nat:=sU l k n+1+kiN l (sJ2 l k) m
def sB (l:List Int) (k n m:Nat):Nat:=sV l k n+1+kiN l (sJ3 l k n m) m
def sR (l:List Int) (k n m:Nat):List (List PoR):=ssV l (sWd l k n m) (sB l k n m) 0 (sA l k n m) (nxK l (sJ4 l k n m))
def sE (l:List Int) (k n m:Nat):Nat:=ssK l (sB l k n m) (sA l k n m) (nxK l (sJ4 l k n m))
structure sIn (l:List Int) (k n m:Nat):Prop where
 u1:1≤sU l k n
 un:sU l k n≤n
 ue:(sU l k n:Int)=1+nxV l k (n:Int)
 v1:1≤sV l k n
 vn:sV l k n≤n
 ve:(sV l k n:Int)=1+nxV l (nxK l k) (n:Int)
 j1:nxK l k≤500
 j2:sJ2 l k≤500
 j3:sJ3 l k n m≤500
 j4:sJ4 l k n m≤500
 j5:nxK l (sJ4 l k n m)≤500
 ku:kOK (sKU l k n m) (sU l k n)
 kv:kOK (sKV l k n m) (sV l k n)
 lu:(sKU l k n m).length=sU l k n+1+sA l k n m
 lv:(sKV l k n m).length=sV l k n+1+sB l k n m
 a8:sA l k n m≤9
 b8:sB l k n m≤9
 rl:(sR l k n m).length=sA l k n m
 rk:∀ r∈sR l k n m,r.length=sB l k n m∧∀ q∈r,okP 4 q
theorem s_in (l:List Int) {k n m:Nat} (hl:l.length≤500) (hk:k≤500) (hn:0<n) (hn6:n≤6) (hm:m≤2):sIn l k n m:=by
 obtain⟨u1,un,ue⟩:=cD_in l k hn
 obtain⟨v1,vn,ve⟩:=cD_in l (nxK l k) hn
 have j1:=nxK_le (l:=l) hl hk
 have j2:sJ2 l k≤500:=nxK_le (l:=l) hl j1
 obtain⟨ku,lu,j3⟩:=knX_in l (d:=sU l k n) (m:=m) hl j2 u1 (Nat.le_trans un hn6) hm
 have j3:sJ3 l k n m≤500:=j3
 obtain⟨kv,lv,j4⟩:=knX_in l (k:=sJ3 l k n m) (d:=sV l k n) (m:=m) hl j3 v1 (Nat.le_trans vn hn6) hm
 have n1:=(kiN_in l (sJ2 l k) m).2
 have n2:=(kiN_in l (sJ3 l k n m) m).2
 have ha:sA l k n m≤9:=by unfold sA;have:sU l k n≤n:=un;omega
 have hb:sB l k n m≤9:=by unfold sB;have:sV l k n≤n:=vn;omega
 exact⟨u1,un,ue,v1,vn,ve,j1,j2,j3,j4,nxK_le hl j4,ku,kv,by unfold sKU sA;omega,by unfold sKV sB;omega,ha,hb,ssV_len ..,ssV_ok l _ (by omega) _ _ _ (by omega)⟩
theorem dp_ok (l:List Int) (q:Nat):okP 1 (dpV l q):=⟨d3_rl l q,dw_rl _ _,dw_pos _ _⟩
theorem gp_sz {x y z:Rat} {i j:Nat} (h1:rl x≤1) (h2:rl y≤1) (h3:rl z≤1) (hi:i≤100) (hj:j≤100) :
  rl (((1:Int):Rat)/((8:Int):Rat))=1∧rl (((1:Int):Rat)/((4:Int):Rat))=1∧rl ((2*(i:Int):Int):Rat)+rl (x*(((1:Int):Rat)/((8:Int):Rat)))≤4∧rl ((2*(j:Int):Int):Rat)+rl (y*(((1:Int):Rat)/((8:Int):Rat)))≤4∧rl (z*(((1:Int):Rat)/((4:Int):Rat)))≤4:=by
 have e8:rl (((1:Int):Rat)/((8:Int):Rat))=1:=by decide +kernel
 have e4:rl (((1:Int):Rat)/((4:Int):Rat))=1:=by decide +kernel
 have a1:rl ((2*(i:Int):Int):Rat)≤1:=rl_int (by omega)
 have a2:rl ((2*(j:Int):Int):Rat)≤1:=rl_int (by omega)
 have m1:=rl_mul x (((1:Int):Rat)/((8:Int):Rat))
 have m2:=rl_mul y (((1:Int):Rat)/((8:Int):Rat))
 have m3:=rl_mul z (((1:Int):Rat)/((4:Int):Rat))
 exact⟨e8,e4,by omega,by omega,by omega⟩
namespace H_c_DSurface
theorem zSm {p q:Prop} (k:q) (e:p=q:=by simp only [e1,e2,e3,e4,p1,p2,p3,q1,q2,q3,l1,t0,t1,r1,r2,r3,r4,Nat.zero_add,Nat.reduceMul,Nat.reduceAdd,b1,b2,b3,b4,b5,b6,i1,i2,i3,i4,i5,i6,Nat.reduceBEq,l1,etk,egp,egq,frz_nil,hlu,hlv,prL_kill,kills_map prE,List.length_map,take_map_len,map_snoc,len_snoc,List.length_cons,List.length_nil,List.length_map,List.set_cons_zero,List.set_cons_succ,Nat.reduceEqDiff,reduceIte,if_true,if_false,ptL_kill,poL_kill,kills_map poE,kills_map ratE,ratL_kill,spL_kill,LV.kill,kills,dice_kill];exact rfl):p:=e.mpr k
end H_c_DSurface
open H_c_DSurface in
theorem c_DSurface (l:List Int) (k:Nat) (hl:l.length≤500) (n:Nat) (hn:0<n) (hn6:n≤6) (m:Nat) (hm:m≤2) (hk:k≤500):CallOKM Tryz.prog 11 ⟨2,[diceL l k],true⟩ [.eptr 0 2 0 0,nI64 n,nI64 m] (.agg [nI64 (sU l k n),nI64 (sV l k n),.list 3 ((sKU l k n m).map ratL),.list 3 ((sKV l k n m).map ratL),.list 1 ((sR l k n m).map prL)]) ⟨2,[diceL l (sE l k n m)],true⟩:=by
 have hS:=s_in l hl hk hn hn6 hm
 have hu1:=hS.u1
 have hun:=hS.un
 have hv1:=hS.v1
 have hvn:=hS.vn
 have hj1:=hS.j1
 have hj2:=hS.j2
 have hj3:=hS.j3
 have hj4:=hS.j4
 have hj5:=hS.j5
 have hlu:=hS.lu
 have hlv:=hS.lv
 have ha8:=hS.a8
 have hb8:=hS.b8
 have hb:=nxV_lt (l:=l) (k:=k) (n:=(n:Int)) (by omega)
 have hb1:=nxV_lt (l:=l) (k:=nxK l k) (n:=(n:Int)) (by omega)
 have hA:binI .add .i64 1 (nxV l k (n:Int))=some (.int .i64 (((sU l k n):Nat):Int)):=by rw [hS.ue];exact add64 (by omega) (by omega)
 have hA2:binI .add .i64 1 (nxV l (nxK l k) (n:Int))=some (.int .i64 (((sV l k n):Nat):Int)):=by rw [hS.ve];exact add64 (by omega) (by omega)
 have hku:=pure_lst ratE 3 (sKU l k n m)
 have hkv:=pure_lst ratE 3 (sKV l k n m)
 refine fnM Tryz.func11 ?_
 have etk:True:=trivial
 have egp:True:=trivial
 have egq:True:=trivial
 refine zg9 ?_
 refine st_callMp 0 rfl rfl rfl (dice_pure l _) (.cons .ptr (.cons (.imm (.pure rfl)) .nil)) .ptr (c_Next l k n (by omega) (by omega) (by omega) (by omega)) rfl (dice_pure l _) rfl ?_
 refine st_pure rfl (.bin rfl rfl (hA)) ?_
 refine zg2 ?_
 refine st_callMp 0 rfl rfl rfl (dice_pure l _) (.cons .ptr (.cons (.imm (.pure rfl)) .nil)) .ptr (c_Next l (nxK l k) n (by omega) (by omega) (by omega) (by omega)) rfl (dice_pure l _) rfl ?_
 refine st_pure rfl (.bin rfl rfl (hA2)) ?_
 refine zg6 ?_
 refine wl_cut (fun L=>∃  (L1:St),(True)∧L=((((St.mk L1.slot (hp [(0,⟨2,[diceL l (sJ4 l k n m)],true⟩),(6,⟨5,[.agg [.v (.int .i64 0),.v (.int .i64 0),.v (.slice none 0 0),.v (.slice none 0 0),.v (.slice none 0 0)]],true⟩),(7,⟨5,[.agg [nI64 (sU l k n),nI64 (sV l k n),.list 3 ((sKU l k n m).map ratL),.list 3 ((sKV l k n m).map ratL),.v (.slice none 0 0)]],true⟩)])).put (some 0) (.eptr 0 2 0 0)).put (some 6) (.eptr 6 5 0 0)).put (some 7) (.eptr 7 5 0 0))) ?_ ?_
 ·refine wl_regA ?_
  refine any_hoist 0 rfl rfl (by decide +kernel) (.move _) ?_
  refine any_hoist 1 rfl rfl (by decide +kernel) faA ?_
  refine any_hoist 3 rfl rfl (by decide +kernel) (.move _) ?_
  refine any_hoist 5 rfl rfl (by decide +kernel) (.move _) ?_
  refine any_hoist 6 rfl rfl (by decide +kernel) faA ?_
  refine any_hoist 8 rfl rfl (by decide +kernel) (.move _) ?_
  refine any_2 2 7 _ _ (by decide +kernel) rfl rfl ?_ ?_
  ·refine zg1 ?_
   refine st_nil ?_
   refine any_2 4 7 _ _ (by decide +kernel) rfl rfl ?_ ?_
   ·refine st_callMp 0 rfl rfl rfl (dice_pure l _) (.cons .ptr (.cons (.imm (.pure rfl)) (.cons (.imm (.pure rfl)) .nil))) .ptr (c_DKnotsI l (sJ2 l k) (by omega) (sU l k n) (by omega) (by omega) m hm (by omega)) rfl (dice_pure l _) (pure_lst ratE 3 _) ?_
    refine st_nil ?_
    refine any_1 7 _ (by decide +kernel) rfl ?_
    refine zg1 ?_
    refine st_nil ?_
    refine any_hoist 10 rfl rfl (by decide +kernel) faA ?_
    refine any_1 9 _ (by decide +kernel) rfl ?_
    refine st_callMp 0 rfl rfl rfl (dice_pure l _) (.cons .ptr (.cons (.imm (.pure rfl)) (.cons (.imm (.pure rfl)) .nil))) .ptr (c_DKnotsI l (sJ3 l k n m) (by omega) (sV l k n) (by omega) (by omega) m hm (by omega)) rfl (dice_pure l _) (pure_lst ratE 3 _) ?_
    refine st_nil ?_
    refine any_1 11 _ (by decide +kernel) rfl ?_
    refine zg1 ?_
    refine st_nil ?_
    refine any_1 12 _ (by decide +kernel) rfl ?_
    refine zg1 ?_
    refine st_nil ?_
    refine any_1 13 _ (by decide +kernel) rfl ?_
    refine zg1 ?_
    refine st_nil ?_
    refine any_0 (by decide +kernel) ?_
    refine zg1 ?_
    exact⟨_,trivial,((put_id' (put_id' (put_id' (mk_id' cl) cl) cl) cl)).symm⟩
   ·refine zg1 ?_
    refine st_nil ?_
    refine any_1 4 _ (by decide +kernel) rfl ?_
    refine st_callMp 0 rfl rfl rfl (dice_pure l _) (.cons .ptr (.cons (.imm (.pure rfl)) (.cons (.imm (.pure rfl)) .nil))) .ptr (c_DKnotsI l (sJ2 l k) (by omega) (sU l k n) (by omega) (by omega) m hm (by omega)) rfl (dice_pure l _) (pure_lst ratE 3 _) ?_
    refine st_nil ?_
    refine any_hoist 10 rfl rfl (by decide +kernel) faA ?_
    refine any_1 9 _ (by decide +kernel) rfl ?_
    refine st_callMp 0 rfl rfl rfl (dice_pure l _) (.cons .ptr (.cons (.imm (.pure rfl)) (.cons (.imm (.pure rfl)) .nil))) .ptr (c_DKnotsI l (sJ3 l k n m) (by omega) (sV l k n) (by omega) (by omega) m hm (by omega)) rfl (dice_pure l _) (pure_lst ratE 3 _) ?_
    refine st_nil ?_
    refine any_1 11 _ (by decide +kernel) rfl ?_
    refine zg1 ?_
    refine st_nil ?_
    refine any_1 12 _ (by decide +kernel) rfl ?_
    refine zg1 ?_
    refine st_nil ?_
    refine any_1 13 _ (by decide +kernel) rfl ?_
    refine zg1 ?_
    refine st_nil ?_
    refine any_0 (by decide +kernel) ?_
    refine zg1 ?_
    exact⟨_,trivial,((put_id' (put_id' (put_id' (mk_id' cl) cl) cl) cl)).symm⟩
  ·refine zg1 ?_
   refine st_nil ?_
   refine any_1 2 _ (by decide +kernel) rfl ?_
   refine zg1 ?_
   refine st_nil ?_
   refine any_1 4 _ (by decide +kernel) rfl ?_
   refine st_callMp 0 rfl rfl rfl (dice_pure l _) (.cons .ptr (.cons (.imm (.pure rfl)) (.cons (.imm (.pure rfl)) .nil))) .ptr (c_DKnotsI l (sJ2 l k) (by omega) (sU l k n) (by omega) (by omega) m hm (by omega)) rfl (dice_pure l _) (pure_lst ratE 3 _) ?_
   refine st_nil ?_
   refine any_hoist 10 rfl rfl (by decide +kernel) faA ?_
   refine any_1 9 _ (by decide +kernel) rfl ?_
   refine st_callMp 0 rfl rfl rfl (dice_pure l _) (.cons .ptr (.cons (.imm (.pure rfl)) (.cons (.imm (.pure rfl)) .nil))) .ptr (c_DKnotsI l (sJ3 l k n m) (by omega) (sV l k n) (by omega) (by omega) m hm (by omega)) rfl (dice_pure l _) (pure_lst ratE 3 _) ?_
   refine st_nil ?_
   refine any_1 11 _ (by decide +kernel) rfl ?_
   refine zg1 ?_
   refine st_nil ?_
   refine any_1 12 _ (by decide +kernel) rfl ?_
   refine zg1 ?_
   refine st_nil ?_
   refine any_1 13 _ (by decide +kernel) rfl ?_
   refine zg1 ?_
   refine st_nil ?_
   refine any_0 (by decide +kernel) ?_
   refine zg1 ?_
   exact⟨_,trivial,((put_id' (put_id' (put_id' (mk_id' cl) cl) cl) cl)).symm⟩
 ·rintro _ ⟨LR2,-,rfl⟩
  refine zg4 ?_
  refine st_callMp 0 rfl rfl rfl (dice_pure l _) (.cons .ptr (.cons (.imm (.pure rfl)) .nil)) .ptr (c_Next l (sJ4 l k n m) 3 (by omega) (by omega) (by omega) (by omega)) rfl (dice_pure l _) rfl ?_
  refine zg11 ?_
  refine wl_weak ((Weak.cell 7 rfl (fun Z μ w cs h=>rep_srf 100 1 _ _ _ _ Z μ w cs h)).trans (Weak.newB _ 100 1 rfl)) ?_
  refine lp4 (fun(i p c:Nat) (o:List (List PoR)) L=>((((((St.mk L.slot (hp [(0,⟨2,[diceL l p],true⟩),(6,⟨5,[.agg [.v (.int .i64 0),.v (.int .i64 0),.v (.slice none 0 0),.v (.slice none 0 0),.v (.slice none 0 0)]],true⟩),(7,⟨5,[.agg [nI64 (sU l k n),nI64 (sV l k n),.list 3 ((sKU l k n m).map ratL),.list 3 ((sKV l k n m).map ratL),.ref 100 1 0 i]],true⟩),(100,⟨1,o.map prL,true⟩)])).put (some 0) (.eptr 0 2 0 0)).put (some 6) (.eptr 6 5 0 0)).put (some 7) (.eptr 7 5 0 0)).put (some 8) (bL (sWd l k n m))).put (some 9) (nI64 i))) (fun i p c o=>p≤500∧o.length=i∧i+c=(sA l k n m)∧o++ssV l (sWd l k n m) (sB l k n m) i c p=sR l k n m∧ssK l (sB l k n m) c p=sE l k n m) (fun i p c o=>c) 0 (nxK l (sJ4 l k n m)) (sA l k n m) ([]) ⟨hj5,rfl,by simp,rfl,rfl⟩ ?_
  rintro i p c o L1 ⟨hp5,hol,hic,hR,hE⟩
  refine zg9 ?_
  refine st_pure rfl (.bin rfl rfl (sub64 (by omega) (by omega))) ?_
  refine st_pure rfl (.bin rfl rfl (sub64 (by omega) (by omega))) ?_
  refine zg3 ?_
  refine wl_if rfl (fun h45r h45=>?_) (fun h45r h45=>?_)
  ·have etk:(o.map prL).take i=o.map prL:=List.take_of_length_le (by simp;omega)
   obtain⟨e,rfl⟩:∃ e,c=e+1:=⟨c-1,by omega⟩
   refine zg16 ?_
   refine wl_weak (Weak.own (t:=10) 95 12 rfl rfl) ?_
   refine lp3 (fun(d q:Nat) (r:List PoR) L=>((((((((St.mk L.slot (hp [(0,⟨2,[diceL l q],true⟩),(6,⟨5,[.agg [.v (.int .i64 0),.v (.int .i64 0),.v (.slice none 0 0),.v (.slice none 0 0),.v (.slice none 0 0)]],true⟩),(7,⟨5,[.agg [nI64 (sU l k n),nI64 (sV l k n),.list 3 ((sKU l k n m).map ratL),.list 3 ((sKV l k n m).map ratL),.ref 100 1 0 i]],true⟩),(100,⟨1,o.map prL,true⟩),(95,⟨12,r.map poL,true⟩)])).put (some 0) (.eptr 0 2 0 0)).put (some 6) (.eptr 6 5 0 0)).put (some 7) (.eptr 7 5 0 0)).put (some 8) (bL (sWd l k n m))).put (some 9) (nI64 i)).put (some 10) (.ref 95 12 0 r.length)).put (some 11) (nI64 r.length))) (fun d q r=>q≤500∧r.length+d=(sB l k n m)∧r++srV l (sWd l k n m) i r.length d q=srV l (sWd l k n m) i 0 (sB l k n m) p∧dqK l q d=dqK l p (sB l k n m)) (fun d q r=>d) (sB l k n m) p ([]) ⟨hp5,by simp,rfl,rfl⟩ ?_
   rintro d q r L2 ⟨hq5,hrl,hV,hK⟩
   refine zg9 ?_
   refine st_pure rfl (.bin rfl rfl (sub64 (by omega) (by omega))) ?_
   refine st_pure rfl (.bin rfl rfl (sub64 (by omega) (by omega))) ?_
   refine zg3 ?_
   refine wl_if rfl (fun h56r h56=>?_) (fun h56r h56=>?_)
   ·obtain⟨f,rfl⟩:∃ f,d=f+1:=⟨d-1,by omega⟩
    obtain⟨⟨hx1,hx2,hx3⟩,hx4,_⟩:=dp_ok l q
    obtain⟨hz1,hz2,hz3,hz4,hz5⟩:=gp_sz (i:=i) (j:=r.length) hx1 hx2 hx3 (by omega) (by omega)
    skip
    refine zg7 ?_
    refine st_callMp 0 rfl rfl rfl (dice_pure l _) (.cons .ptr (.cons (.imm (.pure rfl)) .nil)) .ptr (c_Dpole l q (by omega) (by omega)) rfl (dice_pure l _) (poE.pure _) ?_
    refine zg11 ?_
    refine wl_if rfl (fun h62r h62=>?_) (fun h62r h62=>?_)
    ·have hwd:(sWd l k n m)=false:=by simpa using h62
     have egp:LV.agg [.agg [ratL (((2*(i:Int):Int):Rat)+(dpV l q).p.x*(((1:Int):Rat)/((8:Int):Rat))),ratL (((2*(r.length:Int):Int):Rat)+(dpV l q).p.y*(((1:Int):Rat)/((8:Int):Rat))),ratL ((dpV l q).p.z*(((1:Int):Rat)/((4:Int):Rat)))],ratL (dpV l q).w]=poL (gpV (sWd l k n m) i r.length (dpV l q)):=by unfold gpV;rw [hwd];rfl
     refine zg1 ?_
     refine wl_regD 11 (by decide +kernel) ?_
     refine zg1 ?_
     refine st_pure rfl (.bin rfl rfl (mul64 (by omega) (by omega))) ?_
     refine cp am1 (c_FInt (2*(i:Int)) (by omega) (by omega)) ?_
     refine zg3 ?_
     refine cp am2 (c_FFrac 1 8 (by decide) (by decide) (by decide) (by decide) (by decide)) ?_
     refine cp am2 (c_FRMul (dpV l q).p.x _ (by omega)) ?_
     refine cp am2 (c_FRAdd _ _ (by omega)) ?_
     refine zg6 ?_
     refine wl_regD 11 (by decide +kernel) ?_
     refine zg1 ?_
     refine st_pure rfl (.bin rfl rfl (mul64 (by omega) (by omega))) ?_
     refine cp am1 (c_FInt (2*(r.length:Int)) (by omega) (by omega)) ?_
     refine zg3 ?_
     refine cp am2 (c_FFrac 1 8 (by decide) (by decide) (by decide) (by decide) (by decide)) ?_
     refine cp am2 (c_FRMul (dpV l q).p.y _ (by omega)) ?_
     refine cp am2 (c_FRAdd _ _ (by omega)) ?_
     refine zg5 ?_
     refine wl_regD 7 (by decide +kernel) ?_
     refine zg3 ?_
     refine cp am2 (c_FFrac 1 4 (by decide) (by decide) (by decide) (by decide) (by decide)) ?_
     refine cp am2 (c_FRMul (dpV l q).p.z _ (by omega)) ?_
     refine zg9 ?_
     first | refine st_store rfl (.appX (d:=95) (news:=[poL (gpV (sWd l k n m) i r.length (dpV l q))]) rfl rfl rfl rfl (by simp) (.inl rfl) (by decide) Tryz.underlying60 Tryz.underlying60 Z62 T62 cs B62 (.inl ⟨94,0,_,rfl,by decide,rfl,rfl,by simp,rfl,by simp [pures,poE.pure]⟩) (by simp;omega) (by simp;omega) (by decide)) ?_ | refine st_store rfl (.appX (d:=95) (news:=[poL (dpV l q)]) rfl rfl rfl rfl (by simp) (.inl rfl) (by decide) Tryz.underlying60 Tryz.underlying60 Z62 T62 cs B62 (.inl ⟨94,0,_,rfl,by decide,rfl,rfl,by simp,rfl,by simp [pures,poE.pure]⟩) (by simp;omega) (by simp;omega) (by decide)) ?_
     refine zg4 ?_
     refine wl_regW ((Weak.kill _ 94).trans (Weak.kill _ 12)) ?_
     refine zg1 ?_
     refine st_pure rfl (.bin rfl rfl (add1N (by omega))) ?_
     refine zg3 ?_
     exact nx3 f (dpK l q) (r++[gpV (sWd l k n m) i r.length (dpV l q)]) ⟨dpK_le hl hq5,by simp;omega,by rw [List.append_assoc,len_snoc];exact hV,hK⟩
    ·have hwd:(sWd l k n m)=true:=by simpa using h62
     have egq:r++[(dpV l q)]=r++[(gpV (sWd l k n m) i r.length (dpV l q))]:=by unfold gpV;rw [hwd];rfl
     refine zg6 ?_
     first | refine st_store rfl (.appX (d:=95) (news:=[poL (gpV (sWd l k n m) i r.length (dpV l q))]) rfl rfl rfl rfl (by simp) (.inl rfl) (by decide) Tryz.underlying60 Tryz.underlying60 Z62 T62 cs B62 (.inl ⟨94,0,_,rfl,by decide,rfl,rfl,by simp,rfl,by simp [pures,poE.pure]⟩) (by simp;omega) (by simp;omega) (by decide)) ?_ | refine st_store rfl (.appX (d:=95) (news:=[poL (dpV l q)]) rfl rfl rfl rfl (by simp) (.inl rfl) (by decide) Tryz.underlying60 Tryz.underlying60 Z62 T62 cs B62 (.inl ⟨94,0,_,rfl,by decide,rfl,rfl,by simp,rfl,by simp [pures,poE.pure]⟩) (by simp;omega) (by simp;omega) (by decide)) ?_
     refine zg4 ?_
     refine wl_regW ((Weak.kill _ 94).trans (Weak.kill _ 12)) ?_
     refine zg1 ?_
     refine st_pure rfl (.bin rfl rfl (add1N (by omega))) ?_
     refine zg3 ?_
     exact nx3 f (dpK l q) (r++[gpV (sWd l k n m) i r.length (dpV l q)]) ⟨dpK_le hl hq5,by simp;omega,by rw [List.append_assoc,len_snoc];exact hV,hK⟩
   ·obtain rfl:d=0:=by omega
    rw [srV,List.append_nil] at hV
    rw [dqK] at hK
    subst hV hK
    refine zg5 ?_
    refine wl_regW (Weak.hand (t:=10) (b:=95) poE rfl rfl rfl) ?_
    refine zg4 ?_
    refine st_store rfl (.appX (d:=100) (news:=[prL (srV l (sWd l k n m) i 0 (sB l k n m) p)]) rfl rfl rfl rfl (by simp [kills_map prE];omega) (.inl rfl) (by decide) Tryz.underlying37 Tryz.underlying37 prZ T60 cs B60 (.inl ⟨99,0,_,rfl,by decide,rfl,rfl,by simp,rfl,by simp [pures,prE.pure]⟩) (by simp [kills_map prE];omega) (by simp [kills_map prE];omega) (by decide)) ?_
    refine zg5 ?_
    refine wl_regW (Weak.kill _ 99) ?_
    refine zg1 ?_
    refine st_pure rfl (.bin rfl rfl (add1N (by omega))) ?_
    refine zg3 ?_
    exact nx4 (i+1) (dqK l p (sB l k n m)) e (o++[srV l (sWd l k n m) i 0 (sB l k n m) p]) ⟨dqK_le hl _ _ hp5,by simp;omega,by omega,by rw [List.append_assoc];exact hR,hE⟩
  ·obtain rfl:c=0:=by omega
   rw [ssV,List.append_nil] at hR
   rw [ssK] at hE
   subst hol
   refine zg12 ?_
   rw [←hR,←hE]
   exact retMCf [100] rfl rfl rfl rfl rfl T39 (.agg (.cons (.pure rfl) (.cons (.pure rfl) (.cons (.pure hku) (.cons (.pure hkv) (.cons (imm_refm prE rfl rfl rfl) .nil)))))) rfl rfl (dice_pure l _)
theorem net_pure (u v:Int) (c:List Rat):LV.pure (.agg [iL u,iL v,.list 3 (c.map ratL)])=true:=by simp [LV.pure,pures,pures_map ratE]
theorem net_pureN (u v:Nat) (c:List Rat):LV.pure (.agg [nI64 u,nI64 v,.list 3 (c.map ratL)])=true:=net_pure u v c
theorem mulE {a b n:Nat} (h:a*b=n) (hn:n≤9223372036854775807):binI .mul .i64 (a:Nat) (b:Nat)=some (.int .i64 (n:Nat)):=by
 rw [mul64 (by rw [←Int.natCast_mul,h];omega) (by rw [←Int.natCast_mul,h];omega),←Int.natCast_mul,h]
def gL (n:Nat) (W:Nat→Rat):List Rat:=(List.range n).map W
theorem gL_len (n:Nat) (W:Nat→Rat):(gL n W).length=n:=by simp [gL]
theorem gL_succ (n:Nat) (W:Nat→Rat):gL (n+1) W=gL n W++[W n]:=by simp [gL,List.range_succ]
theorem gL_get {n:Nat} {W:Nat→Rat} {x:Nat} (h:x<n):(gL n W).getD x 0=W x:=by
 rw [List.getD_eq_getElem?_getD,List.getElem?_eq_getElem (by rw [gL_len];exact h)];simp [gL]
theorem take_gL (n:Nat) (W:Nat→Rat) (f:Rat→LV):((gL n W).map f).take n=(gL n W).map f:=by rw [List.take_of_length_le (by simp [gL_len])]
theorem ix_div {V i j:Nat} (h:j≤V):(i*(V+1)+j)/(V+1)=i:=by
 rw [Nat.add_comm,Nat.add_mul_div_right _ _ (Nat.succ_pos V),Nat.div_eq_of_lt (by omega),Nat.zero_add]
theorem ix_mod {V i j:Nat} (h:j≤V):(i*(V+1)+j) % (V+1)=j:=by
 rw [Nat.add_comm,Nat.add_mul_mod_self_right,Nat.mod_eq_of_lt (by omega)]
theorem ix_lt {U V i j:Nat} (hi:i≤U) (hj:j≤V):i*(V+1)+j<(U+1)*(V+1):=by
 have:=Nat.mul_le_mul_right (V+1) (show i+1≤U+1 by omega)
 rw [Nat.succ_mul] at this
 omega
theorem chsR_rl {n:Nat} (k:Nat) (hn:n≤40):rl (((chs n k:Nat):Int):Rat)≤2:=by
 rcases Nat.lt_or_ge n k with h | h
 ·rw [chs_gt h];decide
 ·have h1:=chR_rl hn _ (getD_mem (i:=k) (by rw [chR_len];omega))
  rw [chR_get h] at h1;exact h1
def wtV (U V:Nat) (c:List Rat) (x:Nat):Rat:=((chs U (x/(V+1)):Nat):Int)*((chs V (x % (V+1)):Nat):Int)*c.getD x 0
def swV (U V:Nat) (c:List Rat) (x:Nat):Rat:=c.getD (x % (U+1)*(V+1)+x/(U+1)) 0
def wtL (U V:Nat) (c:List Rat):List Rat:=gL ((U+1)*(V+1)) (wtV U V c)
def swL (U V:Nat) (c:List Rat):List Rat:=gL ((V+1)*(U+1)) (swV U V c)
theorem wt_rl {U V:Nat} {c:List Rat} {R:Nat} (hU:U≤40) (hV:V≤40) (hR:1≤R) (h:∀ x∈c,rl x≤R):∀ x∈wtL U V c,rl x≤R+6:=by
 intro x hx
 obtain⟨i,_,rfl⟩:=List.mem_map.1 hx
 have h1:=chsR_rl (n:=U) (i/(V+1)) hU
 have h2:=chsR_rl (n:=V) (i % (V+1)) hV
 have h3:=getD_rl hR h i
 have h4:=rl_mul (((chs U (i/(V+1)):Nat):Int):Rat) (((chs V (i % (V+1)):Nat):Int):Rat)
 have h5:=rl_mul ((((chs U (i/(V+1)):Nat):Int):Rat)*(((chs V (i % (V+1)):Nat):Int):Rat)) (c.getD i 0)
 show rl (wtV U V c i)≤_
 unfold wtV
 omega
theorem set_gd {W:Nat→Rat} {o:List Rat} {m:Nat} {v:Rat} (h:m<o.length) (hv:v=W m):(gL m W++o.drop m).set m v=gL (m+1) W++o.drop (m+1):=by
 subst hv
 rw [List.drop_eq_getElem_cons h,set_mid _ _ _ _ (gL_len m W).symm,gL_succ,List.append_assoc];rfl
theorem get_gd {W:Nat→Rat} {o:List Rat} {m:Nat}:(gL m W++o.drop m).getD m 0=o.getD m 0:=by
 rw [getD_app2 _ _ _ (by rw [gL_len];exact Nat.le_refl _),gL_len,Nat.sub_self,getD_dropR,Nat.add_zero]
section
variable (V1 V2 W U2:Nat) (x y:List Rat) (i j k:Nat)
def mL:Nat→List Rat→List Rat
 | 0,o=>o
 | l+1,o=>(mL l o).set ((i+k)*(W+1)+j+l) ((mL l o).getD ((i+k)*(W+1)+j+l) 0+x.getD (i*(V1+1)+j) 0*y.getD (k*(V2+1)+l) 0)
def mK:Nat→List Rat→List Rat
 | 0,o=>o
 | k+1,o=>mL V1 V2 W x y i j k (V2+1) (mK k o)
def mJ:Nat→List Rat→List Rat
 | 0,o=>o
 | j+1,o=>mK V1 V2 W x y i j (U2+1) (mJ j o)
def mI:Nat→List Rat→List Rat
 | 0,o=>o
 | i+1,o=>mJ V1 V2 W U2 x y i (V1+1) (mI i o)
end
def mTop (U1 V1 U2 V2:Nat) (a b:List Rat):List Rat:=mI V1 V2 (V1+V2) U2 (wtL U1 V1 a) (wtL U2 V2 b) (U1+1) (List.replicate ((U1+U2+1)*(V1+V2+1)) 0)
def dvV (U V:Nat) (o:List Rat) (x:Nat):Rat:=o.getD x 0/((((chs U (x/(V+1)):Nat):Int):Rat)*(((chs V (x % (V+1)):Nat):Int):Rat))
def tmL (U1 V1 U2 V2:Nat) (a b:List Rat):List Rat:=gL ((U1+U2+1)*(V1+V2+1)) (dvV (U1+U2) (V1+V2) (mTop U1 V1 U2 V2 a b))
namespace H_c_choose7
theorem zSm {p q:Prop} (k:q) (e:p=q:=by simp only [e1,e2,e3,e4,p1,p2,p3,q1,q2,q3,l1,t0,t1,r1,r2,r3,r4,Nat.zero_add,Nat.reduceMul,Nat.reduceAdd,b1,b2,b3,b4,b5,b6,i1,i2,i3,i4,i5,i6,Nat.reduceBEq,dfi,rtake,List.append_nil,rowI_len,ek1,ek2,egr,take_map_len,map_snoc,len_snoc,List.length_cons,List.length_nil,kills_map i64E,kills_map ratE,LV.kill,kills];exact rfl):p:=e.mpr k
end H_c_choose7
open H_c_choose7 in
theorem c_choose7 (n:Nat) (hn:n≤40):CallP Tryz.prog 266 [nI64 n] (.list 1 ((rowI n).map i64L)):=by
 refine fnP Tryz.func266 (ht:=(fun g=>LV.ren_pure g _ (pure_lst i64E _ _))) ?_
 have ek1:True:=trivial
 have ek2:True:=trivial
 have egr:True:=trivial
 refine zg19 ?_
 refine wl_weak (Weak.mv (t:=3) (b:=5) 11 (by decide) (by decide) (by decide) rfl rfl rfl) ?_
 refine lp1 (fun(k:Nat) L=>((((St.mk L.slot (hp [(11,⟨1,(rowI k).map i64L,true⟩)])).put (some 3) (.ref 11 1 0 (k+1))).put (some 6) (nI64 n)).put (some 7) (nI64 k))) (fun k=>k≤n) (fun k=>n-k) 0 (Nat.zero_le _) ?_
 rintro k L1 hk
 refine zg6 ?_
 refine wl_if rfl (fun h8r h8=>?_) (fun h8r h8=>?_)
 ·have hkn:k<n:=by omega
  have ek2:((((k+1+1:Nat)):Int)-2)=(k:Int):=by omega
  refine zg8 ?_
  refine st_store rfl (.app (news:=[i64L 1]) rfl rfl rfl rfl rfl (by simp [rowI_len]) (.inl rfl) (by decide) Tryz.underlying239 Tryz.underlying239 Z2 T2 rfl B2 (.inl ⟨10,0,_,rfl,by decide,rfl,rfl,by simp,rfl,rfl⟩) (by simp;omega) (by simp;omega) (by decide)) ?_
  refine zg4 ?_
  refine wl_regW (Weak.kill _ 10) ?_
  refine zg7 ?_
  refine lp2 (fun(i:Nat) (o:List Int) L=>(((((St.mk L.slot (hp [(11,⟨1,o.map i64L,true⟩)])).put (some 3) (.ref 11 1 0 (k+1+1))).put (some 4) (nI64 i)).put (some 6) (nI64 n)).put (some 7) (nI64 k))) (fun i o=>i≤k∧PasC k i o) (fun i o=>i) k (rowI k++[1]) ⟨Nat.le_refl _,pas_init k⟩ ?_
  rintro i o L2 ⟨hi,hP⟩
  refine zg7 ?_
  refine wl_if rfl (fun h16r h16=>?_) (fun h16r h16=>?_)
  ·obtain⟨j,rfl⟩:∃ j,i=j+1:=⟨i-1,by omega⟩
   have ek1:(((j+1:Nat):Int)-1)=(j:Int):=by omega
   have hol:=hP.1
   have hb1:=pas_bd hP (by omega) (x:=j+1) (by omega)
   have hb2:=pas_bd hP (by omega) (x:=j) (by omega)
   refine zg4 ?_
   refine wl_regD 11 (by decide +kernel) ?_
   refine zg21 ?_
   exact nx2 j (o.set (j+1) (o.getD (j+1) 0+o.getD j 0)) ⟨by omega,pas_step hP hi⟩
  ·obtain rfl:i=0:=by omega
   have hE:=pas_end hP
   subst hE
   refine zg11 ?_
   exact nx1 (k+1) (by omega)
 ·obtain rfl:n=k:=by omega
  refine zg12 ?_
  exact ret1f [11] rfl rfl (imm_refm i64E rfl rfl (by rw [rowI_len]))
open H0 in
theorem c_shaped (U V:Nat) (c:List Rat) (hc:c.length=(U+1)*(V+1)) (hl:c.length≤1048576):CallP Tryz.prog 212 [.agg [nI64 U,nI64 V,.list 3 (c.map ratL)]] (bL true):=by
 have hU:U+1≤c.length:=by rw [hc];exact Nat.le_mul_of_pos_right _ (Nat.succ_pos V)
 have hV:V+1≤c.length:=by rw [hc];exact Nat.le_mul_of_pos_left _ (Nat.succ_pos U)
 have hnp:=net_pureN U V c
 refine fnP Tryz.func212 ?_
 refine zg12 ?_
 refine st_pure (guardX (v:=true) rfl rfl ((decide_eq_true (by omega))) rfl) faA ?_
 refine st_pure (guardX (v:=true) rfl rfl ((decide_eq_true (by omega))) rfl) ldA ?_
 refine st_pure (guardX (v:=true) rfl rfl ((decide_eq_true (by omega))) rfl) (.bin rfl rfl rfl) ?_
 refine st_pure rfl (.pickT rfl ((decide_eq_true (by omega)))) ?_
 refine zg1 ?_
 refine st_pure (guardX (v:=true) rfl rfl ((decide_eq_true (by omega))) rfl) faA ?_
 refine st_pure (guardX (v:=true) rfl rfl ((decide_eq_true (by omega))) rfl) ldA ?_
 refine st_pure (guardX (v:=true) rfl rfl ((decide_eq_true (by omega))) rfl) faA ?_
 refine st_pure (guardX (v:=true) rfl rfl ((decide_eq_true (by omega))) rfl) ldA ?_
 refine st_pure (guardX (v:=true) rfl rfl ((decide_eq_true (by omega))) rfl) lnA ?_
 refine st_pure (guardX (v:=true) rfl rfl ((decide_eq_true (by omega))) rfl) (.bin rfl rfl rfl) ?_
 refine st_pure rfl (.pickT rfl ((decide_eq_true (by omega)))) ?_
 refine zg1 ?_
 refine st_pure (guardX (v:=true) rfl rfl ((decide_eq_true (by omega))) rfl) faA ?_
 refine st_pure (guardX (v:=true) rfl rfl ((decide_eq_true (by omega))) rfl) ldA ?_
 refine st_pure (guardX (v:=true) rfl rfl ((decide_eq_true (by omega))) rfl) faA ?_
 refine st_pure (guardX (v:=true) rfl rfl ((decide_eq_true (by omega))) rfl) ldA ?_
 refine st_pure (guardX (v:=true) rfl rfl ((decide_eq_true (by omega))) rfl) lnA ?_
 refine st_pure (guardX (v:=true) rfl rfl ((decide_eq_true (by omega))) rfl) (.bin rfl rfl rfl) ?_
 refine st_pure rfl (.pickT rfl ((decide_eq_true (by omega)))) ?_
 refine zg1 ?_
 refine st_pure (guardX (v:=true) rfl rfl ((decide_eq_true (by omega))) rfl) faA ?_
 refine st_pure (guardX (v:=true) rfl rfl ((decide_eq_true (by omega))) rfl) ldA ?_
 refine st_pure (guardX (v:=true) rfl rfl ((decide_eq_true (by omega))) rfl) lnA ?_
 refine st_pure (guardX (v:=true) rfl rfl ((decide_eq_true (by omega))) rfl) faA ?_
 refine st_pure (guardX (v:=true) rfl rfl ((decide_eq_true (by omega))) rfl) ldA ?_
 refine st_pure (guardX (v:=true) rfl rfl ((decide_eq_true (by omega))) rfl) (.bin rfl rfl (add1N (by omega))) ?_
 refine st_pure (guardX (v:=true) rfl rfl ((decide_eq_true (by omega))) rfl) faA ?_
 refine st_pure (guardX (v:=true) rfl rfl ((decide_eq_true (by omega))) rfl) ldA ?_
 refine st_pure (guardX (v:=true) rfl rfl ((decide_eq_true (by omega))) rfl) (.bin rfl rfl (add1N (by omega))) ?_
 refine st_pure (guardX (v:=true) rfl rfl ((decide_eq_true (by omega))) rfl) (.bin rfl rfl (mulE hc.symm (by omega))) ?_
 refine st_pure (guardX (v:=true) rfl rfl ((decide_eq_true (by omega))) rfl) (.bin rfl rfl rfl) ?_
 refine st_pure rfl (.pickT rfl ((decide_eq_true (by omega)))) ?_
 refine zg4 ?_
 refine ret1 (x:=.v (.bool (((c.length:Nat):Int)==((c.length:Nat):Int)))) rfl ?_
 rw [beq_self_eq_true]
 exact .pure rfl
namespace H_c_weighted
theorem zSm {p q:Prop} (k:q) (e:p=q:=by simp only [e1,e2,e3,e4,p1,p2,p3,q1,q2,q3,l1,t0,t1,r1,r2,r3,r4,Nat.zero_add,Nat.reduceMul,Nat.reduceAdd,b1,b2,b3,b4,b5,b6,i1,i2,i3,i4,i5,i6,Nat.reduceBEq,dfq,dfi,rowI_len,egu,egv,ewn,Nat.add_zero,take_gL,take_map_len,map_snoc,len_snoc,List.length_cons,List.length_nil,kills_map i64E,kills_map ratE,ratL_kill,spL_kill,LV.kill,kills];exact rfl):p:=e.mpr k
end H_c_weighted
open H_c_weighted in
theorem c_weighted (U V:Nat) (c:List Rat) (hc:c.length=(U+1)*(V+1)) (hl:c.length≤1048576) (hU4:U≤40) (hV4:V≤40) (R:Nat) (hR1:1≤R) (hR:R≤1073741824) (hcR:∀ x∈c,rl x≤R):CallP Tryz.prog 265 [.agg [nI64 U,nI64 V,.list 3 (c.map ratL)]] (.list 3 ((wtL U V c).map ratL)):=by
 have hU:U+1≤c.length:=by rw [hc];exact Nat.le_mul_of_pos_right _ (Nat.succ_pos V)
 have hV:V+1≤c.length:=by rw [hc];exact Nat.le_mul_of_pos_left _ (Nat.succ_pos U)
 have hnp:=net_pureN U V c
 refine fnP Tryz.func265 ?_
 have egu:True:=trivial
 have egv:True:=trivial
 have ewn:True:=trivial
 refine zg15 ?_
 refine cp am1 (c_choose7 V hV4) ?_
 refine zg8 ?_
 refine cp am1 (c_choose7 U hU4) ?_
 refine zg5 ?_
 refine wl_weak (Weak.own (t:=3) 47 3 rfl rfl) ?_
 refine lp2 (fun(i m:Nat) L=>(((((((St.mk L.slot (hp [(1,⟨3,[.agg [nI64 U,nI64 V,.list 3 (c.map ratL)]],true⟩),(47,⟨3,(gL m (wtV U V c)).map ratL,true⟩)])).put (some 1) (.eptr 1 3 0 0)).put (some 4) (.list 1 ((rowI V).map i64L))).put (some 14) (.list 1 ((rowI U).map i64L))).put (some 15) (nI64 (U+1))).put (some 16) (nI64 i)).put (some 3) (.ref 47 3 0 m))) (fun i m=>i≤U+1∧i*(V+1)=m) (fun i m=>U+1-i) 0 0 ⟨Nat.zero_le _,Nat.zero_mul _⟩ ?_
 rintro i m L1 ⟨hi,hm⟩
 refine zg6 ?_
 refine wl_if rfl (fun h17r h17=>?_) (fun h17r h17=>?_)
 ·have hi2:i≤U:=by omega
  have egu:=rowI_get hi2
  have hcu:=chs_40 i hU4
  refine zg21 ?_
  refine lp1 (fun(j:Nat) L=>((((((((((((St.mk L.slot (hp [(1,⟨3,[.agg [nI64 U,nI64 V,.list 3 (c.map ratL)]],true⟩),(47,⟨3,(gL (m+j) (wtV U V c)).map ratL,true⟩)])).put (some 1) (.eptr 1 3 0 0)).put (some 4) (.list 1 ((rowI V).map i64L))).put (some 14) (.list 1 ((rowI U).map i64L))).put (some 15) (nI64 (U+1))).put (some 16) (nI64 i)).put (some 3) (.ref 47 3 0 (m+j))).put (some 5) (nI64 i)).put (some 6) (nI64 (chs U i))).put (some 21) (.list 1 ((rowI V).map i64L))).put (some 22) (nI64 (V+1))).put (some 23) (nI64 j))) (fun j=>j≤V+1) (fun j=>V+1-j) 0 (Nat.zero_le _) ?_
  rintro j L2 hj
  refine zg6 ?_
  refine wl_if rfl (fun h24r h24=>?_) (fun h24r h24=>?_)
  ·have hj2:j≤V:=by omega
   have egv:=rowI_get hj2
   have hcv:=chs_40 j hV4
   have hix:=ix_lt hi2 hj2
   rw [hm,←hc] at hix
   have hgl:=gL_len (m+j) (wtV U V c)
   have ewn:gL (m+(j+1)) (wtV U V c)=gL (m+j) (wtV U V c)++[(((chs U i:Nat):Int):Rat)*(((chs V j:Nat):Int):Rat)*c.getD (m+j) 0]:=by rw [←Nat.add_assoc,gL_succ,wtV,←hm,ix_div hj2,ix_mod hj2]
   have hr1:=chsR_rl i hU4
   have hr2:=chsR_rl j hV4
   have hr3:=getD_rl hR1 hcR (m+j)
   have hr4:=rl_mul (((chs U i:Nat):Int):Rat) (((chs V j:Nat):Int):Rat)
   refine zg13 ?_
   refine wl_regD 19 (by decide +kernel) ?_
   refine zg2 ?_
   refine cp am1 (c_RInt ((chs U i:Nat):Int) (by omega) (by omega)) ?_
   refine zg1 ?_
   refine cp am1 (c_RInt ((chs V j:Nat):Int) (by omega) (by omega)) ?_
   refine cp am2 (c_RMul (((chs U i:Nat):Int):Rat) (((chs V j:Nat):Int):Rat) (by omega)) ?_
   refine zg5 ?_
   refine st_pure rfl (.bin rfl rfl (add1N (by omega))) ?_
   refine st_pure rfl (.bin rfl rfl (mulE hm (by omega))) ?_
   refine zg1 ?_
   refine st_pure rfl (.bin rfl rfl (add64N (by omega))) ?_
   refine zg2 ?_
   refine cp am2 (c_RMul ((((chs U i:Nat):Int):Rat)*(((chs V j:Nat):Int):Rat)) (c.getD (m+j) 0) (by omega)) ?_
   refine zg1 ?_
   refine st_store rfl (.app (news:=[ratL ((((chs U i:Nat):Int):Rat)*(((chs V j:Nat):Int):Rat)*c.getD (m+j) 0)]) rfl rfl rfl rfl rfl (by simp [gL_len]) (.inl rfl) (by decide) Tryz.underlying36 Tryz.underlying36 Z29a T29 rfl B29 (.inl ⟨46,0,_,rfl,by decide,rfl,rfl,by simp,rfl,by simp [pures,ratE.pure]⟩) (by simp;omega) (by simp;omega) (by decide)) ?_
   refine zg4 ?_
   refine wl_regW (Weak.kill _ 46) ?_
   refine zg4 ?_
   exact nx1 (j+1) (by omega)
  ·obtain rfl:j=V+1:=by omega
   refine zg11 ?_
   exact nx2 (i+1) (m+(V+1)) ⟨by omega,by rw [Nat.succ_mul];omega⟩
 ·obtain rfl:i=U+1:=by omega
  have hE:gL m (wtV U V c)=wtL U V c:=by rw [←hm];rfl
  refine zg12 ?_
  rw [←hE]
  exact ret1f [47] rfl rfl (imm_refm ratE rfl rfl (by rw [gL_len]))
namespace H_c_Swap
theorem zSm {p q:Prop} (k:q) (e:p=q:=by simp only [e1,e2,e3,e4,p1,p2,p3,q1,q2,q3,l1,t0,t1,r1,r2,r3,r4,Nat.zero_add,Nat.reduceMul,Nat.reduceAdd,b1,b2,b3,b4,b5,b6,i1,i2,i3,i4,i5,i6,Nat.reduceBEq,dfq,esw,Rat.add_zero,Nat.add_zero,take_gL,take_map_len,map_snoc,len_snoc,List.length_cons,List.length_nil,kills_map i64E,kills_map ratE,ratL_kill,spL_kill,LV.kill,kills];exact rfl):p:=e.mpr k
end H_c_Swap
open H_c_Swap in
theorem c_Swap (U V:Nat) (c:List Rat) (hc:c.length=(U+1)*(V+1)) (hl:c.length≤1048576) (hcR:∀ x∈c,rl x≤274877906944):CallP Tryz.prog 200 [.agg [nI64 U,nI64 V,.list 3 (c.map ratL)]] (.agg [nI64 V,nI64 U,.list 3 ((swL U V c).map ratL)]):=by
 have hU:U+1≤c.length:=by rw [hc];exact Nat.le_mul_of_pos_right _ (Nat.succ_pos V)
 have hV:V+1≤c.length:=by rw [hc];exact Nat.le_mul_of_pos_left _ (Nat.succ_pos U)
 have hnp:=net_pureN U V c
 refine fnP Tryz.func200 (ht:=(fun g=>LV.ren_pure g _ (net_pureN _ _ _))) ?_
 have esw:True:=trivial
 refine zg21 ?_
 refine cp am1 (c_shaped U V c hc hl) ?_
 refine zg11 ?_
 refine st_pure rfl (.bin rfl rfl (add1N (by omega))) ?_
 refine zg4 ?_
 refine wl_weak ((Weak.cell 3 rfl (fun Z μ w cs h=>rep_net 43 3 _ _ Z μ w cs h)).trans (Weak.newB _ 43 3 rfl)) ?_
 refine lp2 (fun(j m:Nat) L=>((((((St.mk L.slot (hp [(1,⟨3,[.agg [nI64 U,nI64 V,.list 3 (c.map ratL)]],true⟩),(2,⟨3,[.agg [.v (.int .i64 0),.v (.int .i64 0),.v (.slice none 0 0)]],true⟩),(3,⟨3,[.agg [nI64 V,nI64 U,.ref 43 3 0 m]],true⟩),(43,⟨3,(gL m (swV U V c)).map ratL,true⟩)])).put (some 1) (.eptr 1 3 0 0)).put (some 2) (.eptr 2 3 0 0)).put (some 3) (.eptr 3 3 0 0)).put (some 17) (nI64 (V+1))).put (some 18) (nI64 j))) (fun j m=>j≤V+1∧j*(U+1)=m) (fun j m=>V+1-j) 0 0 ⟨Nat.zero_le _,Nat.zero_mul _⟩ ?_
 rintro j m L1 ⟨hj,hm⟩
 refine zg6 ?_
 refine wl_if rfl (fun h19r h19=>?_) (fun h19r h19=>?_)
 ·have hj2:j≤V:=by omega
  refine zg14 ?_
  refine st_pure rfl (.bin rfl rfl (add1N (by omega))) ?_
  refine zg4 ?_
  refine lp1 (fun(i:Nat) L=>(((((((((St.mk L.slot (hp [(1,⟨3,[.agg [nI64 U,nI64 V,.list 3 (c.map ratL)]],true⟩),(2,⟨3,[.agg [.v (.int .i64 0),.v (.int .i64 0),.v (.slice none 0 0)]],true⟩),(3,⟨3,[.agg [nI64 V,nI64 U,.ref 43 3 0 (m+i)]],true⟩),(43,⟨3,(gL (m+i) (swV U V c)).map ratL,true⟩)])).put (some 1) (.eptr 1 3 0 0)).put (some 2) (.eptr 2 3 0 0)).put (some 3) (.eptr 3 3 0 0)).put (some 17) (nI64 (V+1))).put (some 18) (nI64 j)).put (some 4) (nI64 j)).put (some 23) (nI64 (U+1))).put (some 24) (nI64 i))) (fun i=>i≤U+1) (fun i=>U+1-i) 0 (Nat.zero_le _) ?_
  rintro i L2 hi
  refine zg6 ?_
  refine wl_if rfl (fun h25r h25=>?_) (fun h25r h25=>?_)
  ·have hi2:i≤U:=by omega
   have hmi:=ix_lt (U:=V) (V:=U) hj2 hi2
   rw [hm,Nat.mul_comm,←hc] at hmi
   have hix:=ix_lt hi2 hj2
   rw [←hc] at hix
   have hgl:=gL_len (m+i) (swV U V c)
   have esw:gL (m+(i+1)) (swV U V c)=gL (m+i) (swV U V c)++[c.getD (i*(V+1)+j) 0]:=by rw [←Nat.add_assoc,gL_succ,swV,←hm,ix_div hi2,ix_mod hi2]
   have hr1:=hcR _ (getD_mem (i:=i*(V+1)+j) hix)
   refine zg10 ?_
   refine wl_regD 16 (by decide +kernel) ?_
   refine zg7 ?_
   refine st_pure rfl (.bin rfl rfl (add1N (by omega))) ?_
   refine st_pure rfl (.bin rfl rfl (mulE rfl (by omega))) ?_
   refine zg1 ?_
   refine st_pure rfl (.bin rfl rfl (add64N (by omega))) ?_
   refine zg2 ?_
   refine st_pure rfl (.build0 SL29 Z29a) ?_
   refine cp am2 (c_RAdd (c.getD (i*(V+1)+j) 0) 0 (by rw [show rl 0=1 from rfl];omega)) ?_
   refine zg1 ?_
   refine st_store rfl (.app (news:=[ratL (c.getD (i*(V+1)+j) 0+0)]) rfl rfl rfl rfl rfl (by simp [gL_len]) (.inl rfl) (by decide) Tryz.underlying36 Tryz.underlying36 Z29a T29 rfl B29 (.inl ⟨42,0,_,rfl,by decide,rfl,rfl,by simp,rfl,by simp [pures,ratE.pure]⟩) (by simp;omega) (by simp;omega) (by decide)) ?_
   refine zg5 ?_
   refine wl_regW (Weak.kill _ 42) ?_
   refine zg4 ?_
   exact nx1 (i+1) (by omega)
  ·obtain rfl:i=U+1:=by omega
   refine zg11 ?_
   exact nx2 (j+1) (m+(U+1)) ⟨by omega,by rw [Nat.succ_mul];omega⟩
 ·obtain rfl:j=V+1:=by omega
  have hE:gL m (swV U V c)=swL U V c:=by rw [←hm];rfl
  refine zg12 ?_
  rw [←hE]
  exact retC [43] rfl rfl rfl rfl rfl T64 (.agg (.cons (.pure rfl) (.cons (.pure rfl) (.cons (imm_refm ratE rfl rfl (by rw [gL_len])) .nil))))
end Go.Proofs.YtfpdccbgngdhkaaGreat
end
