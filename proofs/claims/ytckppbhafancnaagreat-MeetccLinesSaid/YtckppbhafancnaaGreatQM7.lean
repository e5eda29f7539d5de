/- Texts A5, A9, A10, LgD, A11, A12, A13 of this proof, joined. -/
import Derived.Test.YtckppbhafancnaaGreatQM6
set_option linter.unusedVariables false
set_option linter.unusedSimpArgs false
section
set_option linter.unusedVariables false
set_option linter.unusedSimpArgs false
set_option maxHeartbeats 8000000
set_option maxRecDepth 100000
attribute [local irreducible] Go.Lg.opsL Go.Lg.wpL Go.Lg.thenL Go.Lg.blockL
namespace Go.Proofs.YtckppbhafancnaaGreat
open Go.Lg
section
variable {D W na:Nat} {lk:lS} {x:gG} {st:List gG} {m:Nat} {cl:List kH}
theorem aGD (h:W≤m):jK D W na 0 lk (x :: st,m,cl)=(st,m,cl++[yR na x (false,0,0)]):=by rw [jK,if_pos h]
theorem aGR (h:¬W≤m) (hd:(lk (x.1.take na) (x.1.drop na)).1=true):jK D W na 0 lk (x :: st,m,cl)=(st,m+1,cl):=by rw [jK,if_neg h,if_pos hd]
theorem uU (h:¬W≤m) (hd:(lk (x.1.take na) (x.1.drop na)).1=false) (hk:(iK (lk (x.1.take na) (x.1.drop na))=3∨iK (lk (x.1.take na) (x.1.drop na))=4)∨D≤x.2.1) :
  jK D W na 0 lk (x :: st,m,cl)=(st,m+1,cl++[yR na x (lk (x.1.take na) (x.1.drop na))]):=by
 rw [jK,if_neg h,if_neg (by rw [hd];decide),if_pos]
 unfold xO
 rcases hk with hk | hk
 ·rw [decide_eq_true hk];simp
 ·rw [decide_eq_true hk];simp
theorem aEV (h:¬W≤m) (hd:(lk (x.1.take na) (x.1.drop na)).1=false) (h3:¬iK (lk (x.1.take na) (x.1.drop na))=3) (h4:¬iK (lk (x.1.take na) (x.1.drop na))=4) (hk:¬D≤x.2.1) :
  jK D W na 0 lk (x :: st,m,cl)=(loB x :: hiB x :: st,m+1,cl):=by
 rw [jK,if_neg h,if_neg (by rw [hd];decide),if_neg]
 unfold xO
 rw [decide_eq_false (show ¬(_∨_) from fun e=>e.elim h3 h4),decide_eq_false hk];simp
theorem mR:nC D (x :: st)=wgt D x+nC D st:=by simp [nC]
theorem aFS (hk:¬D≤x.2.1):nC D (loB x :: hiB x :: st)<nC D (x :: st):=by
 have:=aAW (x:=x) (s:=loS (x.1.getD (lT x) default)) (s':=hiS (x.1.getD (lT x) default)) (show x.2.1<D by omega)
 rw [mR,mR,mR]
 unfold loB hiB
 omega
theorem aC7:∀ st:List gG,st.length≤nC D st
 | []=>Nat.zero_le _
 | x :: st=>by
   have h1:=aC7 st
   have h2:=qW D x
   rw [mR,List.length_cons];omega
end
theorem aF9 (x:gG) (st jk:List gG):(x :: st).reverse++jk=st.reverse++(x :: jk):=by simp
theorem aIj (x:gG) (st jk:List gG):(st.reverse.map jS++(jS x :: jk.map jS))[st.length]?=some (jS x):=by
 rw [List.getElem?_append_right (by simp)];simp
theorem aOG (l m:List gG):(l++m).map jS=l.map jS++m.map jS:=List.map_append
theorem aM9 (l m:List kH):(l++m).map jE=l.map jE++m.map jE:=List.map_append
theorem aFm (st:List gG) (l:List LV):(st.reverse.map jS++l).take st.length=st.reverse.map jS:=by
 rw [List.take_append_of_le_length (by simp),List.take_of_length_le (by simp)]
theorem aKN {P:Program} {L:St} {blk' b0:Blk} {bs:List Blk} {l:List (Nat × Blk)} {v:List LV} (hl:L.heap=hp l) (h0:hp l 0=some b0) (hb:blk'=⟨b0.sz,eZ (mT [1]) b0.vals,b0.mt⟩) (hdom:∀ c∈l.map (·.1),c≠0→c∈[1])
  (h1:hp l 1=some ⟨4,v,true⟩) (hv:aV v=true) (hbs:bs=[⟨4,v,true⟩]):aGS P [] L (.tup []) blk' bs:=by
 have hdm:∀ (l:List (Nat × Blk)) (c:Nat),hp l c≠none→c∈l.map (·.1):=fun l=>by
  induction l with
  | nil=>exact fun c h=>absurd rfl h
  | cons p t ih =>
   obtain⟨d,y⟩:=p
   intro c h
   by_cases e:c=d
   ·simp [e]
   ·have:Nat.beq c d=false:=by rw [←Bool.not_eq_true,Nat.beq_eq];exact e
    simp only [hp,this,cond_false] at h
    simp only [List.map_cons,List.mem_cons]
    exact .inr (ih c h)
 refine⟨[],[1],b0,by rw [hl];exact h0,hb,.nil,by simp,by simp,by simp,fun c hc hh=>hdom c (hdm l c (by rwa [hl] at hh)) hc,fun k b hk=>?_,rfl⟩
 match k,hk with
 | 0,hk =>
  simp only [List.getElem?_cons_zero,Option.some.injEq] at hk
  subst hk
  exact⟨_,by rw [hl];exact h1,by rw [hbs,iI _ _ hv];rfl⟩
 | k+1,hk=>simp at hk
end Go.Proofs.YtckppbhafancnaaGreat
namespace Go.Lg
theorem a7.cellI {L:St} (b:Nat) (bs:List Nat) (h0:bs.contains 0=false) {sz:Nat} {x y:LV} {mt:Bool} (hb:(L.frz bs).heap b=some ⟨sz,[x],mt⟩) (hi:Imm (L.frz bs).heap x y):a7 L ((L.frz bs).setB b (some ⟨sz,[y],mt⟩)):=by
 rintro n W X Z0 a w ⟨hdf,hsz,μ,Z,hc0,hr⟩
 obtain⟨Z',hc,hz⟩:=hc0.widen (kQ bs h0)
 refine⟨hdf,hsz,μ,Z',?_,fun s=>bP.mono hz (fun _ _ h=>h) (Frame.refl Z μ w) (hr s)⟩
 have hs:∀ c,((L.frz bs).setB b (some ⟨sz,[y],mt⟩)).heap c=if c=b then some ⟨sz,[y],mt⟩ else(L.frz bs).heap c:=fun c=>rfl
 refine⟨hc.keep,hc.zone,hc.zsup,hc.zsub,hc.inj,hc.own,hc.x0,hc.xlt,hc.x1,fun c id blk g1 g2=>?_,fun c id blk g1 g2=>?_,fun c id g1=>?_⟩
 ·rw [hs] at g2
  split at g2
  ·rename_i e;subst e;cases g2;exact hc.mutz c id ⟨sz,[x],mt⟩ g1 hb
  ·exact hc.mutz c id blk g1 g2
 ·rw [hs] at g2
  split at g2
  ·rename_i e;subst e;cases g2;exact hc.frz c id ⟨sz,[x],mt⟩ g1 hb
  ·exact hc.frz c id blk g1 g2
 ·obtain⟨blk,k1,k2⟩:=hc.heap c id g1
  rw [hs]
  by_cases e:c=b
  ·subst e
   rw [if_pos rfl]
   rw [hb] at k1
   cases k1
   refine⟨_,rfl,?_⟩
   obtain⟨cs,T,part,rest,e1,e2,e3⟩:=k2
   refine⟨cs,T,part,rest,e1,e2,?_⟩
   simp only [aM] at e3 ⊢
   obtain⟨c1,c2,q1,q2,q3,q4⟩:=e3
   exact⟨c1,c2,q1,q2,Imm.sound (μ':=μ) hc hi q3,q4⟩
  ·rw [if_neg e];exact⟨blk,k1,k2⟩
end Go.Lg
namespace Go.Proofs.YtckppbhafancnaaGreat
open Go.Lg
theorem aAN {P:Program} {ρ:Operand→LV} {T E:TypeId} {x:Operand} {d sz:Nat} {ag:Bool} {z v:LV} (hT:P.underlying T=some (.slice E)) (hz:bA P E z) (hzc:z.csize=sz) (hza:z.isAgg=ag) (hE:bT P E sz ag)
  (hx:ρ x=v) (hvc:v.csize=sz) (hva:v.isAgg=ag) (hvp:v.pure=true) (hs:0<sz) (h63:sz≤1000):OpA P ρ d (.buildSlice T 1 #[(0,x)]) (.ref d sz 0 1) ⟨sz,[v],true⟩:=by
 have:=OpA.lit (P:=P) (ρ:=ρ) (d:=d) (T:=T) (n:=1) (ps:=#[(0,x)]) hT hz (by rw [hza];exact hE) hzc (by omega) (by omega) (by omega) (by
  intro p hp
  simp only [List.mem_singleton] at hp
  subst hp
  refine⟨by simp,?_,by rw [hx];exact LV.pure_ne_any hvp,by rw [hx];exact LV.pure_ne_tup hvp⟩
  simp [lay,hx,hvc,hva,hzc,hza])
 simpa [eN,hx,List.replicate] using this
theorem aLs {P:Program} {ρ:Operand→LV} {T E:TypeId} {x:Operand} {d sz:Nat} {ag:Bool} {z v:LV} (hT:P.underlying T=some (.slice E)) (hz:bA P E z) (hzc:z.csize=sz) (hza:z.isAgg=ag) (hE:bT P E sz ag)
  (hx:ρ x=v) (hvc:v.csize=sz) (hva:v.isAgg=ag) (h1:v≠.any) (h2:∀ l,v≠.tup l) (hs:0<sz) (h63:sz≤1000):OpA P ρ d (.buildSlice T 1 #[(0,x)]) (.ref d sz 0 1) ⟨sz,[v],true⟩:=by
 have:=OpA.lit (P:=P) (ρ:=ρ) (d:=d) (T:=T) (n:=1) (ps:=#[(0,x)]) hT hz (by rw [hza];exact hE) hzc (by omega) (by omega) (by omega) (by
  intro p hp
  simp only [List.mem_singleton] at hp
  subst hp
  refine⟨by simp,?_,by rw [hx];exact h1,by rw [hx];exact h2⟩
  simp [lay,hx,hvc,hva,hzc,hza])
 simpa [eN,hx,List.replicate] using this
namespace Zq61
theorem cK {p q:Prop} (k:q) (e:p=q:=by simp only [e1,e2,e3,e4,p1,p2,p3,q1,q2,q3,l1,t0,t1,r1,r2,r3,r4,Nat.zero_add,Nat.reduceMul,Nat.reduceAdd,b1,b2,b3,b4,b5,b6,i1,i2,i3,i4,i5,i6,Nat.reduceBEq,lC,aM9,htz,List.drop_zero,aOG,aFm,List.map_cons,List.reverse_cons,List.reverse_nil,List.append_assoc,List.singleton_append,jE,yR,etk2,edk2,ekv,ekK,etk,edk,esc,ecl,eclt,htA,hrp,jS,vdL,hAl,fz0,wF,aC d8,aC mK,aC boxE,aC aEj,List.length_map,List.length_append,List.length_replicate,hAB,cJ,eA,dC,List.length_cons,List.length_nil,List.nil_append,List.map_nil,List.take_nil,List.append_nil,List.set_cons_zero,List.set_cons_succ,Nat.reduceEqDiff,reduceIte,if_true,if_false,a8,a9,aC cW,aC dR,aC aD,aT,a6,LV.kill,bH];exact rfl):p:=e.mpr k
end Zq61
open Zq61 in
theorem aJp (f na n D W:Nat) (cap:List LV) (lk:lS) (I:gG→Prop) (hL:LookOK Tryz.prog f cap D na n lk I) (hcp:aV cap=true) (hcs:∀ x∈cap,x.csize=1∧x.isAgg=false) (A B:List Sp) (hna:A.length=na) (hA0:0<A.length) (hB0:0<B.length) (hn:A.length+B.length=n) (hn9:n≤10) (hI0:I (A++B,0,List.replicate n 0)) (n0:Nat) (cz:List kH) (hD9:D≤24) (hW9:W≤4096) (hn0:n0≤4096) (hcl0:cz.length≤100000000):tV Tryz.prog 40 ⟨7,[.agg [.agg [aG D,aG W,ratL 0],.ref 1 4 0 cz.length,aG n0]],true⟩ ⟨4,cz.map jE,true⟩ [.eptr 0 7 0 0,.list 6 (A.map spL),.list 6 (B.map spL),.clo f cap] (.tup []) ⟨7,[.agg [.agg [aG D,aG W,ratL 0],.ref 1 4 0 (oO D W na 0 lk ([(A++B,0,List.replicate n 0)],n0,cz)).2.2.length,aG (oO D W na 0 lk ([(A++B,0,List.replicate n 0)],n0,cz)).2.1]],true⟩ [⟨4,(oO D W na 0 lk ([(A++B,0,List.replicate n 0)],n0,cz)).2.2.map jE,true⟩]:=by
 have hsp0:=hL.sp _ hI0
 have hsA:∀ s∈A,iQ 1000000 s∧s.1≤s.2:=fun s hs=>⟨(hsp0 s (List.mem_append_left _ hs)).1.le (by decide),(hsp0 s (List.mem_append_left _ hs)).2⟩
 have hsB:∀ s∈B,iQ 1000000 s∧s.1≤s.2:=fun s hs=>⟨(hsp0 s (List.mem_append_right _ hs)).1.le (by decide),(hsp0 s (List.mem_append_right _ hs)).2⟩
 have hfA:=xR A hA0 (by omega) hsA
 have hPB:=wJ B hB0 (by omega) hsB
 have hpA:=aJ d8 6 A
 have hpB:=aJ d8 6 B
 have hpAB:=aJ d8 6 (A++B)
 have hAl:(A++B).length=n:=by rw [List.length_append];exact hn
 have htA:(A.map spL).take A.length=A.map spL:=List.take_of_length_le (by simp)
 have hAB:A.map spL++B.map spL=(A++B).map spL:=List.map_append.symm
 have hrp:List.replicate n (dS 0)=(List.replicate n (0:Int)).map dS:=by rw [List.map_replicate]
 have hpz:aV ((List.replicate n (0:Int)).map dS)=true:=aF mK _
 have hSg:aN Tryz.prog 38 [ratL 0] (iL 0):=by
  have:=jF 0 (by have:rl 0=1:=rfl;omega)
  rwa [show dM 0=0 from by decide +kernel] at this
 have htz:((List.replicate n (0:Int)).map dS).take n=(List.replicate n (0:Int)).map dS:=List.take_of_length_le (by simp)
 have hpcl:LV.pure (.clo f cap)=true:=by simpa [LV.pure] using hcp
 have hE0:=pK D W na 0 lk ([(A++B,0,List.replicate n 0)],n0,cz)
 have hmu0:nC D [(A++B,0,List.replicate n 0)]≤100000000:=by
  have hpw:2 ^ (D-0)≤2 ^ 24:=Nat.pow_le_pow_right (by decide) (by omega)
  rw [mR]
  show 2*2 ^ (D-0)-1+0≤_
  omega
 refine fnC Tryz.func40 ?_
 have etk2:True:=trivial
 have edk2:True:=trivial
 have ekv:True:=trivial
 have ekK:True:=trivial
 have etk:True:=trivial
 have edk:True:=trivial
 have esc:True:=trivial
 have ecl:True:=trivial
 have eclt:True:=trivial
 refine dI ?_
 refine lJ [] rfl rfl (.cons (.pure hpA) .nil) hfA (aF d8 _) rfl ?_
 refine bD ?_
 refine cp cS (hPB) ?_
 refine bC rfl (.appX (d:=20) (news:=B.map spL) rfl rfl rfl rfl (by simp) (.inr rfl) (by decide) Tryz.underlying49 Tryz.underlying49 nQ (by rw [d8.isAgg];exact mH) cs B54 (.inr (.inl rfl)) (by simp;omega) (by simp;omega) (by decide)) ?_
 refine cB ?_
 refine bG ((a7.hand (t:=8) (b:=20) (l:=A++B) d8 rfl rfl (by rw [List.length_append])).trans (a7.refl _)) ?_
 try refine cK ?_
 refine dI ?_
 try refine cK ?_
 refine b9 rfl rfl (.makeM (n:=n) (m:=n) mK Tryz.underlying22 (show bA _ _ (dS 0) from Z3) T3 B3 rfl rfl (by omega) (by omega) (by omega)) ?_
 refine bD ?_
 try refine cK ?_
 refine b9 rfl rfl (aLs (z:=jS ([],0,[])) (v:=.agg [.list 6 ((A++B).map spL),iL 0,.ref 24 1 0 n]) Tryz.underlying148 aJW rfl rfl xC rfl rfl rfl (by simp) (by simp) (by decide) (by decide)) ?_
 refine cB ?_
 refine fV (((a7.cellI 26 [24] rfl rfl (.agg (.cons (.pure hpAB) (.cons (.pure rfl) (.cons (o5 rfl rfl hpz (by simp)) .nil)))))).trans (a7.kill _ 24)) ?_
 refine lp4 (fun(st jk:List gG) (m:Nat) (cw:List kH) L=>(((((St.mk L.slot (hp [(0,⟨7,[.agg [.agg [aG D,aG W,ratL 0],.ref 1 4 0 cw.length,aG m]],true⟩),(1,⟨4,cw.map jE,true⟩),(26,⟨3,(st.reverse++jk).map jS,true⟩)])).put (some 0) (.eptr 0 7 0 0)).put (some 1) (.list 6 (A.map spL))).put (some 3) (.clo f cap)).put (some 9) (.ref 26 3 0 st.length))) (fun st jk m cw=>aA9 D W na 0 lk (st,m,cw) (oO D W na 0 lk ([(A++B,0,List.replicate n 0)],n0,cz))∧(∀ x∈st,I x)∧m≤4096∧cw.length+nC D st≤200000000) (fun st jk m cw=>nC D st) ([(A++B,0,List.replicate n 0)]) ([]) n0 cz ⟨hE0,fun y hy=>by rw [List.mem_singleton.1 hy];exact hI0,hn0,by omega⟩ ?_
 rintro st jk m cw L1 ⟨hE,hI,hm9,hc9⟩
 refine eI ?_
 refine aQ rfl (fun h29r h29=>?_) (fun h29r h29=>?_)
 ·obtain⟨x,st,rfl⟩:∃ x s,st=x :: s:=by
   cases st with
   | nil=>simp at h29
   | cons x s=>exact⟨x,s,rfl⟩
  have esc:=aF9 x st jk
  have hln:(x :: st).length=st.length+1:=rfl
  have hIx:=hI x (by simp)
  have hIs:∀ y∈st,I y:=fun y hy=>hI y (by simp [hy])
  have hlk:=hL.look x hIx
  have hlx:=(hL.len x hIx).1
  have hlt:=(hL.len x hIx).2
  have hdx:=hL.dep x hIx
  have hsx:=hL.sp x hIx
  have hkd:=hL.kd x hIx
  have hmw:=qW D x
  have hmc:=mR (D:=D) (x:=x) (st:=st)
  have hml:st.length+1≤nC D (x :: st):=aC7 (D:=D) (x :: st)
  have hES:=hE.step
  have etk2:x.1.take A.length=x.1.take na:=by rw [hna]
  have edk2:x.1.drop A.length=x.1.drop na:=by rw [hna]
  have etk:(x.1.map spL).take A.length=(x.1.take na).map spL:=by rw [hna,List.map_take]
  have edk:(x.1.map spL).drop A.length=(x.1.drop na).map spL:=by rw [hna,List.map_drop]
  have hPt:=wJ (x.1.take na) (by rw [List.length_take];omega) (by rw [List.length_take];omega) (fun s hs=>⟨(hsx s (List.mem_of_mem_take hs)).1.le (by decide),(hsx s (List.mem_of_mem_take hs)).2⟩)
  have hPd:=wJ (x.1.drop na) (by rw [List.length_drop];omega) (by rw [List.length_drop];omega) (fun s hs=>⟨(hsx s (List.mem_of_mem_drop hs)).1.le (by decide),(hsx s (List.mem_of_mem_drop hs)).2⟩)
  have hpc1:LV.pure (.agg [.list 6 ((x.1.take na).map spL),.list 6 ((x.1.drop na).map spL),aG 1,aG 0])=true:=sE (x.1.take na,x.1.drop na,1,0)
  have hpc2:LV.pure (.agg [.list 6 ((x.1.take na).map spL),.list 6 ((x.1.drop na).map spL),aG (iK (lk (x.1.take na) (x.1.drop na))),aG (kV (lk (x.1.take na) (x.1.drop na)))])=true:=sE (x.1.take na,x.1.drop na,iK (lk (x.1.take na) (x.1.drop na)),kV (lk (x.1.take na) (x.1.drop na)))
  have hpcn1:aV [.agg [.list 6 ((x.1.take na).map spL),.list 6 ((x.1.drop na).map spL),aG 1,aG 0]]=true:=by simp only [aV,hpc1,Bool.and_self]
  have hpcn2:aV [.agg [.list 6 ((x.1.take na).map spL),.list 6 ((x.1.drop na).map spL),aG (iK (lk (x.1.take na) (x.1.drop na))),aG (kV (lk (x.1.take na) (x.1.drop na)))]]=true:=by simp only [aV,hpc2,Bool.and_self]
  have hpt:=aJ d8 6 (x.1.take na)
  have hpd:=aJ d8 6 (x.1.drop na)
  have eclt:(cw.map jE).take cw.length=cw.map jE:=List.take_of_length_le (by simp)
  refine eI ?_
  refine aB rfl (.bin rfl rfl (iJ (by omega) (by omega))) ?_
  try refine cK ?_
  refine aB rfl (.idxR rfl Tryz.underlying148 xC rfl (by first | (simp;done) | (simp;omega) | omega) (by first | (simp;done) | (simp;omega) | omega)) ?_
  try refine cK ?_
  refine aB rfl (.loadE (b:=26) (sz:=3) (i:=st.length) (o:=0) (x:=jS x) (r:=jS x) (n:=3) (ag:=true) rfl rfl rfl (aIj x st jk) (boxE.csize _) (b7 (boxE.csize _) rfl) xC) ?_
  refine eP ?_
  refine aB rfl (.bin rfl rfl (iJ (by omega) (by omega))) ?_
  refine aB rfl (.sliceRh rfl Tryz.underlying148 xC rfl om om) ?_
  refine cB ?_
  refine aP 14 (by decide +kernel) ?_
  refine cB ?_
  try refine cK ?_
  refine aB rfl (by first | exact .sliceLh (h:=A.length) d8 rfl Tryz.underlying49 mH rfl om | exact .sliceRh rfl Tryz.underlying49 mH rfl om om) ?_
  try refine cK ?_
  refine cp cS (hPt) ?_
  refine cB ?_
  try refine cK ?_
  refine aB rfl (.sliceLl (a:=A.length) d8 rfl Tryz.underlying49 mH rfl om) ?_
  try refine cK ?_
  refine cp cS (hPd) ?_
  refine dP ?_
  refine aP 10 (by decide +kernel) ?_
  refine cH ?_
  refine aQ rfl (fun h63r h63=>?_) (fun h63r h63=>?_)
  ·have h63n:W≤m:=by omega
   refine bD ?_
   refine dH 7 [0] (by decide +kernel) ?_
   refine bY ?_
   try refine cK ?_
   refine b9 rfl rfl (aAN (z:=jE ([],[],0,0)) (v:=.agg [.list 6 ((x.1.take na).map spL),.list 6 ((x.1.drop na).map spL),aG 1,aG 0]) Tryz.underlying43 zH rfl rfl T51 rfl rfl rfl hpc1 (by decide) (by decide)) ?_
   refine bC rfl (.appX (d:=1) (news:=[.agg [.list 6 ((x.1.take na).map spL),.list 6 ((x.1.drop na).map spL),aG 1,aG 0]]) rfl rfl rfl rfl (by simp) (.inl rfl) (by decide) Tryz.underlying43 Tryz.underlying43 zH T51 rfl B51 (.inl ⟨70,0,_,rfl,by decide,rfl,rfl,by simp,rfl,hpcn1⟩) (by simp;omega) (by simp;omega) (by decide)) ?_
   try refine cK ?_
   refine cU ?_
   try refine cK ?_
   refine dP ?_
   exact nx4 st (x :: jk) m (cw++[yR na x (false,0,0)]) ⟨(aGD (D:=D) h63n ▸ hES),hIs,hm9,(by simp only [List.length_append,List.length_cons,List.length_nil];omega)⟩ (he:=((((a7.kill _ 10).trans (a7.kill _ 11)).trans (a7.kill _ 70))).trans (a7.of_eq (aA (aA (aA (aA (bB (by first | exact cl | (refine cK ?_;refine fP ?_ ?_<;>repeat (first | exact trivial | refine And.intro rfl ?_)))) cl) cl) cl) cl)))
  ·have h63n:¬W≤m:=by omega
   refine eI ?_
   refine aB rfl (.bin rfl rfl (dA (by omega))) ?_
   refine cH ?_
   try refine cK ?_
   refine gE [] rfl rfl (.clo (f:=f) (cap:=cap) (args:=[.list 6 ((x.1.take na).map spL),.list 6 ((x.1.drop na).map spL)]) rfl (.cons (.pure hpt) (.cons (.pure hpd) .nil)) ⟨hcp,hcs⟩ hlk.1 (by decide) (fun _ h=>by cases h)) (hlk.2 _) ?_
   refine cQ ?_
   refine aQ rfl (fun h88r h88=>?_) (fun h88r h88=>?_)
   ·refine cB ?_
    exact nx4 st (x :: jk) (m+1) cw ⟨(aGR (D:=D) h63n h88 ▸ hES),hIs,by omega,by omega⟩ (he:=((((a7.kill _ 10).trans (a7.kill _ 11)).trans (a7.kill _ 12))).trans (a7.of_eq (aA (aA (aA (aA (bB (by first | exact cl | (refine cK ?_;refine fP ?_ ?_<;>repeat (first | exact trivial | refine And.intro rfl ?_)))) cl) cl) cl) cl)))
   ·refine cB ?_
    refine bG (a7.boxp (t:=12) (b:=12) rfl rfl rfl rfl rfl) ?_
    try refine cK ?_
    refine dX ?_
    refine eH (fun L=>∃  (L1:St),(True)∧L=(((((((St.mk L1.slot (hp [(0,⟨7,[.agg [.agg [aG D,aG W,ratL 0],.ref 1 4 0 cw.length,aG (m+1)]],true⟩),(1,⟨4,cw.map jE,true⟩),(26,⟨3,(st.reverse++(x :: jk)).map jS,true⟩),(10,⟨3,[.agg [.list 6 (x.1.map spL),aG x.2.1,.list 1 (x.2.2.map dS)]],true⟩),(11,⟨4,[.agg [.list 6 ((x.1.take na).map spL),.list 6 ((x.1.drop na).map spL),aG (iK (lk (x.1.take na) (x.1.drop na))),aG (kV (lk (x.1.take na) (x.1.drop na)))]],true⟩)])).put (some 0) (.eptr 0 7 0 0)).put (some 1) (.list 6 (A.map spL))).put (some 3) (.clo f cap)).put (some 9) (.ref 26 3 0 st.length)).put (some 10) (.eptr 10 3 0 0)).put (some 11) (.eptr 11 4 0 0))) ?_ ?_
    ·refine aQ rfl (fun h91r h91=>?_) (fun h91r h91=>?_)
     ·have ekv:iK (lk (x.1.take na) (x.1.drop na))=(lk (x.1.take na) (x.1.drop na)).2.1:=if_neg (by omega)
      have ekK:kV (lk (x.1.take na) (x.1.drop na))=(lk (x.1.take na) (x.1.drop na)).2.2:=if_neg (by omega)
      refine zM ?_
      refine fS 0 rfl rfl (by decide +kernel) faA fmV fmA ?_
      refine fS 1 rfl rfl (by decide +kernel) rX fmV fmA ?_
      refine fS 2 rfl rfl (by decide +kernel) faA fmV fmA ?_
      refine fS 3 rfl rfl (by decide +kernel) rX fmV fmA ?_
      refine a5 4 _ (by decide +kernel) rfl ?_
      refine bD ?_
      refine aE ?_
      refine a5 5 _ (by decide +kernel) rfl ?_
      refine bD ?_
      refine aE ?_
      refine a5 6 _ (by decide +kernel) rfl ?_
      refine bD ?_
      refine aE ?_
      refine a5 7 _ (by decide +kernel) rfl ?_
      refine bD ?_
      refine aE ?_
      refine cX (by decide +kernel) ?_
      refine bD ?_
      exact⟨_,trivial,((aA (aA (aA (aA (aA (aA (bB cl) cl) cl) cl) cl) cl) cl)).symm⟩
     ·have ekv:iK (lk (x.1.take na) (x.1.drop na))=1:=if_pos (by omega)
      have ekK:kV (lk (x.1.take na) (x.1.drop na))=0:=if_pos (by omega)
      refine cU ?_
      exact⟨_,trivial,((aA (aA (aA (aA (aA (aA (bB cl) cl) cl) cl) cl) cl) cl)).symm⟩
    ·rintro _ ⟨LC91,-,rfl⟩
     refine dP ?_
     refine eD 101 rfl (fun h101r h101=>?_) (fun h101r h101=>?_)
     ·refine eP ?_
      refine aP 31 (by decide +kernel) ?_
      refine dP ?_
      refine cp cS (hSg) ?_
      refine cU ?_
      refine cE (aO (v:=true) rfl rfl ((rfl)) rfl) ?_
      refine cE (aO (v:=true) rfl rfl ((rfl)) rfl) ?_
      refine cE (aO (v:=true) rfl rfl ((rfl)) rfl) ?_
      refine cE (aO (v:=true) rfl rfl ((rfl)) rfl) ?_
      refine cE (aO (v:=true) rfl rfl ((rfl)) rfl) ?_
      refine cE (aO (v:=true) rfl rfl ((rfl)) rfl) ?_
      refine cE (aO (v:=true) rfl rfl ((rfl)) rfl) ?_
      refine cE (aO (v:=true) rfl rfl ((rfl)) rfl) ?_
      refine cE (aO (v:=true) rfl rfl ((rfl)) rfl) ?_
      refine aB (aO (v:=true) rfl rfl (rfl) rfl) (.pickT rfl ((rfl))) ?_
      refine iR ?_
      refine dH 7 [0] (by decide +kernel) ?_
      refine bY ?_
      try refine cK ?_
      refine b9 rfl rfl (aAN (z:=jE ([],[],0,0)) (v:=.agg [.list 6 ((x.1.take na).map spL),.list 6 ((x.1.drop na).map spL),aG (iK (lk (x.1.take na) (x.1.drop na))),aG (kV (lk (x.1.take na) (x.1.drop na)))]) Tryz.underlying43 zH rfl rfl T51 rfl rfl rfl hpc2 (by decide) (by decide)) ?_
      refine bC rfl (.appX (d:=1) (news:=[.agg [.list 6 ((x.1.take na).map spL),.list 6 ((x.1.drop na).map spL),aG (iK (lk (x.1.take na) (x.1.drop na))),aG (kV (lk (x.1.take na) (x.1.drop na)))]]) rfl rfl rfl rfl (by simp) (.inl rfl) (by decide) Tryz.underlying43 Tryz.underlying43 zH T51 rfl B51 (.inl ⟨143,0,_,rfl,by decide,rfl,rfl,by simp,rfl,hpcn2⟩) (by simp;omega) (by simp;omega) (by decide)) ?_
      try refine cK ?_
      refine cU ?_
      try refine cK ?_
      refine dP ?_
      exact nx4 st (x :: jk) (m+1) (cw++[yR na x (lk (x.1.take na) (x.1.drop na))]) ⟨(uU (D:=D) h63n h88 (by first | exact .inl (.inl (by omega)) | exact .inl (.inr (by omega)) | exact .inr (by omega)) ▸ hES),hIs,by omega,(by simp only [List.length_append,List.length_cons,List.length_nil];omega)⟩ (he:=((((a7.kill _ 10).trans (a7.kill _ 11)).trans (a7.kill _ 143))).trans (a7.of_eq (aA (aA (aA (aA (bB (by first | exact cl | (refine cK ?_;refine fP ?_ ?_<;>repeat (first | exact trivial | refine And.intro rfl ?_)))) cl) cl) cl) cl)))
     ·refine eP ?_
      refine aP 31 (by decide +kernel) ?_
      refine cU ?_
      refine eD 107 rfl (fun h107r h107=>?_) (fun h107r h107=>?_)
      ·refine dX ?_
       refine cp cS (hSg) ?_
       refine cU ?_
       refine cE (aO (v:=true) rfl rfl ((rfl)) rfl) ?_
       refine cE (aO (v:=true) rfl rfl ((rfl)) rfl) ?_
       refine cE (aO (v:=true) rfl rfl ((rfl)) rfl) ?_
       refine cE (aO (v:=true) rfl rfl ((rfl)) rfl) ?_
       refine cE (aO (v:=true) rfl rfl ((rfl)) rfl) ?_
       refine cE (aO (v:=true) rfl rfl ((rfl)) rfl) ?_
       refine cE (aO (v:=true) rfl rfl ((rfl)) rfl) ?_
       refine cE (aO (v:=true) rfl rfl ((rfl)) rfl) ?_
       refine cE (aO (v:=true) rfl rfl ((rfl)) rfl) ?_
       refine aB (aO (v:=true) rfl rfl (h107r) rfl) (.pickT rfl ((rfl))) ?_
       refine iR ?_
       refine dH 7 [0] (by decide +kernel) ?_
       refine bY ?_
       try refine cK ?_
       refine b9 rfl rfl (aAN (z:=jE ([],[],0,0)) (v:=.agg [.list 6 ((x.1.take na).map spL),.list 6 ((x.1.drop na).map spL),aG (iK (lk (x.1.take na) (x.1.drop na))),aG (kV (lk (x.1.take na) (x.1.drop na)))]) Tryz.underlying43 zH rfl rfl T51 rfl rfl rfl hpc2 (by decide) (by decide)) ?_
       refine bC rfl (.appX (d:=1) (news:=[.agg [.list 6 ((x.1.take na).map spL),.list 6 ((x.1.drop na).map spL),aG (iK (lk (x.1.take na) (x.1.drop na))),aG (kV (lk (x.1.take na) (x.1.drop na)))]]) rfl rfl rfl rfl (by simp) (.inl rfl) (by decide) Tryz.underlying43 Tryz.underlying43 zH T51 rfl B51 (.inl ⟨143,0,_,rfl,by decide,rfl,rfl,by simp,rfl,hpcn2⟩) (by simp;omega) (by simp;omega) (by decide)) ?_
       try refine cK ?_
       refine cU ?_
       try refine cK ?_
       refine dP ?_
       exact nx4 st (x :: jk) (m+1) (cw++[yR na x (lk (x.1.take na) (x.1.drop na))]) ⟨(uU (D:=D) h63n h88 (by first | exact .inl (.inl (by omega)) | exact .inl (.inr (by omega)) | exact .inr (by omega)) ▸ hES),hIs,by omega,(by simp only [List.length_append,List.length_cons,List.length_nil];omega)⟩ (he:=((((a7.kill _ 10).trans (a7.kill _ 11)).trans (a7.kill _ 143))).trans (a7.of_eq (aA (aA (aA (aA (bB (by first | exact cl | (refine cK ?_;refine fP ?_ ?_<;>repeat (first | exact trivial | refine And.intro rfl ?_)))) cl) cl) cl) cl)))
      ·refine aLW ?_
       refine aQ rfl (fun h136r h136=>?_) (fun h136r h136=>?_)
       ·refine bD ?_
        refine dH 7 [0] (by decide +kernel) ?_
        refine bY ?_
        try refine cK ?_
        refine b9 rfl rfl (aAN (z:=jE ([],[],0,0)) (v:=.agg [.list 6 ((x.1.take na).map spL),.list 6 ((x.1.drop na).map spL),aG (iK (lk (x.1.take na) (x.1.drop na))),aG (kV (lk (x.1.take na) (x.1.drop na)))]) Tryz.underlying43 zH rfl rfl T51 rfl rfl rfl hpc2 (by decide) (by decide)) ?_
        refine bC rfl (.appX (d:=1) (news:=[.agg [.list 6 ((x.1.take na).map spL),.list 6 ((x.1.drop na).map spL),aG (iK (lk (x.1.take na) (x.1.drop na))),aG (kV (lk (x.1.take na) (x.1.drop na)))]]) rfl rfl rfl rfl (by simp) (.inl rfl) (by decide) Tryz.underlying43 Tryz.underlying43 zH T51 rfl B51 (.inl ⟨143,0,_,rfl,by decide,rfl,rfl,by simp,rfl,hpcn2⟩) (by simp;omega) (by simp;omega) (by decide)) ?_
        try refine cK ?_
        refine cU ?_
        try refine cK ?_
        refine dP ?_
        exact nx4 st (x :: jk) (m+1) (cw++[yR na x (lk (x.1.take na) (x.1.drop na))]) ⟨(uU (D:=D) h63n h88 (by first | exact .inl (.inl (by omega)) | exact .inl (.inr (by omega)) | exact .inr (by omega)) ▸ hES),hIs,by omega,(by simp only [List.length_append,List.length_cons,List.length_nil];omega)⟩ (he:=((((a7.kill _ 10).trans (a7.kill _ 11)).trans (a7.kill _ 143))).trans (a7.of_eq (aA (aA (aA (aA (bB (by first | exact cl | (refine cK ?_;refine fP ?_ ?_<;>repeat (first | exact trivial | refine And.intro rfl ?_)))) cl) cl) cl) cl)))
       ·have hmh:=aFS (D:=D) (x:=x) (st:=st) (by omega)
        refine dX ?_
        refine cY rfl (.cons (.pure (gW x)) .nil) (aDE x n D hlx hlt (by omega) hn9 hdx (by omega) (hL.tm x hIx) 1000 (by decide) hsx) ?_
        refine eX ?_
        try refine cK ?_
        refine bC rfl (.appX (d:=26) (news:=[jS (hiB x),jS (loB x)]) rfl rfl rfl rfl (by simp) (.inl rfl) (by decide) Tryz.underlying148 Tryz.underlying148 aJW xC rfl aLd (.inl ⟨155,0,_,rfl,by decide,rfl,rfl,by simp,rfl,by simp [aV,gW]⟩) (by simp;omega) (by simp;omega) (by decide)) ?_
        refine cB ?_
        exact nx4 (loB x :: hiB x :: st) ([]) (m+1) cw ⟨(aEV (D:=D) h63n h88 (by omega) (by omega) (by omega) ▸ hES),fun y hy=>by
         simp only [List.mem_cons] at hy
         rcases hy with rfl | rfl | hy
         ·exact(hL.half x hIx (by omega)).1
         ·exact(hL.half x hIx (by omega)).2
         ·exact hIs y hy,by omega,by omega⟩ (he:=((((((a7.kill _ 10).trans (a7.kill _ 11)).trans (a7.kill _ 14)).trans (a7.kill _ 15)).trans (a7.kill _ 155))).trans (a7.of_eq (aA (aA (aA (aA (bB (by first | exact cl | (refine cK ?_;refine fP ?_ ?_<;>repeat (first | exact trivial | refine And.intro rfl ?_)))) cl) cl) cl) cl)))
 ·obtain rfl:st=[]:=by
   cases st with
   | nil=>rfl
   | cons x s=>simp at h29
  have hR:=hE.nil
  refine cB ?_
  rw [hR]
  refine⟨_,a7.kill _ 26,?_⟩
  refine cK ?_
  exact aKN rfl rfl (by show (⟨_,_,_⟩:Blk)=⟨_,_,_⟩;simp only [eZ,LV.ren,iI,aG,LV.ren_pure (mT [1]) (ratL 0) (aD.pure 0)];rfl) (by simp) rfl (sR _) rfl
def uH (q:PoR):Q4:=⟨q.w*q.p.x,q.w*q.p.y,q.w*q.p.z,q.w⟩
theorem aJI {q:PoR} {R:Nat} (h:okP R q):bd4 (2*R) (uH q):=by
 obtain⟨⟨h1,h2,h3⟩,h4,_⟩:=h
 have a:=bR q.w q.p.x
 have b:=bR q.w q.p.y
 have c:=bR q.w q.p.z
 exact⟨by show rl (q.w*q.p.x)≤_;omega,by show rl (q.w*q.p.y)≤_;omega,by show rl (q.w*q.p.z)≤_;omega,by show rl q.w≤_;omega⟩
theorem sF {w x:Rat} (h:0<w):w*x/w=x:=by
 rw [Rat.div_def,Rat.mul_comm w x,Rat.mul_assoc,Rat.mul_inv_cancel _ (by grind),Rat.mul_one]
theorem aFZ {q:PoR} (h:0<q.w):(⟨⟨q.w*q.p.x/q.w,q.w*q.p.y/q.w,q.w*q.p.z/q.w⟩,q.w⟩:PoR)=q:=by
 rw [sF h,sF h,sF h]
theorem aJ8 (d:Nat) (a b t:Rat):sY (cN d a b) t (cN d a b).length=(if a=t then d+1 else 0)+(if b=t then d+1 else 0):=by
 have h:=aFo (List.replicate (d+1) a) (List.replicate (d+1) b) t (d+1)
 rw [List.length_replicate] at h
 have e:(cN d a b).length=d+1+(d+1):=by rw [eT];omega
 rw [e]
 show sY (List.replicate (d+1) a++_) t _=_
 rw [h,uM _ _ _ _ (Nat.le_refl _),uM _ _ _ _ (Nat.le_refl _)]
theorem aAg {d:Nat} {a b:Rat} (h1:1≤d) (h6:d≤6) (hab:a<b) (hT:rl a≤64) (hT1:rl b≤64):kOK (cN d a b) d:=by
 have hl:=eT d a b
 have hne:a≠b:=by grind
 have e0:(cN d a b).getD 0 0=a:=by rw [dK _ _ _ _ (by omega),if_pos (by omega)]
 have e1:(cN d a b).getD ((cN d a b).length-1) 0=b:=by rw [hl,dK _ _ _ _ (by omega),if_neg (by omega)]
 have hm:∀ x∈cN d a b,x=a∨x=b:=fun x hx=>by
  rcases List.mem_append.1 hx with h | h
  ·exact .inl (List.mem_replicate.1 h).2
  ·exact .inr (List.mem_replicate.1 h).2
 refine⟨h1,h6,by omega,by omega,fun i hi=>?_,by rw [e0,e1];exact hne,fun t ht he=>?_,fun t ht g0 g1=>?_,fun x hx=>?_⟩
 ·rw [dK _ _ _ _ (by omega),dK _ _ _ _ (by omega)]
  split<;>split
  ·exact Rat.le_refl
  ·grind
  ·omega
  ·exact Rat.le_refl
 ·rw [aJ8]
  rcases hm t ht with rfl | rfl
  ·rw [if_pos rfl,if_neg (fun e=>hne e.symm)]
  ·rw [if_neg hne,if_pos rfl,Nat.zero_add]
 ·rw [e0] at g0;rw [e1] at g1
  rcases hm t ht with h | h
  ·exact absurd h g0
  ·exact absurd h g1
 ·rcases hm x hx with rfl | rfl<;>assumption
theorem aCM {d:Nat} {a b:Rat}:∀ i,i+1≤d+1→iP (cN d a b) (i+1)=[a]
 | 0,_=>by rw [iP,if_pos (.inl rfl),lH];rfl
 | i+1,h=>by
  rw [aHO (by omega) (by rw [dK _ _ _ _ (by omega),dK _ _ _ _ (by omega),if_pos (by omega),if_pos (by omega)]),aCM i (by omega)]
theorem aDj {d:Nat} {a b:Rat} (hab:a<b):∀ i,i+1≤d+1→iP (cN d a b) (d+1+(i+1))=[a,b]
 | 0,_=>by
  rw [←Nat.add_assoc,aLg (by omega) (by rw [dK _ _ _ _ (by omega),dK _ _ _ _ (by omega),if_neg (by omega),if_pos (by omega)];grind),Nat.add_zero,aCM d (by omega),dK _ _ _ _ (by omega),if_neg (by omega)];rfl
 | i+1,h=>by
  rw [←Nat.add_assoc,aHO (by omega) (by rw [dK _ _ _ _ (by omega),dK _ _ _ _ (by omega),if_neg (by omega),if_neg (by omega)]),aDj hab i (by omega)]
theorem aJQ {d:Nat} {a b:Rat} (hab:a<b):iP (cN d a b) (cN d a b).length=[a,b]:=by
 have:=aDj (d:=d) hab d (Nat.le_refl _)
 rwa [show d+1+(d+1)=(cN d a b).length by rw [eT];omega] at this
namespace Zq109
theorem cK {p q:Prop} (k:q) (e:p=q:=by simp only [e1,e2,e3,e4,p1,p2,p3,q1,q2,q3,l1,t0,t1,r1,r2,r3,r4,Nat.zero_add,Nat.reduceMul,Nat.reduceAdd,b1,b2,b3,b4,b5,b6,i1,i2,i3,i4,i5,i6,Nat.reduceBEq,hkl,hl,List.length_map,List.set_cons_zero,List.set_cons_succ,Nat.reduceEqDiff,reduceIte,if_true,if_false,a8,a9,aC cW,aC dR,aC aD,aT,a6,LV.kill,bH];exact rfl):p:=e.mpr k
end Zq109
open Zq109 in
theorem aFJ (d:Nat) (a b:Rat) (po:List PoR) (R:Nat) (h:cvR po d R) (hR1:1≤R) (hR:R≤1000) (hab:a<b) (ha:rl a≤64) (hb:rl b≤64):aN Tryz.prog 82 [.agg [aG d,.list 3 ((cN d a b).map ratL),.list 12 (po.map eB)]] (bL true):=by
 have hl:=h.hl
 have hd:=h.hd
 have h6:=h.h6
 have hkl:=eT d a b
 have hcp:LV.pure (.agg [aG d,.list 3 ((cN d a b).map ratL),.list 12 (po.map eB)])=true:=by simp [LV.pure,aV,aF aD,aF dR]
 have hsq:LV.pure (.agg [aG d,.list 3 ((cN d a b).map ratL),.list 12 ((po.map uH).map lD)])=true:=by simp [LV.pure,aV,aF aD,aF rY,-List.map_map]
 have hk:=aAg hd h6 hab ha hb
 have hKp:aN Tryz.prog 152 [.list 3 ((cN d a b).map ratL),aG d] (aG (d+1)):=by
  have:=vR (cN d a b) d (by omega) (by omega)
  rwa [show (cN d a b).length-d-1=d+1 by omega] at this
 refine dJ Tryz.func82 ?_
 refine dP ?_
 refine aP 18 (by decide +kernel) ?_
 refine cB ?_
 refine cp bI (aFj (cN d a b) d hk) ?_
 refine cU ?_
 refine aB (aO (v:=true) rfl rfl ((rfl)) rfl) faA ?_
 refine aB (aO (v:=true) rfl rfl ((rfl)) rfl) rX ?_
 refine aB (aO (v:=true) rfl rfl ((rfl)) rfl) lnA ?_
 refine aB (aO (v:=true) rfl rfl ((rfl)) rfl) faA ?_
 refine aB (aO (v:=true) rfl rfl ((rfl)) rfl) rX ?_
 refine aB (aO (v:=true) rfl rfl ((rfl)) rfl) faA ?_
 refine aB (aO (v:=true) rfl rfl ((rfl)) rfl) rX ?_
 refine cY (aO (v:=true) rfl rfl ((rfl)) rfl) (.cons nJ (.cons nJ .nil)) (hKp) ?_
 refine aB (aO (v:=true) rfl rfl ((rfl)) rfl) (.bin rfl rfl rfl) ?_
 refine aB rfl (.pickT rfl ((rfl))) ?_
 refine cB ?_
 exact b8 (x:=bL true) (by refine Eq.trans (b:=LV.v (Value.bool (((d+1:Nat):Int)==((d+1:Nat):Int)))) rfl ?_;rw [beq_self_eq_true]) (.pure rfl)
namespace Zq107
theorem cK {p q:Prop} (k:q) (e:p=q:=by simp only [e1,e2,e3,e4,p1,p2,p3,q1,q2,q3,l1,t0,t1,r1,r2,r3,r4,Nat.zero_add,Nat.reduceMul,Nat.reduceAdd,b1,b2,b3,b4,b5,b6,i1,i2,i3,i4,i5,i6,Nat.reduceBEq,etk,ers,List.length_map,cJ,eA,dC,List.length_cons,List.length_nil,List.nil_append,List.map_nil,List.take_nil,List.append_nil,List.set_cons_zero,List.set_cons_succ,Nat.reduceEqDiff,reduceIte,if_true,if_false,a8,a9,aC cW,aC dR,aC aD,aT,a6,LV.kill,bH,mQ,aC rY];exact rfl):p:=e.mpr k
end Zq107
open Zq107 in
theorem aLH (d:Nat) (a b:Rat) (po:List PoR) (R:Nat) (h:cvR po d R) (hR1:1≤R) (hR:R≤1000) (hab:a<b) (ha:rl a≤64) (hb:rl b≤64):aN Tryz.prog 83 [.agg [aG d,.list 3 ((cN d a b).map ratL),.list 12 (po.map eB)]] (.agg [aG d,.list 3 ((cN d a b).map ratL),.list 12 ((po.map uH).map lD)]):=by
 have hl:=h.hl
 have hd:=h.hd
 have h6:=h.h6
 have hkl:=eT d a b
 have hcp:LV.pure (.agg [aG d,.list 3 ((cN d a b).map ratL),.list 12 (po.map eB)])=true:=by simp [LV.pure,aV,aF aD,aF dR]
 have hsq:LV.pure (.agg [aG d,.list 3 ((cN d a b).map ratL),.list 12 ((po.map uH).map lD)])=true:=by simp [LV.pure,aV,aF aD,aF rY,-List.map_map]
 have hk:=aAg hd h6 hab ha hb
 refine dJ Tryz.func83 (ht:=(fun g=>LV.ren_pure g _ (by simp [LV.pure,aV,aF aD,aF rY,-List.map_map]))) ?_
 have etk:True:=trivial
 have ers:True:=trivial
 refine aK8 ?_
 refine fV ((a7.cell 3 rfl (fun Z μ w cs h=>uD 23 12 _ _ Z μ w cs h)).trans (a7.newB _ 23 12 rfl)) ?_
 refine lO (fun(j:Nat) L=>(((((((St.mk L.slot (hp [(1,⟨3,[.agg [aG d,.list 3 ((cN d a b).map ratL),.list 12 (po.map eB)]],true⟩),(2,⟨3,[.agg [.v (.int .i64 0),.v (.slice none 0 0),.v (.slice none 0 0)]],true⟩),(3,⟨3,[.agg [aG d,.list 3 ((cN d a b).map ratL),.ref 23 12 0 j]],true⟩),(23,⟨12,((po.map uH).take j).map lD,true⟩)])).put (some 1) (.eptr 1 3 0 0)).put (some 2) (.eptr 2 3 0 0)).put (some 3) (.eptr 3 3 0 0)).put (some 12) (.list 12 (po.map eB))).put (some 13) (aG po.length)).put (some 14) (aG j))) (fun j=>j≤po.length) (fun j=>po.length-j) 0 (Nat.zero_le _) ?_
 rintro j L1 hj
 refine bY ?_
 refine aQ rfl (fun h15r h15=>?_) (fun h15r h15=>?_)
 ·have hj2:j<po.length:=by omega
  have hO:aN Tryz.prog 153 [eB (po.getD j default)] (lD (uH (po.getD j default))):=aI5 (po.getD j default) R (by omega) (h.ok _ (jY hj2))
  have ers:(po.map uH).take j++[uH (po.getD j default)]=(po.map uH).take (j+1):=iY uH po hj2
  have etk:(((po.map uH).take j).map lD).take j=((po.map uH).take j).map lD:=List.take_of_length_le (by simp;omega)
  refine cH ?_
  refine aP 5 (by decide +kernel) ?_
  refine dI ?_
  refine cp cS (hO) ?_
  refine bD ?_
  refine bC rfl (.appX (d:=23) (news:=[lD (uH (po.getD j default))]) rfl rfl rfl rfl (by simp;omega) (.inl rfl) (by decide) Tryz.underlying137 Tryz.underlying137 aIv (by first | exact aA1 | (rw [rY.isAgg];exact aA1)) cs aJE (.inl ⟨22,0,_,rfl,by decide,rfl,rfl,by simp,rfl,by simp [aV,rY.pure]⟩) (by simp;omega) (by simp;omega) (by decide)) ?_
  refine dX ?_
  refine bG ((a7.kill _ 5).trans (a7.kill _ 22)) ?_
  refine aB rfl (.bin rfl rfl (dA (by omega))) ?_
  refine dI ?_
  exact kE (j+1) (by omega)
 ·obtain rfl:j=po.length:=by omega
  have hE:(po.map uH).take po.length=(po.map uH):=List.take_of_length_le (by simp)
  simp only [hE]
  refine cH ?_
  exact dE [23] rfl rfl rfl cs (b7 cs rfl) aIM (.agg (.cons (.pure rfl) (.cons (.pure (aF aD _)) (.cons (cC rY rfl rfl (by simp)) .nil))))
namespace Zq105
theorem cK {p q:Prop} (k:q) (e:p=q:=by simp only [e1,e2,e3,e4,p1,p2,p3,q1,q2,q3,l1,t0,t1,r1,r2,r3,r4,Nat.zero_add,Nat.reduceMul,Nat.reduceAdd,b1,b2,b3,b4,b5,b6,i1,i2,i3,i4,i5,i6,Nat.reduceBEq,etk,ers,egq,List.length_map,cJ,eA,dC,List.length_cons,List.length_nil,List.nil_append,List.map_nil,List.take_nil,List.append_nil,List.set_cons_zero,List.set_cons_succ,Nat.reduceEqDiff,reduceIte,if_true,if_false,a8,a9,aC cW,aC dR,aC aD,aT,a6,LV.kill,bH,mQ,aC rY];exact rfl):p:=e.mpr k
end Zq105
open Zq105 in
theorem aHw (d:Nat) (a b:Rat) (po:List PoR) (R:Nat) (h:cvR po d R) (hR1:1≤R) (hR:R≤1000) (hab:a<b) (ha:rl a≤64) (hb:rl b≤64):aN Tryz.prog 85 [.agg [aG d,.list 3 ((cN d a b).map ratL),.list 12 ((po.map uH).map lD)]] (.agg [aG d,.list 3 ((cN d a b).map ratL),.list 12 (po.map eB)]):=by
 have hl:=h.hl
 have hd:=h.hd
 have h6:=h.h6
 have hkl:=eT d a b
 have hcp:LV.pure (.agg [aG d,.list 3 ((cN d a b).map ratL),.list 12 (po.map eB)])=true:=by simp [LV.pure,aV,aF aD,aF dR]
 have hsq:LV.pure (.agg [aG d,.list 3 ((cN d a b).map ratL),.list 12 ((po.map uH).map lD)])=true:=by simp [LV.pure,aV,aF aD,aF rY,-List.map_map]
 have hk:=aAg hd h6 hab ha hb
 have hCo:=aIi (cN d a b) (by omega) (fun x hx=>Nat.le_trans (s8 ha hb x hx) (by decide))
 refine dJ Tryz.func85 (ht:=(fun g=>LV.ren_pure g _ (by simp [LV.pure,aV,aF aD,aF dR]))) ?_
 have etk:True:=trivial
 have ers:True:=trivial
 have egq:True:=trivial
 refine dP ?_
 refine aP 7 (by decide +kernel) ?_
 refine cB ?_
 refine cp cS (hCo) ?_
 refine iR ?_
 refine fV ((a7.cell 3 rfl (fun Z μ w cs h=>uD 24 12 _ _ Z μ w cs h)).trans (a7.newB _ 24 12 rfl)) ?_
 refine lO (fun(j:Nat) L=>(((((((St.mk L.slot (hp [(1,⟨3,[.agg [aG d,.list 3 ((cN d a b).map ratL),.list 12 ((po.map uH).map lD)]],true⟩),(2,⟨3,[.agg [.v (.int .i64 0),.v (.slice none 0 0),.v (.slice none 0 0)]],true⟩),(3,⟨3,[.agg [aG d,.list 3 ((cN d a b).map ratL),.ref 24 12 0 j]],true⟩),(24,⟨12,(po.take j).map eB,true⟩)])).put (some 1) (.eptr 1 3 0 0)).put (some 2) (.eptr 2 3 0 0)).put (some 3) (.eptr 3 3 0 0)).put (some 13) (.list 12 ((po.map uH).map lD))).put (some 14) (aG po.length)).put (some 15) (aG j))) (fun j=>j≤po.length) (fun j=>po.length-j) 0 (Nat.zero_le _) ?_
 rintro j L1 hj
 refine bY ?_
 refine aQ rfl (fun h16r h16=>?_) (fun h16r h16=>?_)
 ·have hj2:j<po.length:=by omega
  have hq:=h.ok _ (jY hj2)
  obtain⟨⟨q5,q6,q7⟩,q8,q9⟩:=hq
  have n5:=bR (po.getD j default).w (po.getD j default).p.x
  have n6:=bR (po.getD j default).w (po.getD j default).p.y
  have n7:=bR (po.getD j default).w (po.getD j default).p.z
  have hFP:aN Tryz.prog 96 [lD (uH (po.getD j default))] (eB (po.getD j default)):=by
   have:=aCC ((po.getD j default).w*(po.getD j default).p.x) ((po.getD j default).w*(po.getD j default).p.y) ((po.getD j default).w*(po.getD j default).p.z) (po.getD j default).w 1000000 (by decide) (by omega) (by omega) (by omega) (by omega) q9
   rw [aFZ q9] at this
   exact this
  have egq:(po.map uH).getD j default=uH (po.getD j default):=by rw [List.getD_eq_getElem?_getD,List.getElem?_map,List.getElem?_eq_getElem hj2,List.getD_eq_getElem?_getD,List.getElem?_eq_getElem hj2];rfl
  have ers:po.take j++[(po.getD j default)]=po.take (j+1):=by rw [List.take_add_one,List.getElem?_eq_getElem hj2,List.getD_eq_getElem?_getD,List.getElem?_eq_getElem hj2];rfl
  have etk:((po.take j).map eB).take j=(po.take j).map eB:=List.take_of_length_le (by simp;omega)
  refine cH ?_
  refine aP 5 (by decide +kernel) ?_
  refine dI ?_
  refine cY rfl (.cons (.pure (rY.pure _)) .nil) hFP ?_
  refine bD ?_
  refine bC rfl (.appX (d:=24) (news:=[eB (po.getD j default)]) rfl rfl rfl rfl (by simp;omega) (.inl rfl) (by decide) Tryz.underlying26 Tryz.underlying26 Z42 (by first | exact tP | (rw [dR.isAgg];exact tP)) cs B42 (.inl ⟨23,0,_,rfl,by decide,rfl,rfl,by simp,rfl,by simp [aV,dR.pure]⟩) (by simp;omega) (by simp;omega) (by decide)) ?_
  refine dX ?_
  refine bG ((a7.kill _ 5).trans (a7.kill _ 23)) ?_
  refine aB rfl (.bin rfl rfl (dA (by omega))) ?_
  refine dI ?_
  exact kE (j+1) (by omega)
 ·obtain rfl:j=po.length:=by omega
  have hE:po.take po.length=po:=List.take_of_length_le (Nat.le_refl _)
  simp only [hE]
  refine cH ?_
  exact dE [24] rfl rfl rfl cs (b7 cs rfl) T28 (.agg (.cons (.pure rfl) (.cons (.pure (aF aD _)) (.cons (cC dR rfl rfl rfl) .nil))))
namespace Zq104
theorem cK {p q:Prop} (k:q) (e:p=q:=by simp only [e1,e2,e3,e4,p1,p2,p3,q1,q2,q3,l1,t0,t1,r1,r2,r3,r4,Nat.zero_add,Nat.reduceMul,Nat.reduceAdd,b1,b2,b3,b4,b5,b6,i1,i2,i3,i4,i5,i6,Nat.reduceBEq,fz0,wF,hda,List.drop_succ_cons,List.drop_zero,List.getD_cons_zero,List.getD_cons_succ,List.length_map,cJ,eA,dC,List.length_cons,List.length_nil,List.nil_append,List.map_nil,List.take_nil,List.append_nil,List.set_cons_zero,List.set_cons_succ,Nat.reduceEqDiff,reduceIte,if_true,if_false,a8,a9,aC cW,aC dR,aC aD,aT,a6,LV.kill,bH,mQ,aC rY];exact rfl):p:=e.mpr k
end Zq104
open Zq104 in
theorem yA (d:Nat) (a b:Rat) (po:List PoR) (R:Nat) (h:cvR po d R) (hR1:1≤R) (hR:R≤1000) (hab:a<b) (ha:rl a≤64) (hb:rl b≤64):aN Tryz.prog 39 [.agg [aG d,.list 3 ((cN d a b).map ratL),.list 12 (po.map eB)]] (.list 3 [.agg [aG d,.list 3 ((cN d a b).map ratL),.list 12 (po.map eB)]]):=by
 have hl:=h.hl
 have hd:=h.hd
 have h6:=h.h6
 have hkl:=eT d a b
 have hcp:LV.pure (.agg [aG d,.list 3 ((cN d a b).map ratL),.list 12 (po.map eB)])=true:=by simp [LV.pure,aV,aF aD,aF dR]
 have hsq:LV.pure (.agg [aG d,.list 3 ((cN d a b).map ratL),.list 12 ((po.map uH).map lD)])=true:=by simp [LV.pure,aV,aF aD,aF rY,-List.map_map]
 have hk:=aAg hd h6 hab ha hb
 have hpn:aV [.agg [aG d,.list 3 ((cN d a b).map ratL),.list 12 (po.map eB)]]=true:=by simp [aV,LV.pure,aF aD,aF dR]
 have hSo:=aFJ d a b po R h hR1 hR hab ha hb
 have hOf:=aLH d a b po R h hR1 hR hab ha hb
 have hBk:=aHw d a b po R h hR1 hR hab ha hb
 have hda:iP (cN d a b) (cN d a b).length=[a,b]:=aJQ hab
 have hDa:=wV (cN d a b) (by omega) (by omega) (fun x hx=>Nat.le_trans (s8 ha hb x hx) (by decide))
 have hCu:=aIx d a b (po.map uH) (2*R) h6 hab (by omega) (by omega) (by rw [List.length_map];exact hl) (by omega) (by omega) (fun q hq=>by
  obtain⟨x,hx,rfl⟩:=List.mem_map.1 hq
  exact aJI (h.ok x hx))
 refine dJ Tryz.func39 (ht:=(fun g=>LV.ren_pure g _ (by simp [LV.pure,aV,aF aD,aF dR]))) ?_
 refine cG ?_
 refine cp cS (hSo) ?_
 refine dI ?_
 refine bO (b:=_) rfl (rfl) ?_
 refine cG ?_
 refine cp cS (hOf) ?_
 refine eI ?_
 refine cp cS (hDa) ?_
 refine dP ?_
 refine aB rfl (.sliceLl (a:=_) aD rfl Tryz.underlying25 dD rfl om) ?_
 refine dX ?_
 refine aK ?_
 refine bY ?_
 refine aY (b:=_) rfl (rfl) ?_
 refine eX ?_
 refine aP 10 (by decide +kernel) ?_
 refine dP ?_
 refine cp nK (hCu) ?_
 refine cp cS (hBk) ?_
 refine cK ?_
 refine b9 rfl rfl (aAN (z:=.agg [.v (.int .i64 0),.v (.slice none 0 0),.v (.slice none 0 0)]) (v:=.agg [aG d,.list 3 ((cN d a b).map ratL),.list 12 (po.map eB)]) Tryz.underlying88 Z28 rfl rfl T28 rfl rfl rfl hcp (by decide) (by decide)) ?_
 refine bC rfl (.app0X (d:=34) (sz:=3) (news:=[.agg [aG d,.list 3 ((cN d a b).map ratL),.list 12 (po.map eB)]]) (z:=.agg [.v (.int .i64 0),.v (.slice none 0 0),.v (.slice none 0 0)]) rfl rfl Tryz.underlying88 Tryz.underlying88 Z28 T28 rfl B28 (.inl ⟨33,0,_,rfl,rfl,rfl,by simp,rfl,hpn⟩) (by simp) (by simp) (by simp) (by decide)) ?_
 refine eP ?_
 refine aK ?_
 refine bY ?_
 refine bO (b:=_) rfl (rfl) ?_
 refine cH ?_
 exact jV [34] rfl rfl (o5 rfl rfl hpn (by simp))
theorem aIZ (x:Rat):(x-0)/(1-0)=x:=by
 rw [show ((1:Rat)-0)=1 from by decide +kernel];grind
theorem aE6 (a u:V3) (hba:fH 1 a) (hbu:fH 3 u) (s:Sp) (hs:w7 24 s):aN Tryz.prog 43 [.agg [aG 1,.list 3 ((cN 1 0 1).map ratL),.list 12 ((eR a u 0 1).map eB)],ratL s.1,ratL s.2] (.tup [.agg [aG 1,.list 3 ((cN 1 s.1 s.2).map ratL),.list 12 ((eR a u s.1 s.2).map eB)],iL 0]):=by
 obtain⟨r1,r2⟩:=hs.rl (by decide)
 have h0:=hs.2.2.1
 have hl:=hs.2.2.2.1
 have h1:=hs.2.2.2.2
 have e1:=d9 1 s.1
 have e2:=d9 1 s.2
 have r0:rl 1=1:=by decide +kernel
 have hx1:s.1<1:=by grind
 have:=aKp 1 0 1 (eR a u 0 1) (by decide) (by decide) (by decide +kernel) (by decide) s.1 s.2 s.1 s.2 (by omega) (by omega) h0 hl h1 (aIZ _) (aIZ _) hx1 (by omega) (by omega) 6 (by decide) (sX hba hbu (by decide) (by decide)) (fun k z hz=>by
  rw [aFD] at hz
  have b1:=p7 hba k
  have b2:=p7 hbu k
  have m0:=bR 0 (u.at k)
  have m1:=bR 1 (u.at k)
  have n0:=f7 (a.at k) (0*u.at k)
  have n1:=f7 (a.at k) (1*u.at k)
  have z0:rl 0=1:=by decide +kernel
  simp only [List.mem_cons,List.not_mem_nil,or_false] at hz
  rcases hz with rfl | rfl<;>omega) (fun z hz=>by
  rw [aBa] at hz
  simp only [List.mem_cons,List.not_mem_nil,or_false] at hz
  rcases hz with rfl | rfl<;>omega) h0 (by grind) h1
 rwa [aJ0 a u s.1 s.2 hx1] at this
namespace Zq120
theorem cK {p q:Prop} (k:q) (e:p=q:=by simp only [e1,e2,e3,e4,p1,p2,p3,q1,q2,q3,l1,t0,t1,r1,r2,r3,r4,Nat.zero_add,Nat.reduceMul,Nat.reduceAdd,b1,b2,b3,b4,b5,b6,i1,i2,i3,i4,i5,i6,Nat.reduceBEq,List.getD_cons_zero,List.getD_cons_succ,List.set_cons_zero,List.set_cons_succ,Nat.reduceEqDiff,reduceIte,if_true,if_false,a8,a9,aC cW,aC dR,aC aD,aT,a6,LV.kill,bH];exact rfl):p:=e.mpr k
end Zq120
open Zq120 in
theorem aJz (a u p v:V3) (hba:fH 1 a) (hbu:fH 3 u) (hbp:fH 1 p) (hbv:fH 3 v) (s t:Sp) (hs:w7 24 s) (ht:w7 24 t):aN Tryz.prog 42 [.list 6 ([s].map spL),.list 6 ([t].map spL),.boxp (.agg [aG 1,.list 3 ((cN 1 0 1).map ratL),.list 12 ((eR a u 0 1).map eB)]),.boxp (.agg [aG 1,.list 3 ((cN 1 0 1).map ratL),.list 12 ((eR p v 0 1).map eB)])] (vdL (kI a u p v [s] [t])):=by
 have hc1:=hs.rl (by decide)
 have hl1:=hs.2.2.2.1
 have hus:spL s=.agg [ratL s.1,ratL s.2]:=by unfold spL;rfl
 have hut:spL t=.agg [ratL t.1,ratL t.2]:=by unfold spL;rfl
 have hd1:=sX hba hbu hc1.1 hc1.2
 have hc2:=ht.rl (by decide)
 have hl2:=ht.2.2.2.1
 have hd2:=sX hbp hbv hc2.1 hc2.2
 have hcp1:LV.pure (.agg [aG 1,.list 3 ((cN 1 0 1).map ratL),.list 12 ((eR a u 0 1).map eB)])=true:=by simp [LV.pure,aV,aF aD,aF dR]
 have hcp2:LV.pure (.agg [aG 1,.list 3 ((cN 1 0 1).map ratL),.list 12 ((eR p v 0 1).map eB)])=true:=by simp [LV.pure,aV,aF aD,aF dR]
 have hcp3:LV.pure (.agg [aG 1,.list 3 ((cN 1 s.1 s.2).map ratL),.list 12 ((eR a u s.1 s.2).map eB)])=true:=by simp [LV.pure,aV,aF aD,aF dR]
 have hcp4:LV.pure (.agg [aG 1,.list 3 ((cN 1 t.1 t.2).map ratL),.list 12 ((eR p v t.1 t.2).map eB)])=true:=by simp [LV.pure,aV,aF aD,aF dR]
 have hU1:=aE6 a u hba hbu s hs
 have hU2:=aE6 p v hbp hbv t ht
 have hX1:=aHd 1 (cN 1 s.1 s.2) (eR a u s.1 s.2) 6 (by decide) hd1
 have hX2:=aHd 1 (cN 1 t.1 t.2) (eR p v t.1 t.2) 6 (by decide) hd2
 have hbb:∀ (a u:V3) (s:Sp),fH 1 a→fH 3 u→rl s.1≤1→rl s.2≤1→bdB 6 (bxP [dN a u s.1,dN a u s.2]):=fun a u s h1 h2 h3 h4=>by
  have hb:∀ i,i<[dN a u s.1,dN a u s.2].length→fH 6 ([dN a u s.1,dN a u s.2].getD i default):=fun i hi=>by
   match i,hi with
   | 0,_=>exact tE h1 h2 h3
   | 1,_=>exact tE h1 h2 h4
   | i+2,hi=>exact absurd hi (by simp)
  exact⟨vC hb 0 _ (by simp),vC hb 1 _ (by simp),vC hb 2 _ (by simp)⟩
 have hMB:=aFq (bxP [dN a u s.1,dN a u s.2]) (bxP [dN p v t.1,dN p v t.2]) 6 (by decide) (hbb a u s hba hbu hc1.1 hc1.2) (hbb p v t hbp hbv hc2.1 hc2.2)
 have hKi:=aJy a u p v hba hbu hbp hbv s t hs ht
 refine dJ Tryz.func42 (ht:=(fun g=>LV.ren_pure g _ (aF4 _))) ?_
 refine bY ?_
 refine dH 14 [12] (by decide +kernel) ?_
 refine aB rfl (.loadB rfl T28 hcp1) ?_
 refine bD ?_
 refine aB rfl (.idxL (n:=0) (r:=.agg [ratL s.1,ratL s.2]) rfl Tryz.underlying49 mH rfl (by decide) (by show some (spL s)=_;rw [hus]) (by rw [←hus];exact d8.csize _)) ?_
 refine dI ?_
 refine aB rfl (.idxL (n:=0) (r:=.agg [ratL s.1,ratL s.2]) rfl Tryz.underlying49 mH rfl (by decide) (by show some (spL s)=_;rw [hus]) (by rw [←hus];exact d8.csize _)) ?_
 refine cU ?_
 refine cp nK (hU1) ?_
 refine eP ?_
 refine dH 14 [12] (by decide +kernel) ?_
 refine aB rfl (.loadB rfl T28 hcp2) ?_
 refine bD ?_
 refine aB rfl (.idxL (n:=0) (r:=.agg [ratL t.1,ratL t.2]) rfl Tryz.underlying49 mH rfl (by decide) (by show some (spL t)=_;rw [hut]) (by rw [←hut];exact d8.csize _)) ?_
 refine dI ?_
 refine aB rfl (.idxL (n:=0) (r:=.agg [ratL t.1,ratL t.2]) rfl Tryz.underlying49 mH rfl (by decide) (by show some (spL t)=_;rw [hut]) (by rw [←hut];exact d8.csize _)) ?_
 refine cU ?_
 refine cp nK (hU2) ?_
 refine cG ?_
 refine aP 6 (by decide +kernel) ?_
 refine bD ?_
 refine cp cS (hX1) ?_
 refine bD ?_
 refine cp cS (hX2) ?_
 refine cY rfl (.cons (.pure (bxE.pure _)) (.cons (.pure (bxE.pure _)) .nil)) hMB ?_
 refine dI ?_
 refine aQ rfl (fun h42r h42=>?_) (fun h42r h42=>?_)
 ·have hv:kI a u p v [s] [t]=(true,0,0):=if_neg (by simpa using h42)
  refine eI ?_
  exact dE [] rfl rfl rfl cs (b7 cs rfl) T92 (by rw [hv];exact .pure pu)
 ·have hv:kI a u p v [s] [t]=(false,sgK a u p v s t,0):=if_pos (by simpa using h42)
  refine bY ?_
  refine cp bI (hKi) ?_
  refine dX ?_
  exact dE [] rfl rfl rfl cs (b7 cs rfl) T92 (by rw [hv];exact .pure pu)
end Go.Proofs.YtckppbhafancnaaGreat
end
section
set_option linter.unusedVariables false
set_option linter.unusedSimpArgs false
set_option maxHeartbeats 4000000
namespace Go.Lg
section
variable {P:Program} {W w:World} {X:XS} {Z0 Z:Nat→Prop} {μ:Nat→Option Nat} {a:Act} {n:Nat} {ops:Array Oper}
theorem aCo {m id:Nat} {fr:List Nat} {K:St→Prop} {Q:Exit→Act→World→Prop} {L:St} {f:Nat→St} (hfol:P.follows .mixedOrders=true) (hs:kZ n W X Z0 L a w)
  (f0:f 0=L) (fs':∀ i o,ops[i]?=some o→i<m∨fr≠[]→Step P true ops o (f i) (f (i+1)))
  (fsB:∀ i o,ops[i]?=some o→m≤i→∀ (a:Act) (w:World) (K:Act→World→Prop) (Q:Exit→Act→World→Prop),kZ n W X Z0 (f i) a w→(∀ t,o.dst=some t→t<n)→(∀ a' w',kZ n W X Z0 (f (i+1)) a' w'→K a' w')→if Region.wanted o (yielded ops a.tmps) then o.wp P a w K Q else K (a.put o.dst undef) w) (fK:K (f ops.size)) (hmn:m≤ops.size) (hdir:∀ i o,ops[i]?=some o→∀ j∈kP o,j<i)
  (htail:∀ i o,ops[i]?=some o→m≤i→∀ j,j<i→Anc ops j i∨(i=m∧j∈fr)) (hpre:∀ i o,ops[i]?=some o→i<m→mE o.op=false)
  (hpair:∀ i j oi oj d,ops[i]?=some oi→ops[j]?=some oj→i<m→j<m→i≠j→oj.dst=some d→oi.dst≠some d∧(d∈oi.looksAt ops→if j<i then Anc ops j i else Anc ops i j))
  (hfree:∀ j o,ops[j]?=some o→j∈fr→j<m∧m<ops.size∧(∀ om,ops[m]?=some om→om.guard=none∧((om.dst=none∧∃ T p x,om.op=.store T p x)∨∃ d xs ts,om.dst=some d∧om.op=.call ⟨.builtin .append,xs,ts⟩) ∧
    (∀ d,o.dst=some d→d∉om.looksAt ops∧om.dst≠some d)∧∀ d,om.dst=some d→d∉o.looksAt ops) ∧
   o.guard=none∧((∃ x,o.op=.move x)∨(∃ q T x y U,o.op=.binOp q T x y U∧∀ om,ops[m]?=some om→om.dst=none)∨(∃ x i,o.op=.extract x i∧∀ om,ops[m]?=some om→om.dst=none) ∨
    ((∀ om,ops[m]?=some om→om.dst=none)∧∃ r,OpV P (f (m+1)).heap (f j).ev (o.dst.getD 0) o.op r []∧∀ t,o.dst=some t→(f (j+1)).slot t=r)))
  (hd:∀ o∈ops.toList,∀ t,o.dst=some t→t<n) (hq:∀ L' a' w',K L'→kZ n W X Z0 L' a' w'→Q .normal a' w') :
  (Code.region id ops true).wp P Q a w:=by
 have getD_of:∀ i o,ops[i]?=some o→ops.getD i default=o:=fun i o h=>by rw [Array.getD_eq_getD_getElem?,h];rfl
 have lt_of:∀ i o,ops[i]?=some o→i<ops.size:=fun i o h=>(Array.getElem?_eq_some_iff.1 h).1
 have some_of:∀ i,i<ops.size→∃ o,ops[i]?=some o:=fun i h=>⟨_,Array.getElem?_eq_getElem h⟩
 have hstep:∀ i o,ops[i]?=some o→i<m→(f i).heap.le (f (i+1)).heap∧∀ t,o.dst≠some t→(f (i+1)).slot t=(f i).slot t:=fun i o h him=>s7 (hpre i o h him) (fs' i o h (.inl him))
 have hle:∀ i j,i≤j→j≤m→(f i).heap.le (f j).heap:=by
  intro i j hij
  induction j with
  | zero =>
   intro _
   have:i=0:=by omega
   subst this;exact cM.le_refl _
  | succ j ih =>
   intro hjm
   by_cases e:i=j+1
   ·subst e;exact cM.le_refl _
   ·obtain⟨o,ho⟩:=some_of j (by omega)
    exact cM.le_trans (ih (by omega) (by omega)) (hstep j o ho (by omega)).1
 have hconst:∀ i j t,i≤j→j≤m→(∀ k o,i≤k→k<j→ops[k]?=some o→o.dst≠some t)→(f j).slot t=(f i).slot t:=by
  intro i j t hij
  induction j with
  | zero =>
   intro _ _
   have:i=0:=by omega
   subst this;rfl
  | succ j ih =>
   intro hjm hk
   by_cases e:i=j+1
   ·subst e;rfl
   ·obtain⟨o,ho⟩:=some_of j (by omega)
    rw [(hstep j o ho (by omega)).2 t (hk j o (by omega) (by omega) ho)]
    exact ih (by omega) (by omega) (fun k o h1 h2=>hk k o h1 (by omega))
 have hle_ne:∀ i j b,i≤j→j≤m→(f i).heap b≠none→(f j).heap b≠none:=fun i j b hij hjm hb=>by
  obtain⟨blk,hblk⟩:=Option.ne_none_iff_exists'.1 hb
  obtain⟨mm,g,_⟩:=hle i j hij hjm b blk hblk
  rw [g];simp
 have hslot:∀ i o t,ops[i]?=some o→i<m→o.dst=some t→(f m).slot t=(f (i+1)).slot t:=fun i o t ho him hdt =>
  hconst (i+1) m t (by omega) (Nat.le_refl _) (fun k ok h1 h2 hk e=>(hpair i k o ok t ho hk him h2 (by omega) e).1 hdt)
 let closed:Array Bool→Prop:=fun D=>∀ i o,ops[i]?=some o→D.getD i false=true→∀ j∈kP o,D.getD j false=true
 have hclosed:∀ D,closed D→∀ j i,Anc ops j i→(∀ o,ops[i]?=some o→∀ k∈kP o,D.getD k false=true)→D.getD j false=true:=by
  intro D hD j i hA
  induction hA with
  | @one i o ho h=>intro hr;exact hr o ho _ h
  | @step k i o hA ho hk ih=>intro hr;exact ih (fun o' ho' k' hk'=>hD k o' ho' (hr o ho k hk) k' hk')
 let PhA:Array Bool→Act→World→Prop:=fun D a w=>(∀ i,D.getD i false=true→i<m)∧a.defers=[]∧a.tmps.size=n∧∃ μ Z,Core W X Z0 μ Z (f m).heap w ∧
  (∀ b,μ b≠none→(f 0).heap b≠none∨∃ i,i<m∧D.getD i false=true∧aCZ f i b)∧∀ t,bP Z μ w (bW ops f m D t) (a.tmps.getD t undef)
 let PhB:Array Bool→Act→World→Prop:=fun D a w=>∃ k,m≤k∧(∀ i,i<ops.size→(D.getD i false=true↔i<k))∧k≤ops.size∧kZ n W X Z0 (f k) a w
 let PhC:Array Bool→Act→World→Prop:=fun D a w=>m<ops.size∧(∃ om kb,ops[m]?=some om∧(om.dst=none→kb=none)∧(∀ t,om.dst≠some t→(f (m+1)).slot t=kK kb ((f m).slot t)) ∧
  kZ n W X Z0 ⟨cZ ops f m om.dst kb D,(f (m+1)).heap⟩ a w)∧(∀ i,D.getD i false=true→i≤m)∧D.getD m false=true∧(∀ i,i<m→i∉fr→D.getD i false=true)
 have hAB:∀ D a w,PhA D a w→(∀ i,i<m→D.getD i false=true)→kZ n W X Z0 (f m) a w:=by
  rintro D a w ⟨_,hdf,hsz,μ,Z,hc,_,hr⟩ hall
  refine⟨hdf,hsz,μ,Z,hc,fun t=>?_⟩
  have:=hr t
  unfold bW at this
  split at this
  ·exact this
  ·rename_i hno
   rw [hconst 0 m t (Nat.zero_le _) (Nat.le_refl _) (fun k o _ hkm hk e=>hno ⟨k,o,hkm,hall k hkm,hk,e⟩)]
   exact this
 refine wp_region_any hfol (xH (fun D a w=>closed D∧(PhA D a w∨PhB D a w∨PhC D a w)) hdir ?_ ?_ ops.size _ _ _ (by simp) ?_ ?_)
 ·
  intro D a w i o hDs ⟨hcl,hI⟩ ho hni hrd
  have hin:=lt_of i o ho
  have hni':D.getD i false=false:=by
   rw [Array.getD_eq_getD_getElem?,Array.getElem?_eq_getElem (by omega)] at hni ⊢
   simpa using hni
  have hset:∀ k,(D.setIfInBounds i true).getD k false=true↔k=i∨D.getD k false=true:=fun k=>by
   by_cases e:i=k
   ·subst e
    rw [Array.getD_eq_getD_getElem?,Array.getElem?_setIfInBounds_self_of_lt (by omega)];simp
   ·rw [Array.getD_eq_getD_getElem?,Array.getElem?_setIfInBounds_ne e,←Array.getD_eq_getD_getElem?]
    constructor
    ·exact fun h=>.inr h
    ·rintro(h | h)
     ·exact absurd h.symm e
     ·exact h
  have hcl':closed (D.setIfInBounds i true):=fun k ok hk hDk j hj=>by
   rcases(hset k).1 hDk with rfl | h
   ·rw [ho] at hk;cases hk
    exact(hset j).2 (.inr (hrd j hj))
   ·exact(hset j).2 (.inr (hcl k ok hk h j hj))
  have hrd':∀ o',ops[i]?=some o'→∀ k∈kP o',D.getD k false=true:=fun o' ho' k hk=>(by rw [ho] at ho';cases ho';exact hrd k hk)
  have hdo:∀ t,o.dst=some t→t<n:=hd o (by rw [Array.mem_toList_iff];exact Array.mem_of_getElem? ho)
  have tail:∀ k,m≤k→(∀ j,j<ops.size→(D.getD j false=true↔j<k))→k=i→kZ n W X Z0 (f k) a w →
    if Region.wanted o (yielded ops a.tmps) then o.wp P a w (fun a' w'=>closed (D.setIfInBounds i true)∧(PhA (D.setIfInBounds i true) a' w'∨PhB (D.setIfInBounds i true) a' w'∨PhC (D.setIfInBounds i true) a' w')) Q
    else closed (D.setIfInBounds i true)∧(PhA (D.setIfInBounds i true) (a.put o.dst undef) w∨PhB (D.setIfInBounds i true) (a.put o.dst undef) w∨PhC (D.setIfInBounds i true) (a.put o.dst undef) w):=by
   intro k hmk hDk e hsim
   subst e
   refine fsB k o ho hmk a w (fun a' w'=>closed (D.setIfInBounds k true)∧(PhA (D.setIfInBounds k true) a' w'∨PhB (D.setIfInBounds k true) a' w'∨PhC (D.setIfInBounds k true) a' w')) _ hsim hdo (fun a' w' hs'=>⟨hcl',.inr (.inl ⟨k+1,by omega,fun j hj=>?_,by omega,hs'⟩)⟩)
   rw [hset j,hDk j hj];omega
  have hread:i<m→∀ t,t∈o.looksAt ops→(f i).slot t=bW ops f m D t:=by
   intro him t ht
   by_cases hex:∃ j oj,j<m∧ops[j]?=some oj∧oj.dst=some t
   ·obtain⟨j,oj,hjm,hj,hdj⟩:=hex
    have huniq:∀ k ok,k<m→ops[k]?=some ok→ok.dst=some t→k=j:=fun k ok hkm hk hdk =>
     Classical.byContradiction fun hne=>(hpair k j ok oj t hk hj hkm hjm hne hdj).1 hdk
    by_cases hji:j=i
    ·subst hji
     have e1:(f j).slot t=(f 0).slot t:=hconst 0 j t (Nat.zero_le _) (by omega) (fun k ok _ hkj hk e=>by have:=huniq k ok (by omega) hk e;omega)
     have e2:bW ops f m D t=(f 0).slot t:=by
      unfold bW
      rw [if_neg]
      rintro⟨k,ok,hkm,hDk,hk,hdk⟩
      have:=huniq k ok hkm hk hdk
      subst this
      rw [hni'] at hDk;cases hDk
     rw [e1,e2]
    ·have hp:=(hpair i j o oj t ho hj him hjm (Ne.symm hji) hdj).2 ht
     by_cases hlt:j<i
     ·rw [if_pos hlt] at hp
      have hDj:=hclosed D hcl j i hp hrd'
      have e2:bW ops f m D t=(f m).slot t:=by
       unfold bW
       rw [if_pos ⟨j,oj,hjm,hDj,hj,hdj⟩]
      rw [e2,hslot j oj t hj hjm hdj]
      exact hconst (j+1) i t (by omega) (by omega) (fun k ok hjk hki hk e=>by have:=huniq k ok (by omega) hk e;omega)
     ·rw [if_neg hlt] at hp
      have e1:(f i).slot t=(f 0).slot t:=hconst 0 i t (Nat.zero_le _) (by omega) (fun k ok _ hki hk e=>by have:=huniq k ok (by omega) hk e;omega)
      have e2:bW ops f m D t=(f 0).slot t:=by
       unfold bW
       rw [if_neg]
       rintro⟨k,ok,hkm,hDk,hk,hdk⟩
       have:=huniq k ok hkm hk hdk
       subst this
       have:=hclosed D hcl i k hp (fun o' ho' k' hk'=>hcl k o' ho' hDk k' hk')
       rw [hni'] at this;cases this
      rw [e1,e2]
   ·have e1:(f i).slot t=(f 0).slot t:=hconst 0 i t (Nat.zero_le _) (by omega) (fun k ok _ hki hk e=>hex ⟨k,ok,by omega,hk,e⟩)
    have e2:bW ops f m D t=(f 0).slot t:=by
     unfold bW
     rw [if_neg]
     rintro⟨k,ok,hkm,hDk,hk,hdk⟩
     exact hex ⟨k,ok,hkm,hk,hdk⟩
    rw [e1,e2]
  have hafter:i<m→∀ t,bW ops f m (D.setIfInBounds i true) t=if o.dst=some t then(f (i+1)).slot t else bW ops f m D t:=by
   intro him t
   by_cases hdt:o.dst=some t
   ·rw [if_pos hdt]
    unfold bW
    rw [if_pos ⟨i,o,him,(hset i).2 (.inl rfl),ho,hdt⟩]
    exact hslot i o t ho him hdt
   ·rw [if_neg hdt]
    unfold bW
    congr 1
    apply propext
    constructor
    ·rintro⟨k,ok,hkm,hDk,hk,hdk⟩
     rcases(hset k).1 hDk with rfl | h
     ·rw [ho] at hk;cases hk;exact absurd hdk hdt
     ·exact⟨k,ok,hkm,h,hk,hdk⟩
    ·rintro⟨k,ok,hkm,hDk,hk,hdk⟩
     exact⟨k,ok,hkm,(hset k).2 (.inr hDk),hk,hdk⟩
  have hfull:(∀ j,j<m→D.getD j false=true)→∀ t,bW ops f m D t=(f m).slot t:=by
   intro hall t
   unfold bW
   split
   ·rfl
   ·rename_i hno
    rw [hconst 0 m t (Nat.zero_le _) (Nat.le_refl _) (fun k o _ hkm hk e=>hno ⟨k,o,hkm,hall k hkm,hk,e⟩)]
  rcases hI with hA | ⟨k,hmk,hDk,hkn,hsim⟩ | ⟨hms,⟨om,kb,hom,hkb,hslm,hsim⟩,hDm,hDmm,hDf⟩
  ·by_cases him:i<m
   ·obtain⟨hDm,hdf,hsz,μ,Z,hc,hnew,hr⟩:=hA
    have hDm':∀ k,(D.setIfInBounds i true).getD k false=true→k<m:=fun k hk=>by
     rcases(hset k).1 hk with rfl | h
     ·exact him
     ·exact hDm k h
    have hd':∀ t,o.dst=some t→t<a.tmps.size:=fun t h=>by rw [hsz];exact hdo t h
    have hguard:∀ res,bS ops (f i) o res→Region.wanted o (yielded ops a.tmps)=res:=by
     intro res hg
     refine fM (L:=⟨bW ops f m D,(f m).heap⟩) hr ?_
     unfold bS at hg ⊢
     cases h:o.guard with
     | none=>rw [h] at hg;exact hg
     | some p =>
      obtain⟨j,want⟩:=p
      rw [h] at hg
      obtain⟨d,q1,q⟩:=hg
      have e:(f i).slot d=bW ops f m D d:=hread him d (by unfold Oper.looksAt;rw [h];simp [q1])
      refine⟨d,q1,?_⟩
      show (∃ b,bW ops f m D d=_∧_)∨(bW ops f m D d=_∧_)
      rw [←e]
      exact q
    have hfin:∀ (r:LV) (v:Value) (w':World) (μ':Nat→Option Nat) (Z':Nat→Prop),(∀ t,o.dst=some t→(f (i+1)).slot t=r)→Core W X Z0 μ' Z' (f m).heap w' →
      (∀ b,μ' b≠none→μ b≠none∨aCZ f i b)→(∀ t,bP Z' μ' w' (bW ops f m D t) (a.tmps.getD t undef))→bP Z' μ' w' r v →
      closed (D.setIfInBounds i true)∧(PhA (D.setIfInBounds i true) (a.put o.dst v) w'∨PhB (D.setIfInBounds i true) (a.put o.dst v) w'∨PhC (D.setIfInBounds i true) (a.put o.dst v) w'):=by
     intro r v w' μ' Z' hrs hc' hnw hr' hv
     refine⟨hcl',.inl ⟨hDm',by rw [eG];exact hdf,by rw [fU];exact hsz,μ',Z',hc',fun b hb=>?_,fun t=>?_⟩⟩
     ·rcases hnw b hb with h | h
      ·rcases hnew b h with h | ⟨k,hkm,hDk,hk⟩
       ·exact .inl h
       ·exact .inr ⟨k,hkm,(hset k).2 (.inr hDk),hk⟩
      ·exact .inr ⟨i,him,(hset i).2 (.inl rfl),h⟩
     ·rw [hafter him t]
      have:=gL (L:=⟨bW ops f m D,(f m).heap⟩) (d:=o.dst) hd' hr' hv t
      split
      ·rename_i hdt
       rw [hrs t hdt]
       rw [hdt,bU,if_pos rfl] at this
       rw [hdt];exact this
      ·rename_i hdt
       cases hdd:o.dst with
       | none=>rw [hdd] at this;exact this
       | some d =>
        rw [hdd] at this hdt
        rwa [bU,if_neg (fun e=>hdt (by rw [e]))] at this
    have hstp:=fs' i o ho (by first | exact .inl (by omega) | (refine .inr ?_;rintro rfl;simp_all))
    cases hstp':hstp with
    | skip hg h =>
     rw [hguard false hg]
     simp only [Bool.false_eq_true,if_false]
     exact hfin (.tup []) undef w μ Z (fun t ht=>by rw [h,ht,bU,if_pos rfl]) hc (fun b hb=>.inl hb) hr ⟨#[],rfl,rfl⟩
    | @val r fr H1 hg hH hfr hov h =>
     rw [hguard true hg]
     simp only [if_true]
     have hH1:H1=(f (i+1)).heap:=by rw [h]
     have hle1:H1.le (f m).heap:=by rw [hH1];exact hle (i+1) m (by omega) (Nat.le_refl _)
     have hov':=hov.le hle1
     obtain⟨dst,op,ty,pos,after,g⟩:=o
     have hops:∀ x∈op.operands,bP Z μ w ((f i).ev x) (a.eval x):=by
      intro x hx
      cases x with
      | tmp t =>
       have ht:t∈Oper.looksAt ops ⟨dst,op,ty,pos,after,g⟩:=by
        unfold Oper.looksAt
        simp only [List.mem_append,List.mem_filterMap]
        exact .inl ⟨.tmp t,by simpa using hx,rfl⟩
       show bP Z μ w ((f i).slot t) (a.tmps.getD t undef)
       rw [hread him t ht];exact hr t
      | const v=>exact fL (L:=⟨bW ops f m D,(f m).heap⟩) hr (.const v)
      | func g=>exact fL (L:=⟨bW ops f m D,(f m).heap⟩) hr (.func g)
      | global g=>exact fL (L:=⟨bW ops f m D,(f m).heap⟩) hr (.global g)
     refine OpV.sound hc hov' hops (fun b blk hb=>?_) dst ty pos after g (fun v w' μ' Z' haf=>?_)
     ·obtain⟨q1,mm,q2,q3⟩:=hfr b blk hb
      obtain⟨m2,q4,q5,_⟩:=hle1 b _ q2
      refine⟨m2,q4,fun e=>q5 (q3 e),?_⟩
      cases hμ:μ b with
      | none=>rfl
      | some id =>
       rcases hnew b (by rw [hμ];simp) with h0 | ⟨k,hkm,hDk,hk1,hk2⟩
       ·exact absurd q1 (hle_ne 0 i b (Nat.zero_le _) (by omega) h0)
       ·have hki:k≠i:=by rintro rfl;rw [hni'] at hDk;cases hDk
        by_cases hlt:k<i
        ·exact absurd q1 (hle_ne (k+1) i b (by omega) (by omega) hk2)
        ·have:(f (i+1)).heap b≠none:=by rw [←hH1,q2];simp
         exact absurd hk1 (hle_ne (i+1) k b (by omega) (by omega) this)
     ·refine hfin r v w' μ' Z' (fun t ht=>by rw [h];simp only at ht;subst ht;exact(bU _ _ _ _).trans (if_pos rfl)) haf.core (fun b hb=>?_) (fun t=>(hr t).mono haf.hz haf.hm haf.hf) haf.rep
      rcases haf.new b hb with h' | h'
      ·exact .inl h'
      ·simp only [List.mem_map] at h'
       obtain⟨⟨b',blk⟩,hb',rfl⟩:=h'
       obtain⟨q1,mm,q2,_⟩:=hfr b' blk hb'
       exact .inr ⟨q1,by rw [←hH1,q2];simp⟩
    | st hg ho' =>
     have:=hpre i o ho him
     rw [ho'.tail] at this;cases this
    | stM hdr _ _=>cases hdr
   ·have him':i=m:=by
     by_cases e:i=m
     ·exact e
     ·rcases htail i o ho (by omega) (i-1) (by omega) with h | ⟨h,_⟩
      ·have:=hA.1 (i-1) (hclosed D hcl _ i h hrd');omega
      ·exact absurd h e
    by_cases hall:∀ j,j<i→D.getD j false=true
    ·subst him'
     exact tail i (Nat.le_refl _) (fun j hj=>⟨fun h=>hA.1 j h,fun h=>hall j h⟩) rfl (hAB D a w hA hall)
    ·
     obtain⟨j0,hj0,hDj0⟩:∃ j,j<i∧D.getD j false=false:=by
      obtain⟨j,h⟩:=Classical.not_forall.1 hall
      obtain⟨h,h'⟩:=Classical.not_imp.1 h
      exact⟨j,h,by simpa using h'⟩
     have hnf:∀ j,j<m→j∉fr→D.getD j false=true:=fun j hj hjf=>by
      rcases htail i o ho (by omega) j (by omega) with h | ⟨_,h⟩
      ·exact hclosed D hcl j i h hrd'
      ·exact absurd h hjf
     have hj0f:j0∈fr:=Classical.byContradiction fun h=>by have:=hnf j0 (by omega) h;rw [hDj0] at this;cases this
     obtain⟨oj0,hoj0⟩:=some_of j0 (by omega)
     subst him'
     obtain⟨_,hms,hst,_⟩:=hfree j0 oj0 hoj0 hj0f
     obtain⟨hg0,hop,_⟩:=hst o ho
     have hsl:∀ t,t∈o.looksAt ops→bW ops f i D t=(f i).slot t:=by
      intro t ht
      unfold bW
      split
      ·rfl
      ·rename_i hno
       refine(hconst 0 i t (Nat.zero_le _) (Nat.le_refl _) (fun k ok _ hki hk e=>hno ⟨k,ok,hki,?_,hk,e⟩)).symm
       by_cases hkf:k∈fr
       ·exact absurd ht (((hfree k ok hk hkf).2.2.1 o ho).2.2.1 t e).1
       ·exact hnf k hki hkf
     have hev:∀ y,y∈o.op.operands→St.ev ⟨bW ops f i D,(f i).heap⟩ y=(f i).ev y:=by
      intro y hy
      cases y with
      | tmp t =>
       show bW ops f i D t=(f i).slot t
       refine hsl t ?_
       unfold Oper.looksAt
       simp only [List.mem_append,List.mem_filterMap]
       exact .inl ⟨.tmp t,by simpa using hy,rfl⟩
      | const v=>rfl
      | func g=>rfl
      | global g=>rfl
     have hA2:kZ n W X Z0 ⟨bW ops f i D,(f i).heap⟩ a w:=by
      obtain⟨_,hdf,hsz,μ,Z,hc,_,hr⟩:=hA
      exact⟨hdf,hsz,μ,Z,hc,hr⟩
     have hstep2:∃ kb,(o.dst=none→kb=none)∧(∀ t,o.dst≠some t→(f (i+1)).slot t=kK kb ((f i).slot t)) ∧
       Step P true ops o ⟨bW ops f i D,(f i).heap⟩ ⟨cZ ops f i o.dst kb D,(f (i+1)).heap⟩:=by
      have hs1:=fs' i o ho (by first | exact .inl (by omega) | (refine .inr ?_;rintro rfl;simp_all))
      obtain⟨dst,op,ty,pos,after,g⟩:=o
      simp only at hg0 hop
      rcases hop with⟨hd0,T,p,x,hop⟩ | ⟨d,xs,ts,hd0,hop⟩
      ·subst hg0 hd0 hop
       have e1:=hev p (by simp [Op.operands])
       have e2:=hev x (by simp [Op.operands])
       cases hs1 with
       | skip hg h=>cases hg
       | val hg hle hfr hov h =>
        cases hov with
        | pure h=>cases h
        | alloc h=>cases h
        | call h=>cases h
       | st hg hot =>
        generalize hfe:f (i+1)=F at hot
        cases hot with
        | store hp hb hs hm hi hy hput hT hne =>
         refine⟨none,fun _=>rfl,fun t _=>rfl,.st rfl ?_⟩
         have:=OpT.store (P:=P) (L:=⟨bW ops f i D,(f i).heap⟩) (dst:=none) (x:=x) (e1.trans hp) hb hs hm hi hy (by rw [e2];exact hput) (by rw [e2];exact hT) (by rw [e2];exact hne)
         exact this
       | stM hdr _ _=>cases hdr
      ·subst hg0 hd0 hop
       cases hs1 with
       | skip hg h=>cases hg
       | val hg hle hfr hov h =>
        cases hov with
        | pure h=>cases h
        | alloc h=>cases h
        | call h=>cases h
       | st hg hot =>
        generalize hfe:f (i+1)=F at hot
        cases hot with
        | @appX T U E E' d1 b sz len blk x y news z by_ hx hb hs hm hlen hbd hb0 hT hU hz hE hzs hby hy hsz h63 hs0 =>
         have e1:=hev x (by simp [Op.operands,Call.operands])
         have e2:=hev y (by simp [Op.operands,Call.operands])
         refine⟨some b,(fun h=>by cases h),fun t ht=>?_,.st rfl ?_⟩
         ·exact(bU _ _ _ _).trans (if_neg (fun e=>ht (by rw [e])))
         ·have:=OpT.appX (P:=P) (L:=⟨bW ops f i D,(f i).heap⟩) (dst:=some d) (x:=x) (y:=y) (e1.trans hx) hb hs hm hlen hbd hb0 hT hU hz hE hzs hby (by rw [e2];exact hy) hsz h63 hs0
          have hq:(⟨cZ ops f i (some d) (some b) D,((((f i).kill b).setB d1 (some ⟨sz,bH b (blk.vals.take len++news),true⟩)).put (some d) (.ref d1 sz 0 (len+news.length))).heap⟩:St) =
            (((St.kill ⟨bW ops f i D,(f i).heap⟩ b).setB d1 (some ⟨sz,bH b (blk.vals.take len++news),true⟩)).put (some d) (.ref d1 sz 0 (len+news.length))):=by
           show (⟨_,_⟩:St)=⟨_,_⟩
           congr 1
           funext t
           unfold cZ
           rw [hfe,bU]
           refine Eq.trans ?_ (bU _ _ _ _).symm
           by_cases e:t=d
           ·subst e;rw [if_pos rfl,if_pos rfl,if_pos rfl]
           ·rw [if_neg (by simpa using fun h=>e h.symm),if_neg e];rfl
          rw [hq]
          exact this
        | @app0X T U E E' d1 sz x y news z by_ hx hbd hT hU hz hE hzs hby hy hn hsz h63 hs0 =>
         have e1:=hev x (by simp [Op.operands,Call.operands])
         have e2:=hev y (by simp [Op.operands,Call.operands])
         refine⟨none,(fun h=>by cases h),fun t ht=>?_,.st rfl ?_⟩
         ·exact(bU _ _ _ _).trans (if_neg (fun e=>ht (by rw [e])))
         ·have:=OpT.app0X (P:=P) (L:=⟨bW ops f i D,(f i).heap⟩) (dst:=some d) (x:=x) (y:=y) (e1.trans hx) hbd hT hU hz hE hzs hby (by rw [e2];exact hy) hn hsz h63 hs0
          have hq:(⟨cZ ops f i (some d) none D,((((f i).setB d1 (some ⟨sz,news,true⟩)).put (some d) (.ref d1 sz 0 news.length))).heap⟩:St) =
            (((St.setB ⟨bW ops f i D,(f i).heap⟩ d1 (some ⟨sz,news,true⟩)).put (some d) (.ref d1 sz 0 news.length))):=by
           show (⟨_,_⟩:St)=⟨_,_⟩
           congr 1
           funext t
           unfold cZ
           rw [hfe,bU]
           refine Eq.trans ?_ (bU _ _ _ _).symm
           by_cases e:t=d
           ·subst e;rw [if_pos rfl,if_pos rfl,if_pos rfl]
           ·rw [if_neg (by simpa using fun h=>e h.symm),if_neg e];rfl
          rw [hq]
          exact this
       | stM hdr _ _=>cases hdr
     obtain⟨kb,hkb,hkslot,hstep2⟩:=hstep2
     refine hF hA2 hstep2 hdo (K:=fun a' w'=>closed (D.setIfInBounds i true)∧(PhA (D.setIfInBounds i true) a' w'∨PhB (D.setIfInBounds i true) a' w'∨PhC (D.setIfInBounds i true) a' w')) (fun a' w' hs'=>⟨hcl',.inr (.inr ⟨hms,⟨o,kb,ho,hkb,hkslot,?_⟩,fun k hk=>?_,(hset i).2 (.inl rfl),fun k hk hkf=>(hset k).2 (.inr (hnf k hk hkf))⟩)⟩)
     ·have:bW ops f i (D.setIfInBounds i true)=bW ops f i D:=by
       funext t
       unfold bW
       congr 1
       apply propext
       constructor
       ·rintro⟨k,ok,hkm,hDk,hk,hdk⟩
        rcases(hset k).1 hDk with rfl | h
        ·omega
        ·exact⟨k,ok,hkm,h,hk,hdk⟩
       ·rintro⟨k,ok,hkm,hDk,hk,hdk⟩
        exact⟨k,ok,hkm,(hset k).2 (.inr hDk),hk,hdk⟩
      have e:cZ ops f i o.dst kb (D.setIfInBounds i true)=cZ ops f i o.dst kb D:=by
       funext t;unfold cZ;rw [this]
      rw [e];exact hs'
     ·rcases(hset k).1 hk with rfl | h
      ·exact Nat.le_refl _
      ·have:=hA.1 k h;omega
  ·have hik:k≤i:=by
    by_cases e:i<k
    ·have:=(hDk i hin).2 e;rw [hni'] at this;cases this
    ·omega
   have:k=i:=by
    by_cases e:k=i
    ·exact e
    ·rcases htail i o ho (by omega) k (by omega) with h | ⟨h,_⟩
     ·have:=hclosed D hcl k i h hrd'
      have:=(hDk k (by omega)).1 this;omega
     ·omega
   exact tail k hmk hDk this hsim
  ·
   have hDne:i≠m:=by rintro rfl;rw [hni'] at hDmm;cases hDmm
   by_cases him:i<m
   ·have hif:i∈fr:=Classical.byContradiction fun h=>by have:=hDf i him h;rw [hni'] at this;cases this
    obtain⟨_,_,hst,hg0,hop⟩:=hfree i o ho hif
    obtain⟨_,_,hd1,hd2⟩:=hst om hom
    have hrd1:∀ t,t∈o.looksAt ops→cZ ops f m om.dst kb D t=kK kb ((f i).slot t):=fun t ht=>by
     unfold cZ
     rw [if_neg (fun e=>hd2 t e ht),←hread him t ht]
    have hopr:∀ t,Operand.tmp t∈o.op.operands→t∈o.looksAt ops:=fun t hy=>by
     unfold Oper.looksAt
     simp only [List.mem_append,List.mem_filterMap]
     exact .inl ⟨.tmp t,by simpa using hy,rfl⟩
    have hev:kb=none→∀ y,y∈o.op.operands→(f i).ev y=St.ev ⟨cZ ops f m om.dst kb D,(f (m+1)).heap⟩ y:=by
     intro hk y hy
     cases y with
     | tmp t =>
      show (f i).slot t=cZ ops f m om.dst kb D t
      rw [hrd1 t (hopr t hy),hk];rfl
     | const v=>rfl
     | func g=>rfl
     | global g=>rfl
    have hevk:∀ y,y∈o.op.operands→St.ev ⟨cZ ops f m om.dst kb D,(f (m+1)).heap⟩ y=kK kb ((f i).ev y):=by
     intro y hy
     cases y with
     | tmp t=>exact hrd1 t (hopr t hy)
     | const v =>
      show (if _ then _ else _:LV)=kK kb (if _ then _ else _)
      cases kb<;>split<;>rfl
     | func g=>cases kb<;>rfl
     | global g=>cases kb<;>rfl
    by_cases hgen:∃ r,OpV P (f (m+1)).heap (f i).ev (o.dst.getD 0) o.op r []∧(∀ t,o.dst=some t→(f (i+1)).slot t=r)∧om.dst=none
    ·obtain⟨r,hov,hrs,hnd⟩:=hgen
     have hk0:=hkb hnd
     obtain⟨hdf,hsz,μ,Z,hc,hr⟩:=hsim
     have hd':∀ t,o.dst=some t→t<a.tmps.size:=fun t h=>by rw [hsz];exact hdo t h
     have hwant:Region.wanted o (yielded ops a.tmps)=true:=fM (L:=⟨cZ ops f m om.dst kb D,(f (m+1)).heap⟩) hr (by unfold bS;rw [hg0])
     rw [hwant]
     simp only [if_true]
     have haf:=hafter him
     obtain⟨dst,op,ty,pos,after,g⟩:=o
     have hops:∀ x∈op.operands,bP Z μ w ((f i).ev x) (a.eval x):=by
      intro x hx
      have h1:=fL (L:=⟨cZ ops f m om.dst kb D,(f (m+1)).heap⟩) hr x
      rwa [←hev hk0 x hx] at h1
     refine OpV.sound hc hov hops (fun b blk hb=>by cases hb) dst ty pos after g (fun v w' μ' Z' haf2=>?_)
     refine⟨hcl',.inr (.inr ⟨hms,⟨om,kb,hom,hkb,hslm,by rw [eG];exact hdf,by rw [fU];exact hsz,μ',Z',haf2.core,fun t=>?_⟩,fun k hk=>?_,(hset m).2 (.inr hDmm),fun k hk hkf=>(hset k).2 (.inr (hDf k hk hkf))⟩)⟩
     ·have h1:=gL (L:=⟨cZ ops f m om.dst kb D,(f (m+1)).heap⟩) (d:=dst) hd' (fun t=>(hr t).mono haf2.hz haf2.hm haf2.hf) haf2.rep t
      have e:cZ ops f m om.dst kb (D.setIfInBounds i true) t=(St.put ⟨cZ ops f m om.dst kb D,(f (m+1)).heap⟩ dst r).slot t:=by
       unfold cZ
       rw [haf t,hnd,hk0]
       cases dst with
       | none=>rw [if_neg (c:=(none:Option Tmp)=some t) (by simp),if_neg (c:=(none:Option Tmp)=some t) (by simp)];rfl
       | some d =>
        rw [if_neg (c:=(none:Option Tmp)=some t) (by simp),bU]
        by_cases e:t=d
        ·subst e;rw [if_pos rfl,if_pos rfl];exact hrs t rfl
        ·rw [if_neg (c:=(some d:Option Tmp)=some t) (by simpa using fun h=>e h.symm),if_neg e]
         show kK none (bW ops f m D t)=if (none:Option Tmp)=some t then(f (m+1)).slot t else kK none (bW ops f m D t)
         rw [if_neg (by simp)]
      show bP Z' μ' w' (cZ ops f m om.dst kb (D.setIfInBounds i true) t) _
      rw [e];exact h1
     ·rcases(hset k).1 hk with rfl | h
      ·omega
      ·exact hDm k h
    replace hop:(∃ x,o.op=.move x)∨(∃ q T x y U,o.op=.binOp q T x y U∧∀ om,ops[m]?=some om→om.dst=none)∨(∃ x i,o.op=.extract x i∧∀ om,ops[m]?=some om→om.dst=none):=by
     rcases hop with h | h | h | ⟨h1,r,h2,h3⟩
     ·exact .inl h
     ·exact .inr (.inl h)
     ·exact .inr (.inr h)
     ·exact absurd ⟨r,h2,h3,h1 om hom⟩ hgen
    have hstep2:Step P true ops o ⟨cZ ops f m om.dst kb D,(f (m+1)).heap⟩ ⟨cZ ops f m om.dst kb (D.setIfInBounds i true),(f (m+1)).heap⟩:=by
     have hs1:=fs' i o ho (by first | exact .inl (by omega) | (refine .inr ?_;rintro rfl;simp_all))
     have haf:=hafter him
     obtain⟨dst,op,ty,pos,after,g⟩:=o
     simp only at hg0 hop haf hd1
     subst hg0
     have hfin2:∀ r,OpP P (f (m+1)).heap (St.ev ⟨cZ ops f m om.dst kb D,(f (m+1)).heap⟩) op (kK kb r)→(∀ t,dst=some t→(f (i+1)).slot t=r)→Step P true ops ⟨dst,op,ty,pos,after,none⟩ ⟨cZ ops f m om.dst kb D,(f (m+1)).heap⟩ ⟨cZ ops f m om.dst kb (D.setIfInBounds i true),(f (m+1)).heap⟩:=by
      intro r hr hrs
      refine .val rfl (cM.le_refl _) (fr:=[]) (fun _ _ h=>by cases h) (.pure hr) ?_
      show (_:St)=⟨_,_⟩
      congr 1
      funext t
      unfold cZ
      rw [haf t]
      cases dst with
      | none=>rw [if_neg (c:=(none:Option Tmp)=some t) (by simp)];rfl
      | some d =>
       show _=(St.put _ (some d) _).slot t
       rw [bU]
       by_cases e:t=d
       ·subst e;rw [if_neg (hd1 t rfl).2,if_pos rfl,if_pos rfl,hrs t rfl]
       ·rw [if_neg (c:=(some d:Option Tmp)=some t) (by simpa using fun h=>e h.symm),if_neg e]
     cases hs1 with
     | skip hg h=>cases hg
     | @val r fr' H1 hg hle hfr hov h =>
      have hrs:∀ t,dst=some t→(f (i+1)).slot t=r:=fun t ht=>by rw [h];simp only;subst ht;exact(bU _ _ _ _).trans (if_pos rfl)
      rcases hop with⟨x,rfl⟩ | ⟨q,T,x,y,U,rfl,hnd⟩ | ⟨x,i,rfl,hnd⟩
      ·cases hov with
       | pure hp =>
        cases hp with
        | move =>
         refine hfin2 _ ?_ hrs
         rw [←hevk x (by simp [Op.operands])];exact .move x
       | alloc hp=>cases hp
       | call hp=>cases hp
      ·have hk0:=hkb (hnd om hom)
       have e1:=hev hk0 x (by simp [Op.operands])
       have e2:=hev hk0 y (by simp [Op.operands])
       cases hov with
       | pure hp =>
        refine hfin2 _ ?_ hrs
        rw [hk0] at e1 e2 ⊢
        cases hp with
        | bin hx hy hb=>exact .bin (e1.symm.trans hx) (e2.symm.trans hy) hb
        | sh hx hy hb=>exact .sh (e1.symm.trans hx) (e2.symm.trans hy) hb
        | beq hx hy hb=>exact .beq (e1.symm.trans hx) (e2.symm.trans hy) hb
        | bne hx hy hb=>exact .bne (e1.symm.trans hx) (e2.symm.trans hy) hb
        | addS hx hy hb=>exact .addS (e1.symm.trans hx) (e2.symm.trans hy) hb
        | eqS hx hy=>exact .eqS (e1.symm.trans hx) (e2.symm.trans hy)
        | eqN hx hy hT=>exact .eqN (e1.symm.trans hx) (e2.symm.trans hy) hT
        | eqNL hx hy hT=>exact .eqNL (e1.symm.trans hx) (e2.symm.trans hy) hT
        | eqA4 hx hy hT hE hs hd=>exact .eqA4 (e1.symm.trans hx) (e2.symm.trans hy) hT hE hs hd
       | alloc hp=>cases hp
       | call hp=>cases hp
      ·have hk0:=hkb (hnd om hom)
       have e1:=hev hk0 x (by simp [Op.operands])
       cases hov with
       | pure hp =>
        refine hfin2 _ ?_ hrs
        rw [hk0] at e1 ⊢
        cases hp with
        | extract ht hr hne=>exact .extract (e1.symm.trans ht) hr hne
       | alloc hp=>cases hp
       | call hp=>cases hp
     | st hg hot=>rcases hop with⟨x,rfl⟩ | ⟨q,T,x,y,U,rfl,_⟩ | ⟨x,i,rfl,_⟩<;>cases hot
     | stM hdr _ _=>cases hdr
    refine hF hsim hstep2 hdo (K:=fun a' w'=>closed (D.setIfInBounds i true)∧(PhA (D.setIfInBounds i true) a' w'∨PhB (D.setIfInBounds i true) a' w'∨PhC (D.setIfInBounds i true) a' w')) (fun a' w' hs'=>⟨hcl',.inr (.inr ⟨hms,⟨om,kb,hom,hkb,hslm,hs'⟩,fun k hk=>?_,(hset m).2 (.inr hDmm),fun k hk hkf=>(hset k).2 (.inr (hDf k hk hkf))⟩)⟩)
    rcases(hset k).1 hk with rfl | h
    ·omega
    ·exact hDm k h
   ·have hall:∀ j,j<i→D.getD j false=true:=fun j hj=>by
     rcases htail i o ho (by omega) j hj with h | ⟨h,_⟩
     ·exact hclosed D hcl j i h hrd'
     ·exact absurd h hDne
    have him':i=m+1:=by
     by_cases e:i=m+1
     ·exact e
     ·have:=hDm (m+1) (hall (m+1) (by omega));omega
    refine tail (m+1) (by omega) (fun j hj=>⟨fun h=>by have:=hDm j h;omega,fun h=>hall j (by omega)⟩) him'.symm ?_
    have hsl:=hfull (fun j hj=>hall j (by omega))
    have:(⟨cZ ops f m om.dst kb D,(f (m+1)).heap⟩:St)=f (m+1):=by
     show (⟨_,_⟩:St)=⟨_,_⟩
     congr 1
     funext t
     unfold cZ
     split
     ·rfl
     ·rename_i e;rw [hsl t,hslm t e]
    rw [←this];exact hsim
 ·
  rintro D a w hDs ⟨hcl,hI⟩ hall
  rcases hI with hA | ⟨k,hmk,hDk,hkn,hsim⟩ | ⟨hms,⟨om,kb,hom,hkb,hslm,hsim⟩,hDm,hDmm,hDf⟩
  ·have hmn':m=ops.size:=by
    by_cases e:m=ops.size
    ·exact e
    ·have:=hA.1 m (hall m (by omega));omega
   exact hq _ a w (hmn' ▸ fK) (hAB D a w hA (fun i hi=>hall i (by omega)))
  ·have:k=ops.size:=by
    by_cases e:k=ops.size
    ·exact e
    ·have:=(hDk k (by omega)).1 (hall k (by omega));omega
   subst this
   exact hq _ a w fK hsim
  ·have hm1:m+1=ops.size:=by
    by_cases e:m+1=ops.size
    ·exact e
    ·have:=hDm (m+1) (hall (m+1) (by omega));omega
   have hsl:bW ops f m D=(f m).slot:=by
    funext t
    unfold bW
    split
    ·rfl
    ·rename_i hno
     rw [hconst 0 m t (Nat.zero_le _) (Nat.le_refl _) (fun k o _ hkm hk e=>hno ⟨k,o,hkm,hall k (by omega),hk,e⟩)]
   have:(⟨cZ ops f m om.dst kb D,(f (m+1)).heap⟩:St)=f (m+1):=by
    show (⟨_,_⟩:St)=⟨_,_⟩
    congr 1
    funext t
    unfold cZ
    split
    ·rfl
    ·rename_i e;rw [hsl,hslm t e]
   exact hq _ a w (hm1 ▸ fK) (this ▸ hsim)
 ·
  refine Nat.le_trans List.countP_le_length ?_
  simp
 ·
  have hD0:∀ i,(Array.replicate ops.size false).getD i false=false:=fun i=>by
   rw [Array.getD_eq_getD_getElem?,Array.getElem?_replicate];split<;>rfl
  refine⟨fun i o _ h=>(by rw [hD0] at h;cases h),.inl ⟨fun i h=>(by rw [hD0] at h;cases h),?_⟩⟩
  rw [←f0] at hs
  obtain⟨hdf,hsz,μ,Z,hc,hr⟩:=hs
  obtain⟨Z1,k1,k2⟩:=hc.widen (hle 0 m (Nat.zero_le _) (Nat.le_refl _))
  have hfrm:∀ (w':World),w'.heap=w.heap→Frame Z μ w w':=fun w' h=>⟨fun _ _=>by rw [h],fun _ id _ c _ _ hh=>⟨c,by rw [h];exact hh,rfl⟩⟩
  have hfrm1:∀ (w':World),w'.heap=w.heap→Frame Z1 μ w w':=fun w' h=>⟨fun _ _=>by rw [h],fun _ id _ c _ _ hh=>⟨c,by rw [h];exact hh,rfl⟩⟩
  refine⟨hdf,hsz,μ,Z1,⟨⟨k1.keep.os,k1.keep.tape,k1.keep.output,k1.keep.size,k1.keep.block,k1.keep.xsz⟩,k1.zone,k1.zsup,k1.zsub,k1.inj,k1.own,k1.x0,k1.xlt,k1.x1,k1.mutz,k1.frz,fun b id hb=>?_⟩,fun b hb=>?_,fun t=>?_⟩
  ·obtain⟨blk,g1,g2⟩:=k1.heap b id hb
   exact⟨blk,g1,g2.mono (fun _ h=>h) (fun _ _ h=>h) (hfrm1 _ rfl) rfl⟩
  ·left
   obtain⟨id,hid⟩:=Option.ne_none_iff_exists'.1 hb
   obtain⟨blk,g1,_⟩:=hc.heap b id hid
   rw [g1];simp
  ·have:bW ops f m (Array.replicate ops.size false) t=(f 0).slot t:=by
    unfold bW
    rw [if_neg]
    rintro⟨i,o,_,h,_⟩
    rw [hD0] at h;cases h
   rw [this]
   exact(hr t).mono k2 (fun _ _ h=>h) (hfrm { w with drawn:=w.drawn+1 } rfl)
def aLF (P:Program) (l:List Oper) (m:Nat) (K:St→Prop) (L:St):Prop:=∃ o L2,l[m]?=some o∧z9 P l.toArray o L L2∧K L2
theorem aGv {l:List Oper} {id:Nat} {L:St} {Q:LEx→St→Prop} (hfol:P.follows .mixedOrders=true) (m:Nat) (hm:qF l.toArray m []=true) (hl:l.length=m+1) (h:opsL P true l.toArray (l.take m) L (aLF P l m (Q .normal))):wpL P (.region id l.toArray true) Q L:=by
 refine zV fun n W X Z0 a w hs hd id=>?_
 have hd':∀ o∈l.toArray.toList,∀ t,o.dst=some t→t<n:=fun o ho t ht=>by
  simp only [fC,List.all_eq_true] at hd
  have:=hd o ho
  rw [ht] at this
  simpa using this
 obtain⟨f,f0,fs,o9,L9,k1,k2,k3⟩:=lN _ _ h
 have hlt:(l.take m).length=m:=by rw [List.length_take];omega
 rw [hlt] at k2
 unfold qF at hm
 simp only [Bool.and_eq_true,decide_eq_true_eq,List.all_eq_true,List.mem_range] at hm
 obtain⟨⟨⟨hmn,h1⟩,h2⟩,h3⟩:=hm
 have getD_of:∀ i o,l.toArray[i]?=some o→l.toArray.getD i default=o:=fun i o h=>by rw [Array.getD_eq_getD_getElem?,h];rfl
 have lt_of:∀ i o,l.toArray[i]?=some o→i<l.toArray.size:=fun i o h=>(Array.getElem?_eq_some_iff.1 h).1
 have hsz:l.toArray.size=m+1:=by simpa using hl
 have hanc:=tX l.toArray l.toArray.toList [] (fun i=>by simp) (fun i t h=>by simp at h)
 let g:Nat→St:=fun i=>if i≤m then f i else L9
 have gl:∀ i,i≤m→g i=f i:=fun i hi=>if_pos hi
 have gm:g (m+1)=L9:=if_neg (by omega)
 refine aCo (m:=m) (fr:=[]) (f:=g) (K:=Q .normal) (L:=L) hfol hs (by rw [gl 0 (Nat.zero_le _)];exact f0) (fun i o ho hor=>?_) (fun i o ho him=>?_) (by rw [hsz,gm];exact k3) hmn (fun i o h j hj=>?_) (fun i o h hmi j hj=>?_) (fun i o h him=>?_) (fun i j oi oj d hi hj him hjm hne hdj=>?_) (fun j o hj hjf=>by simp at hjf) hd' (fun L' a' w' hk hs'=>⟨L',hk,hs'⟩)
 ·have hi:i<m:=hor.resolve_right (fun e=>e rfl)
  rw [gl i (by omega),gl (i+1) (by omega)]
  exact fs i o (by rw [List.getElem?_take,if_pos hi];simpa using ho)
 ·have:i=m:=by have:=lt_of i o ho;omega
  subst this
  have ho':l[i]?=some o:=by simpa using ho
  rw [k1] at ho';cases ho'
  rw [gl i (Nat.le_refl _),gm]
  exact fun a w K Q hs hd hK=>k2 n W X Z0 a w K Q hs hd hK
 ·have:=(h1 i (lt_of i o h)).1 j (by rw [getD_of i o h];exact hj)
  simpa using this
 ·have:=(h1 i (lt_of i o h)).2
  rw [if_pos hmi] at this
  have:=(List.all_eq_true.1 this) j (by simpa using hj)
  simp only [Bool.or_eq_true,Bool.and_eq_true,beq_iff_eq,List.contains_iff_mem] at this
  rcases this with g9 | g9
  ·exact .inl (hanc i j (by simpa using g9))
  ·exact absurd g9.2 (by simp)
 ·have:=(h1 i (lt_of i o h)).2
  rw [if_neg (by omega)] at this
  rw [getD_of i o h] at this
  simpa using this
 ·have:=h2 i him j hjm
  simp only [Bool.or_eq_true,beq_iff_eq] at this
  rcases this with h | h
  ·exact absurd h hne
  ·unfold uW at h
   rw [getD_of j oj hj,getD_of i oi hi,hdj] at h
   simp only [Bool.and_eq_true,bne_iff_ne,ne_eq,Bool.or_eq_true,Bool.not_eq_true'] at h
   refine⟨h.1,fun hmem=>?_⟩
   rcases h.2 with h' | h'
   ·rw [List.contains_iff_mem.2 hmem] at h';cases h'
   ·split
    ·rename_i hlt;rw [if_pos hlt] at h';exact hanc i j h'
    ·rename_i hlt;rw [if_neg hlt] at h';exact hanc j i h'
theorem aH9 {l:List Oper} {m:Nat} {K:St→Prop} {ops:Array Oper} {o:Oper} {L L2:St} (h1:l[m]?=some o) (h2:z9 P l.toArray o L L2) (h3:K L2):opsL P true ops [] L (aLF P l m K):=by
 unfold opsL
 exact⟨o,L2,h1,h2,h3⟩
end
end Go.Lg
end
section
set_option linter.unusedVariables false
set_option linter.unusedSimpArgs false
set_option maxHeartbeats 8000000
set_option maxRecDepth 100000
attribute [local irreducible] Go.Lg.opsL Go.Lg.wpL Go.Lg.thenL Go.Lg.blockL
namespace Go.Proofs.YtckppbhafancnaaGreat
open Go.Lg
theorem aIF {l:List (Nat × Blk)} {c:Nat} (h:∀ x∈l.map (·.1),x≠c):hp l c=none:=by
 induction l with
 | nil=>rfl
 | cons q t ih =>
  obtain⟨d,y⟩:=q
  have e:Nat.beq c d=false:=by
   rw [←Bool.not_eq_true,Nat.beq_eq]
   exact fun e=>h d (by simp) e.symm
  simp only [hp,e,cond_false]
  exact ih fun x hx=>h x (by simp only [List.map_cons,List.mem_cons];exact .inr hx)
namespace Zq43
theorem cK {p q:Prop} (k:q) (e:p=q:=by simp only [e1,e2,e3,e4,p1,p2,p3,q1,q2,q3,l1,t0,t1,r1,r2,r3,r4,Nat.zero_add,Nat.reduceMul,Nat.reduceAdd,b1,b2,b3,b4,b5,b6,i1,i2,i3,i4,i5,i6,Nat.reduceBEq,hc5,hc7,fz0,wF,List.length_map,cJ,eA,dC,List.length_cons,List.length_nil,List.nil_append,List.map_nil,List.take_nil,List.append_nil,aC d8,aC aEj,List.getD_cons_zero,List.getD_cons_succ,List.set_cons_zero,List.set_cons_succ,Nat.reduceEqDiff,reduceIte,if_true,if_false,a8,a9,aC cW,aC dR,aC aD,aT,a6,LV.kill,bH];exact rfl):p:=e.mpr k
end Zq43
open Zq43 in
theorem aJq (a u p v:V3) (hba:fH 1 a) (hbu:fH 3 u) (hbp:fH 1 p) (hbv:fH 3 v) (hza:a.z=0) (hzu:u.z=0) (hzp:p.z=0) (hzv:v.z=0) (d w:Nat) (hd:d≤24) (hw:w≤4096):aN Tryz.prog 14 [.agg [aG 1,.list 3 ((cN 1 0 1).map ratL),.list 12 ((eR a u 0 1).map eB)],.agg [aG 1,.list 3 ((cN 1 0 1).map ratL),.list 12 ((eR p v 0 1).map eB)],.agg [aG d,aG w,ratL 0]] (.tup [.list 4 ((oO d w 1 0 (kI a u p v) ([([dF]++[dF],0,List.replicate 2 0)],0,[])).2.2.map jE),iL 0]):=by
 have hc5:(LV.agg [aG d,aG w,ratL 0]).csize=5:=by simp [LV.csize,aL,aD.csize]
 have hc7:(LV.agg [.agg [aG d,aG w,ratL 0],.v (.slice none 0 0),.v (.int .i64 0)]).csize=7:=by simp [LV.csize,aL,aD.csize]
 have hcp1:LV.pure (.agg [aG 1,.list 3 ((cN 1 0 1).map ratL),.list 12 ((eR a u 0 1).map eB)])=true:=by simp [LV.pure,aV,aF aD,aF dR]
 have hcp2:LV.pure (.agg [aG 1,.list 3 ((cN 1 0 1).map ratL),.list 12 ((eR p v 0 1).map eB)])=true:=by simp [LV.pure,aV,aF aD,aF dR]
 have hcp:aV ([.boxp (.agg [aG 1,.list 3 ((cN 1 0 1).map ratL),.list 12 ((eR a u 0 1).map eB)]),.boxp (.agg [aG 1,.list 3 ((cN 1 0 1).map ratL),.list 12 ((eR p v 0 1).map eB)])]:List LV)=true:=by simp only [aV,LV.pure,aF aD,aF dR,Bool.and_self,aG]
 have hcs:∀ x∈([.boxp (.agg [aG 1,.list 3 ((cN 1 0 1).map ratL),.list 12 ((eR a u 0 1).map eB)]),.boxp (.agg [aG 1,.list 3 ((cN 1 0 1).map ratL),.list 12 ((eR p v 0 1).map eB)])]:List LV),x.csize=1∧x.isAgg=false:=fun x hx=>by
  simp only [List.mem_cons,List.not_mem_nil,or_false] at hx
  rcases hx with e | e<;>rw [e]<;>exact⟨rfl,rfl⟩
 have hpr:LV.pure (.agg [aG d,aG w,ratL 0])=true:=aGy d w 0
 have hVa:=aJn d w hd hw
 have hpS:aV [spL (0,1)]=true:=by simp [aV,d8.pure]
 have hSa:∀ s,aN Tryz.prog 38 [ratL (dN a u s).z] (iL 0):=fun s=>by
  have:=jF 0 (by have:rl 0=1:=rfl;omega)
  rw [show dM 0=0 from by decide +kernel] at this
  rwa [show (dN a u s).z=0 from by rw [aI4,hza,hzu];grind]
 have hSp:∀ s,aN Tryz.prog 38 [ratL (dN p v s).z] (iL 0):=fun s=>by
  have:=jF 0 (by have:rl 0=1:=rfl;omega)
  rw [show dM 0=0 from by decide +kernel] at this
  rwa [show (dN p v s).z=0 from by rw [aI4,hzp,hzv];grind]
 have hP1:=yA 1 0 1 (eR a u 0 1) 6 (sX hba hbu (by decide) (by decide)) (by decide) (by decide) (by decide +kernel) (by decide) (by decide)
 have hP2:=yA 1 0 1 (eR p v 0 1) 6 (sX hbp hbv (by decide) (by decide)) (by decide) (by decide) (by decide +kernel) (by decide) (by decide)
 have hDo1:=sD 1 0 1 (eR a u 0 1) (by decide) (by decide) (by decide +kernel) (by decide)
 have hDo2:=sD 1 0 1 (eR p v 0 1) (by decide) (by decide) (by decide +kernel) (by decide)
 have hsg:∀ {n:Nat} {s:Sp},n≤24→w7 n s→w7 24 s:=fun hn h=>⟨h.1.le hn,h.2.1.le hn,h.2.2⟩
 have hLk:=aKG (P:=Tryz.prog) (f:=42) (cap:=([.boxp (.agg [aG 1,.list 3 ((cN 1 0 1).map ratL),.list 12 ((eR a u 0 1).map eB)]),.boxp (.agg [aG 1,.list 3 ((cN 1 0 1).map ratL),.list 12 ((eR p v 0 1).map eB)])]:List LV)) hd a u p v (fun s t hs ht=>aJz a u p v hba hbu hbp hbv s t (hsg hd hs) (hsg hd ht))
 have hI0:pY d ([dF]++[dF],0,List.replicate 2 0):=aH6 d
 have hPair:=aJp 42 1 2 d w ([.boxp (.agg [aG 1,.list 3 ((cN 1 0 1).map ratL),.list 12 ((eR a u 0 1).map eB)]),.boxp (.agg [aG 1,.list 3 ((cN 1 0 1).map ratL),.list 12 ((eR p v 0 1).map eB)])]:List LV) (kI a u p v) (pY d) hLk hcp hcs [dF] [dF] rfl (by decide) (by decide) rfl (by decide) hI0 0 [] hd hw (by decide) (by decide)
 have hbR:eZ (nmC 42 144 65) [.agg [.agg [aG d,aG w,ratL 0],.ref 1 4 0 0,aG 0]]=[.agg [.agg [aG d,aG w,ratL 0],.ref 144 4 0 0,aG 0]]:=by
  simp only [eZ,LV.ren,aG,LV.ren_pure _ (ratL 0) (aD.pure 0)];rfl
 have hnR:eZ (i7 42 65) [.agg [.agg [aG d,aG w,ratL 0],.ref 1 4 0 (oO d w 1 0 (kI a u p v) ([([dF]++[dF],0,List.replicate 2 0)],0,[])).2.2.length,aG (oO d w 1 0 (kI a u p v) ([([dF]++[dF],0,List.replicate 2 0)],0,[])).2.1]]=[.agg [.agg [aG d,aG w,ratL 0],.ref 1001041 4 0 (oO d w 1 0 (kI a u p v) ([([dF]++[dF],0,List.replicate 2 0)],0,[])).2.2.length,aG (oO d w 1 0 (kI a u p v) ([([dF]++[dF],0,List.replicate 2 0)],0,[])).2.1]]:=by
  simp only [eZ,LV.ren,aG,LV.ren_pure _ (ratL 0) (aD.pure 0)];rfl
 have hnC:eZ (i7 42 65) ((oO d w 1 0 (kI a u p v) ([([dF]++[dF],0,List.replicate 2 0)],0,[])).2.2.map jE)=(oO d w 1 0 (kI a u p v) ([([dF]++[dF],0,List.replicate 2 0)],0,[])).2.2.map jE:=iI _ _ (sR _)
 have hnm:i7 42 65 1=1001041:=rfl
 refine dJ Tryz.func14 (ht:=(gU (by simp only [LV.pure,sR]) rfl)) ?_
 refine fI ?_
 refine cY rfl (.cons (.pure hpr) .nil) (hVa) ?_
 refine dI ?_
 refine bO (b:=_) rfl (rfl) ?_
 refine dP ?_
 refine aB rfl (aII (v0:=.agg [aG 1,.list 3 ((cN 1 0 1).map ratL),.list 12 ((eR a u 0 1).map eB)]) (v1:=.agg [aG 1,.list 3 ((cN 1 0 1).map ratL),.list 12 ((eR p v 0 1).map eB)]) Tryz.underlying83 T28 Z83 lz rfl rfl lz lz hcp1 hcp2) ?_
 refine cB ?_
 refine aK ?_
 refine bY ?_
 refine aY (b:=_) rfl (by decide) ?_
 refine bY ?_
 first | refine aB rfl (.idxA rfl Tryz.underlying83 T28 rfl rfl (by decide) rfl hcp1) ?_ | refine aB rfl (.idxA rfl Tryz.underlying83 T28 rfl rfl (by decide) rfl hcp2) ?_
 refine fI ?_
 refine aK ?_
 refine bY ?_
 refine aY (b:=_) rfl (rfl) ?_
 refine bY ?_
 first | refine aB rfl (.idxL (n:=0) (r:=eB ⟨dN a u 0,1⟩) rfl Tryz.underlying26 tP rfl (by decide) rfl (dR.csize _)) ?_ | refine aB rfl (.idxL (n:=1) (r:=eB ⟨dN a u 1,1⟩) rfl Tryz.underlying26 tP rfl (by decide) rfl (dR.csize _)) ?_ | refine aB rfl (.idxL (n:=0) (r:=eB ⟨dN p v 0,1⟩) rfl Tryz.underlying26 tP rfl (by decide) rfl (dR.csize _)) ?_ | refine aB rfl (.idxL (n:=1) (r:=eB ⟨dN p v 1,1⟩) rfl Tryz.underlying26 tP rfl (by decide) rfl (dR.csize _)) ?_
 refine cG ?_
 first | refine cp cS (hSa 0) ?_ | refine cp cS (hSa 1) ?_ | refine cp cS (hSp 0) ?_ | refine cp cS (hSp 1) ?_
 refine dI ?_
 refine bO (b:=_) rfl (rfl) ?_
 refine dI ?_
 refine bG (a7.kill _ 11) ?_
 refine cB ?_
 refine aK ?_
 refine bY ?_
 refine aY (b:=_) rfl (rfl) ?_
 refine bY ?_
 first | refine aB rfl (.idxL (n:=0) (r:=eB ⟨dN a u 0,1⟩) rfl Tryz.underlying26 tP rfl (by decide) rfl (dR.csize _)) ?_ | refine aB rfl (.idxL (n:=1) (r:=eB ⟨dN a u 1,1⟩) rfl Tryz.underlying26 tP rfl (by decide) rfl (dR.csize _)) ?_ | refine aB rfl (.idxL (n:=0) (r:=eB ⟨dN p v 0,1⟩) rfl Tryz.underlying26 tP rfl (by decide) rfl (dR.csize _)) ?_ | refine aB rfl (.idxL (n:=1) (r:=eB ⟨dN p v 1,1⟩) rfl Tryz.underlying26 tP rfl (by decide) rfl (dR.csize _)) ?_
 refine cG ?_
 first | refine cp cS (hSa 0) ?_ | refine cp cS (hSa 1) ?_ | refine cp cS (hSp 0) ?_ | refine cp cS (hSp 1) ?_
 refine dI ?_
 refine bO (b:=_) rfl (rfl) ?_
 refine dI ?_
 refine bG (a7.kill _ 11) ?_
 refine cB ?_
 refine aK ?_
 refine bY ?_
 refine bO (b:=_) rfl (rfl) ?_
 refine bY ?_
 refine bG (a7.kill _ 9) ?_
 refine cB ?_
 refine aK ?_
 refine bY ?_
 refine aY (b:=_) rfl (by decide) ?_
 refine bY ?_
 first | refine aB rfl (.idxA rfl Tryz.underlying83 T28 rfl rfl (by decide) rfl hcp1) ?_ | refine aB rfl (.idxA rfl Tryz.underlying83 T28 rfl rfl (by decide) rfl hcp2) ?_
 refine fI ?_
 refine aK ?_
 refine bY ?_
 refine aY (b:=_) rfl (rfl) ?_
 refine bY ?_
 first | refine aB rfl (.idxL (n:=0) (r:=eB ⟨dN a u 0,1⟩) rfl Tryz.underlying26 tP rfl (by decide) rfl (dR.csize _)) ?_ | refine aB rfl (.idxL (n:=1) (r:=eB ⟨dN a u 1,1⟩) rfl Tryz.underlying26 tP rfl (by decide) rfl (dR.csize _)) ?_ | refine aB rfl (.idxL (n:=0) (r:=eB ⟨dN p v 0,1⟩) rfl Tryz.underlying26 tP rfl (by decide) rfl (dR.csize _)) ?_ | refine aB rfl (.idxL (n:=1) (r:=eB ⟨dN p v 1,1⟩) rfl Tryz.underlying26 tP rfl (by decide) rfl (dR.csize _)) ?_
 refine cG ?_
 first | refine cp cS (hSa 0) ?_ | refine cp cS (hSa 1) ?_ | refine cp cS (hSp 0) ?_ | refine cp cS (hSp 1) ?_
 refine dI ?_
 refine bO (b:=_) rfl (rfl) ?_
 refine dI ?_
 refine bG (a7.kill _ 11) ?_
 refine cB ?_
 refine aK ?_
 refine bY ?_
 refine aY (b:=_) rfl (rfl) ?_
 refine bY ?_
 first | refine aB rfl (.idxL (n:=0) (r:=eB ⟨dN a u 0,1⟩) rfl Tryz.underlying26 tP rfl (by decide) rfl (dR.csize _)) ?_ | refine aB rfl (.idxL (n:=1) (r:=eB ⟨dN a u 1,1⟩) rfl Tryz.underlying26 tP rfl (by decide) rfl (dR.csize _)) ?_ | refine aB rfl (.idxL (n:=0) (r:=eB ⟨dN p v 0,1⟩) rfl Tryz.underlying26 tP rfl (by decide) rfl (dR.csize _)) ?_ | refine aB rfl (.idxL (n:=1) (r:=eB ⟨dN p v 1,1⟩) rfl Tryz.underlying26 tP rfl (by decide) rfl (dR.csize _)) ?_
 refine cG ?_
 first | refine cp cS (hSa 0) ?_ | refine cp cS (hSa 1) ?_ | refine cp cS (hSp 0) ?_ | refine cp cS (hSp 1) ?_
 refine dI ?_
 refine bO (b:=_) rfl (rfl) ?_
 refine dI ?_
 refine bG (a7.kill _ 11) ?_
 refine cB ?_
 refine aK ?_
 refine bY ?_
 refine bO (b:=_) rfl (rfl) ?_
 refine bY ?_
 refine bG (a7.kill _ 9) ?_
 refine cB ?_
 refine aK ?_
 refine bY ?_
 refine bO (b:=_) rfl (by decide) ?_
 refine eI ?_
 refine aB rfl (show OpP _ _ _ _ (.agg [.agg [aG d,aG w,ratL 0],.v (.slice none 0 0),.v (.int .i64 0)]) from .build (zs:=[.agg [.v (.int .i64 0),.v (.int .i64 0),ratL 0],.v (.slice none 0 0),.v (.int .i64 0)]) (by simpa [lay,LV.csize,aL,LV.isAgg,aD.csize] using aMa) Z87 (by simp only [List.forall_mem_cons];exact⟨⟨_,rfl,rfl,t8⟩,fun _ h=>by cases h⟩)) ?_
 refine eI ?_
 refine cp cS (hP1) ?_
 refine dX ?_
 refine aK ?_
 refine bY ?_
 refine aY (b:=_) rfl (rfl) ?_
 refine bY ?_
 refine aB rfl (.idxL rfl Tryz.underlying88 T28 rfl (by decide) rfl rfl) ?_
 refine aB rfl (.ldbx rfl hcp1 rfl rfl) ?_
 refine dP ?_
 refine cp cS (hP2) ?_
 refine dX ?_
 refine aK ?_
 refine bY ?_
 refine aY (b:=_) rfl (rfl) ?_
 refine dX ?_
 refine bG (a7.cellNil (b:=42) (d:=144) (csz:=4) (by decide) rfl rfl (fun Z μ w part h=>aIG (d:=144) (c:=4) Z μ w part h)) ?_
 try refine cK ?_
 refine aB rfl (.idxL rfl Tryz.underlying88 T28 rfl (by decide) rfl rfl) ?_
 refine aB rfl (.ldbx rfl hcp2 rfl rfl) ?_
 refine cB ?_
 refine aGv rfl 8 (by decide +kernel) rfl ?_
 simp only [List.take_succ_cons,List.take_zero]
 refine cU ?_
 refine cp cS (hDo1) ?_
 refine cK ?_
 refine b9 rfl rfl (.lit1 (a:=(0,1)) (z:=(0,0)) d8 Tryz.underlying49 nQ mH rfl (by decide) (by decide)) ?_
 refine bD ?_
 refine cp cS (hDo2) ?_
 refine cK ?_
 refine b9 rfl rfl (.lit1 (a:=(0,1)) (z:=(0,0)) d8 Tryz.underlying49 nQ mH rfl (by decide) (by decide)) ?_
 refine cK ?_
 refine gE [14,16,60,63] rfl rfl (.mk (caps:=([.boxp (.agg [aG 1,.list 3 ((cN 1 0 1).map ratL),.list 12 ((eR a u 0 1).map eB)]),.boxp (.agg [aG 1,.list 3 ((cN 1 0 1).map ratL),.list 12 ((eR p v 0 1).map eB)])]:List LV)) (.cons (.eptr rfl rfl rfl cs (b7 cs rfl) hcp1 rfl) (.cons (.eptr rfl rfl rfl cs (b7 cs rfl) hcp2 rfl) .nil)) hcs) rfl ?_
 refine cK ?_
 refine aH9 rfl (aEz (f:=40) (b:=42) (c:=144) (sz:=7) (csz:=4) (vals:=[.agg [.agg [aG d,aG w,ratL 0],.ref 1 4 0 0,aG 0]]) (cvals:=[]) 65 rfl (by decide) (by decide) (by rw [hbR];rfl) rfl (.cons (.ren (y:=.eptr 0 7 0 0) ⟨by simp,by simp⟩) (.cons (.imm (.ref (blk:=⟨6,[spL (0,1)],false⟩) rfl rfl hpS (by simp) rfl)) (.cons (.imm (.ref (blk:=⟨6,[spL (0,1)],false⟩) rfl rfl hpS (by simp) rfl)) (.cons (.imm (.pure (show LV.pure (.clo 42 ([.boxp (.agg [aG 1,.list 3 ((cN 1 0 1).map ratL),.list 12 ((eR a u 0 1).map eB)]),.boxp (.agg [aG 1,.list 3 ((cN 1 0 1).map ratL),.list 12 ((eR p v 0 1).map eB)])]:List LV))=true by simpa [LV.pure] using hcp))) .nil)))) .ptr hPair (by simp) (fun k hk=>aIF (by intro x hx;simp only [List.map_cons,List.map_nil,List.mem_cons,List.not_mem_nil,or_false] at hx;unfold bK;omega))) ?_
 simp only [sV,hnm,hnR,hnC]
 refine cK ?_
 refine dP ?_
 refine aK ?_
 refine bY ?_
 refine bO (b:=_) rfl (rfl) ?_
 refine cQ ?_
 refine aK ?_
 refine bY ?_
 refine bO (b:=_) rfl (rfl) ?_
 refine n8 ?_
 exact aFG [1001041] rfl rfl (cC (l:=(oO d w 1 0 (kI a u p v) ([([dF]++[dF],0,List.replicate 2 0)],0,[])).2.2) aEj rfl rfl rfl) rfl (.pure rfl)
theorem aOh {α β:Type} [Inhabited α] (f:α→β) (l:List α) (d:α) {i:Nat} (h:i<l.length):(l.map f).take i++[f (l.getD i d)]=(l.map f).take (i+1):=by
 rw [List.take_add_one,List.getElem?_map,List.getD_eq_getElem?_getD,List.getElem?_eq_getElem h];rfl
namespace Zq116
theorem cK {p q:Prop} (k:q) (e:p=q:=by simp only [e1,e2,e3,e4,p1,p2,p3,q1,q2,q3,l1,t0,t1,r1,r2,r3,r4,Nat.zero_add,Nat.reduceMul,Nat.reduceAdd,b1,b2,b3,b4,b5,b6,i1,i2,i3,i4,i5,i6,Nat.reduceBEq,etk,ers,List.length_map,cJ,eA,dC,List.length_cons,List.length_nil,List.nil_append,List.map_nil,List.take_nil,List.append_nil,aC aD,List.set_cons_zero,List.set_cons_succ,Nat.reduceEqDiff,reduceIte,if_true,if_false,a8,a9,aC cW,aC dR,aC aD,aT,a6,LV.kill,bH];exact rfl):p:=e.mpr k
end Zq116
open Zq116 in
theorem aKQ (l:List Int) (hl:l.length≤1000) (hb:∀ x∈l,-1000≤x∧x≤1000):aN Tryz.prog 68 [.list 1 (l.map dS)] (.list 3 ((l.map fun x:Int=>(x:Rat)).map ratL)):=by
 refine dJ Tryz.func68 ?_
 have etk:True:=trivial
 have ers:True:=trivial
 refine jT ?_
 refine fV (a7.own (t:=3) 18 3 rfl rfl) ?_
 refine lO (fun(k:Nat) L=>((((St.mk L.slot (hp [(18,⟨3,((l.map fun x:Int=>(x:Rat)).take k).map ratL,true⟩)])).put (some 0) (.list 1 (l.map dS))).put (some 3) (.ref 18 3 0 k)).put (some 4) (aG k))) (fun k=>k≤l.length) (fun k=>l.length-k) 0 (Nat.zero_le _) ?_
 rintro k L1 hk
 refine eP ?_
 refine aQ rfl (fun h8r h8=>?_) (fun h8r h8=>?_)
 ·have hk2:k<l.length:=by omega
  have hbk:=hb (l.getD k 0) (by rw [List.getD_eq_getElem?_getD,List.getElem?_eq_getElem hk2];exact List.getElem_mem hk2)
  have ers:=aOh (fun x:Int=>(x:Rat)) l 0 hk2
  have etk:(((l.map fun x:Int=>(x:Rat)).take k).map ratL).take k=((l.map fun x:Int=>(x:Rat)).take k).map ratL:=List.take_of_length_le (by rw [List.length_map,List.length_take];omega)
  have hlr:(l.map fun x:Int=>(x:Rat)).length=l.length:=List.length_map ..
  refine cG ?_
  refine cp cS (u6 (l.getD k 0) (by omega) (by omega)) ?_
  refine bD ?_
  refine bC rfl (.appX (d:=18) (news:=[ratL ((l.getD k 0):Rat)]) rfl rfl rfl rfl (by simp;omega) (.inl rfl) (by decide) Tryz.underlying25 Tryz.underlying25 i9 dD rfl B31 (.inl ⟨17,0,_,rfl,by decide,rfl,rfl,by simp,rfl,by simp [aV,aD.pure]⟩) (by simp;omega) (by simp;omega) (by decide)) ?_
  refine cB ?_
  refine bG (a7.kill _ 17) ?_
  refine bD ?_
  refine aB rfl (.bin rfl rfl (dA (by omega))) ?_
  refine dI ?_
  exact kE (k+1) (by omega)
 ·obtain rfl:k=l.length:=by omega
  have hE:(l.map fun x:Int=>(x:Rat)).take l.length=(l.map fun x:Int=>(x:Rat)):=List.take_of_length_le (by rw [List.length_map];exact Nat.le_refl _)
  simp only [hE]
  refine cH ?_
  exact jV [18] rfl rfl (cC (l:=(l.map fun x:Int=>(x:Rat))) aD rfl rfl (by rw [List.length_map]))
namespace Zq1
theorem cK {p q:Prop} (k:q) (e:p=q:=by simp only [e1,e2,e3,e4,p1,p2,p3,q1,q2,q3,l1,t0,t1,r1,r2,r3,r4,Nat.zero_add,Nat.reduceMul,Nat.reduceAdd,b1,b2,b3,b4,b5,b6,i1,i2,i3,i4,i5,i6,Nat.reduceBEq,List.set_cons_zero,List.set_cons_succ,Nat.reduceEqDiff,reduceIte,if_true,if_false,a8,a9,aC cW,aC dR,aC aD,aT,a6,LV.kill,bH];exact rfl):p:=e.mpr k
end Zq1
open Zq1 in
theorem aAG (p:V3):aN Tryz.prog 69 [dG p,iL 1] (eB ⟨p,1⟩):=by
 have hI1:aN Tryz.prog 13 [iL 1] (ratL 1):=u6 1 (by decide) (by decide)
 refine dJ Tryz.func69 (ht:=(fun g=>LV.ren_pure g _ (dR.pure _))) ?_
 refine dP ?_
 refine aP 4 (by decide +kernel) ?_
 refine cU ?_
 refine cp cS (hI1) ?_
 refine w8 (aLf (p:=p) (r:=1) rfl rfl) ?_
 refine cB ?_
 exact dE [] rfl rfl rfl cs (b7 cs rfl) tP (.pure pu)
def flV (l:List Int) (k:Nat):V3:=⟨(nbV l k).1,(nbV l (nbV l k).2).1,0⟩
def flK (l:List Int) (k:Nat):Nat:=(nbV l (nbV l k).2).2
theorem zE (l:List Int) (k:Nat):fH 1 (flV l k):=⟨aI8 l k,aI8 l _,by show rl 0≤1;decide⟩
theorem y8 {l:List Int} {k:Nat} (hl:l.length≤500) (hk:k≤500):flK l k≤500:=aCl hl (aCl hl hk)
def lnR (a b:V3):List PoR:=[⟨a,1⟩,⟨b,1⟩]
theorem aF5 (a b:V3):lnR a b=eR a (iE b a) 0 1:=by
 have h0:dN a (iE b a) 0=a:=by
  show (⟨_,_,_⟩:V3)=_
  simp only [iE,pW]
  congr 1<;>grind
 have h1:dN a (iE b a) 1=b:=by
  show (⟨_,_,_⟩:V3)=_
  simp only [iE,pW]
  congr 1<;>grind
 rw [eR,h0,h1];rfl
def w6 (a b c:V3):Int:=dM (nG (iE b a) (iE c a)).z
namespace Zq112
theorem cK {p q:Prop} (k:q) (e:p=q:=by simp only [e1,e2,e3,e4,p1,p2,p3,q1,q2,q3,l1,t0,t1,r1,r2,r3,r4,Nat.zero_add,Nat.reduceMul,Nat.reduceAdd,b1,b2,b3,b4,b5,b6,i1,i2,i3,i4,i5,i6,Nat.reduceBEq,List.getD_cons_zero,List.getD_cons_succ,List.set_cons_zero,List.set_cons_succ,Nat.reduceEqDiff,reduceIte,if_true,if_false,a8,a9,aC cW,aC dR,aC aD,aT,a6,LV.kill,bH];exact rfl):p:=e.mpr k
end Zq112
open Zq112 in
theorem zD (x y:Int) (hx:-1000≤x∧x≤1000) (hy:-1000≤y∧y≤1000):aN Tryz.prog 30 [iL x,iL y] (dG ⟨(x:Rat),(y:Rat),0⟩):=by
 refine dJ Tryz.func30 (ht:=(fun r=>LV.ren_pure r _ (cW.pure _))) ?_
 refine eI ?_
 refine cp cS (u6 x (by omega) (by omega)) ?_
 refine bD ?_
 refine cp cS (u6 y (by omega) (by omega)) ?_
 refine w8 (aHj rfl rfl) ?_
 refine cB ?_
 exact dE [] rfl rfl rfl cs (b7 cs rfl) kS (.pure pu)
namespace Zq13
theorem cK {p q:Prop} (k:q) (e:p=q:=by simp only [e1,e2,e3,e4,p1,p2,p3,q1,q2,q3,l1,t0,t1,r1,r2,r3,r4,Nat.zero_add,Nat.reduceMul,Nat.reduceAdd,b1,b2,b3,b4,b5,b6,i1,i2,i3,i4,i5,i6,Nat.reduceBEq,l1,List.getD_cons_zero,List.getD_cons_succ,List.set_cons_zero,List.set_cons_succ,Nat.reduceEqDiff,reduceIte,if_true,if_false,a8,a9,aC cW,aC dR,aC aD,aT,a6,LV.kill,bH];exact rfl):p:=e.mpr k
end Zq13
open Zq13 in
theorem tU (l:List Int) (k:Nat) (hl:l.length≤500) (hk:k≤500):fZ Tryz.prog 23 ⟨2,[lX l k],true⟩ [.eptr 0 2 0 0] (dG (flV l k)) ⟨2,[lX l (flK l k)],true⟩:=by
 have k1:=aCl (l:=l) hl hk
 refine fnM Tryz.func23 ?_
 refine eI ?_
 refine lG 0 rfl rfl rfl (dB l _) (.cons .ptr .nil) .ptr (aAx l k (by omega) (by omega)) rfl (dB l _) (aD.pure _) ?_
 refine bD ?_
 refine lG 0 rfl rfl rfl (dB l _) (.cons .ptr .nil) .ptr (aAx l (nbV l k).2 (by omega) (by omega)) rfl (dB l _) (aD.pure _) ?_
 refine w8 (aHj rfl rfl) ?_
 refine cB ?_
 exact aFx rfl rfl cs (b7 cs rfl) kS (.pure pu) rfl rfl (dB l _)
namespace Zq42
theorem cK {p q:Prop} (k:q) (e:p=q:=by simp only [e1,e2,e3,e4,p1,p2,p3,q1,q2,q3,l1,t0,t1,r1,r2,r3,r4,Nat.zero_add,Nat.reduceMul,Nat.reduceAdd,b1,b2,b3,b4,b5,b6,i1,i2,i3,i4,i5,i6,Nat.reduceBEq,a8,fz0,wF,List.getD_cons_zero,List.getD_cons_succ,List.set_cons_zero,List.set_cons_succ,Nat.reduceEqDiff,reduceIte,if_true,if_false,a8,a9,aC cW,aC dR,aC aD,aT,a6,LV.kill,bH];exact rfl):p:=e.mpr k
end Zq42
open Zq42 in
theorem yL (a b:V3):aN Tryz.prog 24 [dG a,dG b] (.agg [aG 1,.list 3 ((cN 1 0 1).map ratL),.list 12 ((lnR a b).map eB)]):=by
 have hpk:=aJ aD 3 (cN 1 0 1)
 have hI4:aN Tryz.prog 68 [.list 1 (([0,0,1,1]:List Int).map dS)] (.list 3 ((cN 1 0 1).map ratL)):=by
  have:=aKQ [0,0,1,1] (by decide) (by decide)
  rwa [show (([0,0,1,1]:List Int).map fun x:Int=>(x:Rat))=cN 1 0 1 from by decide +kernel] at this
 refine dJ Tryz.func24 (ht:=(fun g=>LV.ren_pure g _ (by simp [LV.pure,aV,aF aD,aF dR]))) ?_
 refine eI ?_
 refine aP 8 (by decide +kernel) ?_
 refine b9 rfl rfl (.lit4 (a:=0) (b:=0) (c:=1) (f:=1) mK Tryz.underlying123 (show bA _ _ (dS 0) from Z2) T2 rfl rfl rfl rfl (by decide) (by decide)) ?_
 refine cK ?_
 refine pJ [5] rfl rfl (.cons (cC (l:=[0,0,1,1]) mK rfl rfl rfl) .nil) (hI4) ?_
 refine bD ?_
 refine cY rfl (.cons (.pure (cW.pure a)) (.cons (.pure rfl) .nil)) (aAG a) ?_
 refine bD ?_
 refine cY rfl (.cons (.pure (cW.pure b)) (.cons (.pure rfl) .nil)) (aAG b) ?_
 refine b9 rfl rfl (.lit2 (a:=⟨a,1⟩) (b:=⟨b,1⟩) (z:=⟨⟨0,0,0⟩,0⟩) dR Tryz.underlying26 (show bA _ _ (eB ⟨⟨0,0,0⟩,0⟩) from Z42) tP rfl rfl (by decide) (by decide)) ?_
 refine dX ?_
 exact dE [11] rfl rfl rfl cs (b7 cs rfl) T28 (.agg (.cons (.pure rfl) (.cons (.pure hpk) (.cons (cC (l:=lnR a b) dR rfl rfl rfl) .nil))))
namespace Zq59
theorem cK {p q:Prop} (k:q) (e:p=q:=by simp only [e1,e2,e3,e4,p1,p2,p3,q1,q2,q3,l1,t0,t1,r1,r2,r3,r4,Nat.zero_add,Nat.reduceMul,Nat.reduceAdd,b1,b2,b3,b4,b5,b6,i1,i2,i3,i4,i5,i6,Nat.reduceBEq,List.getD_cons_zero,List.getD_cons_succ,List.set_cons_zero,List.set_cons_succ,Nat.reduceEqDiff,reduceIte,if_true,if_false,a8,a9,aC cW,aC dR,aC aD,aT,a6,LV.kill,bH];exact rfl):p:=e.mpr k
end Zq59
open Zq59 in
theorem oV (a b c:V3) (R:Nat) (hR:R≤1000) (ha:fH R a) (hb:fH R b) (hc:fH R c):aN Tryz.prog 25 [dG a,dG b,dG c] (iL (w6 a b c)):=by
 have hs1:=y5 hb ha
 have hs2:=y5 hc ha
 refine dJ Tryz.func25 ?_
 refine eP ?_
 refine aP 10 (by decide +kernel) ?_
 refine cU ?_
 refine cp bI (aDq b a R (by omega) hb ha) ?_
 refine cU ?_
 refine cp bI (aDq c a R (by omega) hc ha) ?_
 refine cp bI (aEv (iE b a) (iE c a) (2*R+4) (by omega) (hs1.le (by omega)) (hs2.le (by omega))) ?_
 refine bD ?_
 refine cp cS (aIl _) ?_
 refine cB ?_
 exact b8 rfl (.pure rfl)
def clO (D w:Nat) (a b c d:V3):List kH:=(oO D w 1 0 (kI a (iE b a) c (iE d c)) ([rB],0,[])).2.2
theorem y4 (a b c d:V3) (ha:fH 1 a) (hb:fH 1 b) (hc:fH 1 c) (hd:fH 1 d) (za:a.z=0) (zb:b.z=0) (zc:c.z=0) (zd:d.z=0) (D w:Nat) (hD:D≤24) (hw:w≤4096) :
  aN Tryz.prog 14 [.agg [aG 1,.list 3 ((cN 1 0 1).map ratL),.list 12 ((lnR a b).map eB)],.agg [aG 1,.list 3 ((cN 1 0 1).map ratL),.list 12 ((lnR c d).map eB)],.agg [aG D,aG w,ratL 0]] (.tup [.list 4 ((clO D w a b c d).map jE),iL 0]):=by
 have z1:(iE b a).z=0:=by show b.z-a.z=0;rw [za,zb];decide +kernel
 have z2:(iE d c).z=0:=by show d.z-c.z=0;rw [zc,zd];decide +kernel
 have:=aJq a (iE b a) c (iE d c) ha ((y5 hb ha).le (by decide)) hc ((y5 hd hc).le (by decide)) za z1 zc z2 D w hD hw
 rw [←aF5,←aF5] at this
 exact this
theorem aC3 (u v:V3):(nG u v).z=jM u v:=rfl
theorem aCV (a b:V3):v3a a (iE b a)=b:=by
 show (⟨_,_,_⟩:V3)=_
 simp only [iE]
 congr 1<;>grind
theorem aAC (a b c d:V3):nZ a (iE b a) c (iE d c)↔w6 a b c*w6 a b d<0∧w6 c d a*w6 c d b<0:=by
 unfold nZ w6
 rw [aCV,aCV,aC3,aC3,aC3,aC3]
theorem aEl {a b c d:V3} (h:w6 a b c*w6 a b d<0) (h':w6 c d a*w6 c d b<0) (za:a.z=0) (zb:b.z=0) (zc:c.z=0) (zd:d.z=0) (D w:Nat) (hw:0<w):clO D w a b c d=[([dF],[dF],3,0)]:=by
 have z1:(iE b a).z=0:=by show b.z-a.z=0;rw [za,zb];decide +kernel
 have z2:(iE d c).z=0:=by show d.z-c.z=0;rw [zc,zd];decide +kernel
 unfold clO
 rw [aEu ((aAC a b c d).2 ⟨h,h'⟩) za z1 zc z2 D w hw]
theorem aHX {a b c d:V3} (h:¬(w6 a b c*w6 a b d<0∧w6 c d a*w6 c d b<0)) (D w:Nat):∀ x∈clO D w a b c d,x.2.2.1≠3:=aIp (fun g=>h ((aAC a b c d).1 g)) D w
theorem aAf (a b c:V3):-1≤w6 a b c∧w6 a b c≤1:=by
 unfold w6 dM
 split
 ·decide
 ·split<;>decide
namespace Zq100
theorem cK {p q:Prop} (k:q) (e:p=q:=by simp only [e1,e2,e3,e4,p1,p2,p3,q1,q2,q3,l1,t0,t1,r1,r2,r3,r4,Nat.zero_add,Nat.reduceMul,Nat.reduceAdd,b1,b2,b3,b4,b5,b6,i1,i2,i3,i4,i5,i6,Nat.reduceBEq,List.getD_cons_zero,List.getD_cons_succ,List.set_cons_zero,List.set_cons_succ,Nat.reduceEqDiff,reduceIte,if_true,if_false,a8,a9,aC cW,aC dR,aC aD,aT,a6,LV.kill,bH];exact rfl):p:=e.mpr k
end Zq100
open Zq100 in
theorem pG :aN Tryz.prog 9 [] (bL true):=by
 have hq1:LV.pure (.agg [aG 1,.list 3 ((cN 1 0 1).map ratL),.list 12 ((lnR (⟨((0:Int):Rat),((0:Int):Rat),0⟩:V3) (⟨((2:Int):Rat),((2:Int):Rat),0⟩:V3)).map eB)])=true:=by simp [LV.pure,aV,aF aD,aF dR]
 have hq2:LV.pure (.agg [aG 1,.list 3 ((cN 1 0 1).map ratL),.list 12 ((lnR (⟨((0:Int):Rat),((2:Int):Rat),0⟩:V3) (⟨((2:Int):Rat),((0:Int):Rat),0⟩:V3)).map eB)])=true:=by simp [LV.pure,aV,aF aD,aF dR]
 have hp1:LV.pure (.agg [iL 0,iL 9,ratL 0])=true:=by simp [LV.pure,aV,aD.pure]
 have hp2:LV.pure (.agg [iL 2,iL 100,ratL 0])=true:=by simp [LV.pure,aV,aD.pure]
 have hA1:clO 0 9 (⟨((0:Int):Rat),((0:Int):Rat),0⟩:V3) (⟨((2:Int):Rat),((2:Int):Rat),0⟩:V3) (⟨((0:Int):Rat),((2:Int):Rat),0⟩:V3) (⟨((2:Int):Rat),((0:Int):Rat),0⟩:V3)=[(([dF],[dF],3,0):kH)]:=by decide +kernel
 obtain⟨x,r,hA2,hx⟩:∃ x r,clO 2 100 (⟨((0:Int):Rat),((0:Int):Rat),0⟩:V3) (⟨((2:Int):Rat),((2:Int):Rat),0⟩:V3) (⟨((0:Int):Rat),((0:Int):Rat),0⟩:V3) (⟨((2:Int):Rat),((2:Int):Rat),0⟩:V3)=x :: r∧x.2.2.1=1:=by
  have h:0<(clO 2 100 (⟨((0:Int):Rat),((0:Int):Rat),0⟩:V3) (⟨((2:Int):Rat),((2:Int):Rat),0⟩:V3) (⟨((0:Int):Rat),((0:Int):Rat),0⟩:V3) (⟨((2:Int):Rat),((2:Int):Rat),0⟩:V3)).length∧((clO 2 100 (⟨((0:Int):Rat),((0:Int):Rat),0⟩:V3) (⟨((2:Int):Rat),((2:Int):Rat),0⟩:V3) (⟨((0:Int):Rat),((0:Int):Rat),0⟩:V3) (⟨((2:Int):Rat),((2:Int):Rat),0⟩:V3)).getD 0 default).2.2.1=1:=by decide +kernel
  generalize clO 2 100 (⟨((0:Int):Rat),((0:Int):Rat),0⟩:V3) (⟨((2:Int):Rat),((2:Int):Rat),0⟩:V3) (⟨((0:Int):Rat),((0:Int):Rat),0⟩:V3) (⟨((2:Int):Rat),((2:Int):Rat),0⟩:V3)=l at h
  match l,h with
  | x :: r,h=>exact⟨x,r,rfl,h.2⟩
 have hM1:aN Tryz.prog 14 [.agg [aG 1,.list 3 ((cN 1 0 1).map ratL),.list 12 ((lnR (⟨((0:Int):Rat),((0:Int):Rat),0⟩:V3) (⟨((2:Int):Rat),((2:Int):Rat),0⟩:V3)).map eB)],.agg [aG 1,.list 3 ((cN 1 0 1).map ratL),.list 12 ((lnR (⟨((0:Int):Rat),((2:Int):Rat),0⟩:V3) (⟨((2:Int):Rat),((0:Int):Rat),0⟩:V3)).map eB)],.agg [iL 0,iL 9,ratL 0]] (.tup [.list 4 [jE (([dF],[dF],3,0):kH)],iL 0]):=by
  have:=y4 (⟨((0:Int):Rat),((0:Int):Rat),0⟩:V3) (⟨((2:Int):Rat),((2:Int):Rat),0⟩:V3) (⟨((0:Int):Rat),((2:Int):Rat),0⟩:V3) (⟨((2:Int):Rat),((0:Int):Rat),0⟩:V3) ⟨by decide +kernel,by decide +kernel,by decide +kernel⟩ ⟨by decide +kernel,by decide +kernel,by decide +kernel⟩ ⟨by decide +kernel,by decide +kernel,by decide +kernel⟩ ⟨by decide +kernel,by decide +kernel,by decide +kernel⟩ rfl rfl rfl rfl 0 9 (by decide) (by decide)
  rw [hA1] at this;exact this
 have hM2:aN Tryz.prog 14 [.agg [aG 1,.list 3 ((cN 1 0 1).map ratL),.list 12 ((lnR (⟨((0:Int):Rat),((0:Int):Rat),0⟩:V3) (⟨((2:Int):Rat),((2:Int):Rat),0⟩:V3)).map eB)],.agg [aG 1,.list 3 ((cN 1 0 1).map ratL),.list 12 ((lnR (⟨((0:Int):Rat),((0:Int):Rat),0⟩:V3) (⟨((2:Int):Rat),((2:Int):Rat),0⟩:V3)).map eB)],.agg [iL 2,iL 100,ratL 0]] (.tup [.list 4 ((x :: r).map jE),iL 0]):=by
  have:=y4 (⟨((0:Int):Rat),((0:Int):Rat),0⟩:V3) (⟨((2:Int):Rat),((2:Int):Rat),0⟩:V3) (⟨((0:Int):Rat),((0:Int):Rat),0⟩:V3) (⟨((2:Int):Rat),((2:Int):Rat),0⟩:V3) ⟨by decide +kernel,by decide +kernel,by decide +kernel⟩ ⟨by decide +kernel,by decide +kernel,by decide +kernel⟩ ⟨by decide +kernel,by decide +kernel,by decide +kernel⟩ ⟨by decide +kernel,by decide +kernel,by decide +kernel⟩ rfl rfl rfl rfl 2 100 (by decide) (by decide)
  rw [hA2] at this;exact this
 refine dJ Tryz.func9 ?_
 refine dP ?_
 refine cp bI (zD 0 0 (by decide) (by decide)) ?_
 refine cp bI (zD 2 2 (by decide) (by decide)) ?_
 refine cp bI (yL (⟨((0:Int):Rat),((0:Int):Rat),0⟩:V3) (⟨((2:Int):Rat),((2:Int):Rat),0⟩:V3)) ?_
 refine cp bI (zD 0 2 (by decide) (by decide)) ?_
 refine cp bI (zD 2 0 (by decide) (by decide)) ?_
 refine cp bI (yL (⟨((0:Int):Rat),((2:Int):Rat),0⟩:V3) (⟨((2:Int):Rat),((0:Int):Rat),0⟩:V3)) ?_
 refine cG ?_
 refine aB rfl (show OpP _ _ _ _ (.agg [iL 0,iL 9,ratL 0]) from .build (zs:=[.v (.int .i64 0),.v (.int .i64 0),ratL 0]) (by simpa [lay,LV.csize,aL,pL,aD.csize,aD.isAgg] using aIS) Z35 (by simp only [List.forall_mem_cons];exact⟨⟨_,rfl,rfl,t8⟩,fun _ h=>by cases h⟩)) ?_
 try refine cK ?_
 refine cY rfl (.cons (.pure hq1) (.cons (.pure hq2) (.cons (.pure hp1) .nil))) (hM1) ?_
 refine cQ ?_
 refine aB rfl (show OpP _ _ _ _ (.agg [iL 2,iL 100,ratL 0]) from .build (zs:=[.v (.int .i64 0),.v (.int .i64 0),ratL 0]) (by simpa [lay,LV.csize,aL,pL,aD.csize,aD.isAgg] using aIS) Z35 (by simp only [List.forall_mem_cons];exact⟨⟨_,rfl,rfl,t8⟩,⟨_,rfl,rfl,t8⟩,fun _ h=>by cases h⟩)) ?_
 try refine cK ?_
 refine cY rfl (.cons (.pure hq1) (.cons (.pure hq1) (.cons (.pure hp2) .nil))) (hM2) ?_
 refine cH ?_
 refine aB (aO (v:=true) rfl rfl ((rfl)) rfl) (.move _) ?_
 refine aB (aO (v:=true) rfl rfl ((rfl)) rfl) lnA ?_
 refine aB (aO (v:=true) rfl rfl ((rfl)) rfl) (.bin rfl rfl rfl) ?_
 refine aB rfl (.pickT rfl ((rfl))) ?_
 refine bD ?_
 refine aB (aO (v:=true) rfl rfl ((rfl)) rfl) (.move _) ?_
 refine aB (aO (v:=true) rfl rfl ((rfl)) rfl) (.idxL (n:=0) (r:=(.agg [.list 6 (((([dF],[dF],3,0):kH)).1.map spL),.list 6 (((([dF],[dF],3,0):kH)).2.1.map spL),aG ((([dF],[dF],3,0):kH)).2.2.1,aG ((([dF],[dF],3,0):kH)).2.2.2])) rfl Tryz.underlying43 T51 rfl (by decide) rfl (tR _)) ?_
 refine aB (aO (v:=true) rfl rfl ((rfl)) rfl) faA ?_
 refine aB (aO (v:=true) rfl rfl ((rfl)) rfl) rX ?_
 refine aB (aO (v:=true) rfl rfl ((rfl)) rfl) (.bin rfl rfl rfl) ?_
 refine aB rfl (.pickT rfl ((rfl))) ?_
 refine bD ?_
 refine aB (aO (v:=true) rfl rfl ((rfl)) rfl) (.move _) ?_
 refine aB (aO (v:=true) rfl rfl ((rfl)) rfl) (.bin rfl rfl rfl) ?_
 refine aB rfl (.pickT rfl ((rfl))) ?_
 refine bD ?_
 refine aB (aO (v:=true) rfl rfl ((rfl)) rfl) (.move _) ?_
 refine aB (aO (v:=true) rfl rfl ((rfl)) rfl) lnA ?_
 refine aB (aO (v:=true) rfl rfl ((rfl)) rfl) (.bin rfl rfl rfl) ?_
 refine aB rfl (.pickT rfl ((rfl))) ?_
 refine bD ?_
 refine aB (aO (v:=true) rfl rfl ((decide_eq_true (by simp only [List.length_cons,List.length_map];omega))) rfl) (.move _) ?_
 refine aB (aO (v:=true) rfl rfl ((decide_eq_true (by simp only [List.length_cons,List.length_map];omega))) rfl) (.idxL (n:=0) (r:=(.agg [.list 6 ((x).1.map spL),.list 6 ((x).2.1.map spL),aG (x).2.2.1,aG (x).2.2.2])) rfl Tryz.underlying43 T51 rfl (by decide) rfl (tR _)) ?_
 refine aB (aO (v:=true) rfl rfl ((decide_eq_true (by simp only [List.length_cons,List.length_map];omega))) rfl) faA ?_
 refine aB (aO (v:=true) rfl rfl ((decide_eq_true (by simp only [List.length_cons,List.length_map];omega))) rfl) rX ?_
 refine aB (aO (v:=true) rfl rfl ((decide_eq_true (by simp only [List.length_cons,List.length_map];omega))) rfl) (.bin rfl rfl rfl) ?_
 refine aB rfl (.pickT rfl ((decide_eq_true (by simp only [List.length_cons,List.length_map];omega)))) ?_
 refine cB ?_
 exact b8 (x:=bL true) (by refine Eq.trans (b:=LV.v (Value.bool (((x.2.2.1:Nat):Int)==1))) rfl ?_;rw [hx];rfl) (.pure rfl)
theorem aFa {D W na:Nat} {wd:Rat} {lk:lS} (C:Nat) {s:sC} (h:s.2.2.length+nC D s.1≤C):(oO D W na wd lk s).2.2.length≤C:=by
 have:=(wK (D:=D) (W:=W) (na:=na) (wd:=wd) (lk:=lk) (fun s=>s.2.2.length+nC D s.1≤C) (fun x st n cs hI=>by
  have hs:=uN (D:=D) (W:=W) (na:=na) (wd:=wd) (lk:=lk) (x:=x) (st:=st) (n:=n) (cs:=cs)
  have hl:(jK D W na wd lk (x :: st,n,cs)).2.2.length≤cs.length+1:=by
   rw [jK]
   split
   ·simp
   ·split
    ·simp
    ·split<;>simp
  have hI2:cs.length+nC D (x :: st)≤C:=hI
  show _+_≤C
  omega) (nC D s.1) (Nat.le_refl _) h (pK D W na wd lk s)).1
 exact Nat.le_trans (Nat.le_add_right _ _) this
theorem aHR {D w:Nat} (hD:D≤24) (a b c d:V3):(clO D w a b c d).length≤100000000:=by
 unfold clO
 refine aFa _ ?_
 have hp:2 ^ D≤2 ^ 24:=Nat.pow_le_pow_right (by decide) hD
 show 0+(2*2 ^ (D-0)-1+0)≤_
 rw [Nat.sub_zero]
 omega
theorem aCK (l:List Int) (k:Nat):(flV l k).z=0:=rfl
attribute [local irreducible] w6 clO flV flK nbV nZ
namespace Zq44
theorem cK {p q:Prop} (k:q) (e:p=q:=by simp only [e1,e2,e3,e4,p1,p2,p3,q1,q2,q3,l1,t0,t1,r1,r2,r3,r4,Nat.zero_add,Nat.reduceMul,Nat.reduceAdd,b1,b2,b3,b4,b5,b6,i1,i2,i3,i4,i5,i6,Nat.reduceBEq,hc9,fz0,wF,a8,aDV,aC aEj,List.length_map,List.getD_cons_zero,List.getD_cons_succ,List.set_cons_zero,List.set_cons_succ,Nat.reduceEqDiff,reduceIte,if_true,if_false,a8,a9,aC cW,aC dR,aC aD,aT,a6,LV.kill,bH];exact rfl):p:=e.mpr k
end Zq44
open Zq44 in
theorem xA (l:List Int) (depth:Int) (hl:l.length≤9223372036854775807∧∀ n∈l,-9223372036854775808≤n∧n≤9223372036854775807) (hdp:-9223372036854775808≤depth∧depth≤9223372036854775807):aN Tryz.prog 6 [.list 1 (l.map dS),iL depth] (bL true):=by
 have hlt:=hl.1
 have hc9:(LV.agg [ratL 0,ratL 0,ratL 0]).csize=9:=by simp [LV.csize,aL,aD.csize]
 obtain⟨dn,hdn⟩:∃ dn:Nat,depth % 4=(dn:Int):=⟨(depth % 4).toNat,by omega⟩
 have hdl:dn≤24:=by omega
 have hM4:aN Tryz.prog 12 [iL depth,iL 4] (aG dn):=by
  have:=aJh depth 4 (by decide) (by decide)
  rwa [hdn] at this
 have hpp:LV.pure (.agg [aG dn,iL 100,ratL 0])=true:=by simp [LV.pure,aV,aD.pure]
 have hmu:∀ x y:Int,-1≤x∧x≤1→-1≤y∧y≤1→-1≤x*y∧x*y≤1:=fun x y hx hy=>by
  have e:x=-1∨x=0∨x=1:=by omega
  rcases e with rfl | rfl | rfl<;>omega
 refine dJ Tryz.func6 ?_
 refine eP ?_
 refine cp cS (aIm l hlt) ?_
 refine dI ?_
 refine aQ rfl (fun h19r h19=>?_) (fun h19r h19=>?_)
 ·refine cU ?_
  refine cp am0 (pG) ?_
  refine dX ?_
  exact b8 rfl (.pure rfl)
 ·have hl5:l.length≤500:=by simpa using h19
  obtain⟨k1,ek1⟩:∃ k,flK l 0=k:=⟨_,rfl⟩
  obtain⟨qA,eqA⟩:∃ q,flV l 0=q:=⟨_,rfl⟩
  have hk1:k1≤500:=by rw [←ek1];exact y8 hl5 (Nat.zero_le _)
  have hF0:=tU l 0 hl5 (Nat.zero_le _)
  rw [eqA,ek1] at hF0
  have bqA:=zE l 0
  have zqA:=aCK l 0
  rw [eqA] at bqA zqA
  obtain⟨k2,ek2⟩:∃ k,flK l k1=k:=⟨_,rfl⟩
  obtain⟨qB,eqB⟩:∃ q,flV l k1=q:=⟨_,rfl⟩
  have hk2:k2≤500:=by rw [←ek2];exact y8 hl5 hk1
  have hF1:=tU l k1 hl5 hk1
  rw [eqB,ek2] at hF1
  have bqB:=zE l k1
  have zqB:=aCK l k1
  rw [eqB] at bqB zqB
  obtain⟨k3,ek3⟩:∃ k,flK l k2=k:=⟨_,rfl⟩
  obtain⟨qC,eqC⟩:∃ q,flV l k2=q:=⟨_,rfl⟩
  have hk3:k3≤500:=by rw [←ek3];exact y8 hl5 hk2
  have hF2:=tU l k2 hl5 hk2
  rw [eqC,ek3] at hF2
  have bqC:=zE l k2
  have zqC:=aCK l k2
  rw [eqC] at bqC zqC
  obtain⟨k4,ek4⟩:∃ k,flK l k3=k:=⟨_,rfl⟩
  obtain⟨qD,eqD⟩:∃ q,flV l k3=q:=⟨_,rfl⟩
  have hk4:k4≤500:=by rw [←ek4];exact y8 hl5 hk3
  have hF3:=tU l k3 hl5 hk3
  rw [eqD,ek4] at hF3
  have bqD:=zE l k3
  have zqD:=aCK l k3
  rw [eqD] at bqD zqD
  have hO0:=oV qA qB qC 1 (by decide) bqA bqB bqC
  have ho0:=aAf qA qB qC
  obtain⟨o1,eo0⟩:∃ o,w6 qA qB qC=o:=⟨_,rfl⟩
  rw [eo0] at hO0 ho0
  have hO1:=oV qA qB qD 1 (by decide) bqA bqB bqD
  have ho1:=aAf qA qB qD
  obtain⟨o2,eo1⟩:∃ o,w6 qA qB qD=o:=⟨_,rfl⟩
  rw [eo1] at hO1 ho1
  have hO2:=oV qC qD qA 1 (by decide) bqC bqD bqA
  have ho2:=aAf qC qD qA
  obtain⟨o3,eo2⟩:∃ o,w6 qC qD qA=o:=⟨_,rfl⟩
  rw [eo2] at hO2 ho2
  have hO3:=oV qC qD qB 1 (by decide) bqC bqD bqB
  have ho3:=aAf qC qD qB
  obtain⟨o4,eo3⟩:∃ o,w6 qC qD qB=o:=⟨_,rfl⟩
  rw [eo3] at hO3 ho3
  have hL1:=yL qA qB
  have hL2:=yL qC qD
  have hM:=y4 qA qB qC qD bqA bqB bqC bqD zqA zqB zqC zqD dn 100 hdl (by decide)
  obtain⟨cls,ecls⟩:∃ c,clO dn 100 qA qB qC qD=c:=⟨_,rfl⟩
  rw [ecls] at hM
  have hX:o1*o2<0→o3*o4<0→cls=[(([dF],[dF],3,0):kH)]:=fun h h2=>by rw [←ecls];exact aEl (by rw [eo0,eo1];exact h) (by rw [eo2,eo3];exact h2) zqA zqB zqC zqD dn 100 (by decide)
  have hN:¬(o1*o2<0∧o3*o4<0)→∀ x∈cls,x.2.2.1≠3:=fun h=>by rw [←ecls];exact aHX (by rw [eo0,eo1,eo2,eo3];exact h) dn 100
  have hcl:cls.length≤100000000:=by rw [←ecls];exact aHR hdl qA qB qC qD
  have hm1:=hmu _ _ ho0 ho1
  have hm2:=hmu _ _ ho2 ho3
  have hq1:LV.pure (.agg [aG 1,.list 3 ((cN 1 0 1).map ratL),.list 12 ((lnR qA qB).map eB)])=true:=by simp [LV.pure,aV,aF aD,aF dR]
  have hq2:LV.pure (.agg [aG 1,.list 3 ((cN 1 0 1).map ratL),.list 12 ((lnR qC qD).map eB)])=true:=by simp [LV.pure,aV,aF aD,aF dR]
  generalize hPO1:lnR qA qB=po1 at hL1 hM hq1
  generalize hPO2:lnR qC qD=po2 at hL2 hM hq2
  refine dX ?_
  refine lJ [] rfl rfl (.cons nJ .nil) (aJv l) (dB l 0) rfl ?_
  refine bY ?_
  refine lG 1000353 rfl rfl rfl (dB l _) (.cons .ptr .nil) .ptr hF0 rfl (dB l _) (cW.pure _) ?_
  refine bD ?_
  refine lG 1000353 rfl rfl rfl (dB l _) (.cons .ptr .nil) .ptr hF1 rfl (dB l _) (cW.pure _) ?_
  refine bD ?_
  refine lG 1000353 rfl rfl rfl (dB l _) (.cons .ptr .nil) .ptr hF2 rfl (dB l _) (cW.pure _) ?_
  refine bD ?_
  refine lG 1000353 rfl rfl rfl (dB l _) (.cons .ptr .nil) .ptr hF3 rfl (dB l _) (cW.pure _) ?_
  refine cQ ?_
  refine aP 8 (by decide +kernel) ?_
  refine aB rfl (.loadE (x:=dG qA) rfl rfl rfl rfl (cW.csize _) (b7 (cW.csize _) rfl) kS) ?_
  refine aB rfl (.loadE (x:=dG qB) rfl rfl rfl rfl (cW.csize _) (b7 (cW.csize _) rfl) kS) ?_
  refine cp bI (hL1) ?_
  refine aB rfl (.loadE (x:=dG qC) rfl rfl rfl rfl (cW.csize _) (b7 (cW.csize _) rfl) kS) ?_
  refine aB rfl (.loadE (x:=dG qD) rfl rfl rfl rfl (cW.csize _) (b7 (cW.csize _) rfl) kS) ?_
  refine cp bI (hL2) ?_
  refine dP ?_
  refine aP 11 (by decide +kernel) ?_
  refine aB rfl (.loadE rfl rfl rfl rfl cs (b7 cs rfl) T28) ?_
  refine aB rfl (.loadE rfl rfl rfl rfl cs (b7 cs rfl) T28) ?_
  refine bD ?_
  refine cp bI (hM4) ?_
  refine aB rfl (show OpP _ _ _ _ (.agg [aG dn,iL 100,ratL 0]) from .build (zs:=[.v (.int .i64 0),.v (.int .i64 0),ratL 0]) (by simpa [lay,LV.csize,aL,pL,aD.csize,aD.isAgg] using aIS) Z35 (by simp only [List.forall_mem_cons];exact⟨⟨_,rfl,rfl,t8⟩,⟨_,rfl,rfl,t8⟩,fun _ h=>by cases h⟩)) ?_
  try refine cK ?_
  refine cY rfl (.cons (.pure hq1) (.cons (.pure hq2) (.cons (.pure hpp) .nil))) (hM) ?_
  refine eI ?_
  refine aP 10 (by decide +kernel) ?_
  refine aB rfl (.loadE (x:=dG qA) rfl rfl rfl rfl (cW.csize _) (b7 (cW.csize _) rfl) kS) ?_
  refine aB rfl (.loadE (x:=dG qB) rfl rfl rfl rfl (cW.csize _) (b7 (cW.csize _) rfl) kS) ?_
  refine aB rfl (.loadE (x:=dG qC) rfl rfl rfl rfl (cW.csize _) (b7 (cW.csize _) rfl) kS) ?_
  refine cp nK (hO0) ?_
  refine aB rfl (.loadE (x:=dG qA) rfl rfl rfl rfl (cW.csize _) (b7 (cW.csize _) rfl) kS) ?_
  refine aB rfl (.loadE (x:=dG qB) rfl rfl rfl rfl (cW.csize _) (b7 (cW.csize _) rfl) kS) ?_
  refine aB rfl (.loadE (x:=dG qD) rfl rfl rfl rfl (cW.csize _) (b7 (cW.csize _) rfl) kS) ?_
  refine cp nK (hO1) ?_
  refine aB rfl (.bin rfl rfl (xF (by omega) (by omega))) ?_
  refine cB ?_
  refine aP 10 (by decide +kernel) ?_
  refine aB rfl (.loadE (x:=dG qC) rfl rfl rfl rfl (cW.csize _) (b7 (cW.csize _) rfl) kS) ?_
  refine aB rfl (.loadE (x:=dG qD) rfl rfl rfl rfl (cW.csize _) (b7 (cW.csize _) rfl) kS) ?_
  refine aB rfl (.loadE (x:=dG qA) rfl rfl rfl rfl (cW.csize _) (b7 (cW.csize _) rfl) kS) ?_
  refine cp nK (hO2) ?_
  refine aB rfl (.loadE (x:=dG qC) rfl rfl rfl rfl (cW.csize _) (b7 (cW.csize _) rfl) kS) ?_
  refine aB rfl (.loadE (x:=dG qD) rfl rfl rfl rfl (cW.csize _) (b7 (cW.csize _) rfl) kS) ?_
  refine aB rfl (.loadE (x:=dG qB) rfl rfl rfl rfl (cW.csize _) (b7 (cW.csize _) rfl) kS) ?_
  refine cp nK (hO3) ?_
  refine aB rfl (.bin rfl rfl (xF (by omega) (by omega))) ?_
  refine eP ?_
  refine eD 66 rfl (fun h66r h66=>?_) (fun h66r h66=>?_)
  ·refine dX ?_
   refine aQ rfl (fun h69r h69=>?_) (fun h69r h69=>?_)
   ·obtain rfl:=hX h66 h69
    refine dX ?_
    refine aB (aO (v:=true) rfl rfl ((rfl)) rfl) (.move _) ?_
    refine aB (aO (v:=true) rfl rfl ((rfl)) rfl) lnA ?_
    refine aB (aO (v:=true) rfl rfl ((rfl)) rfl) (.bin rfl rfl rfl) ?_
    refine aB rfl (.pickT rfl ((rfl))) ?_
    refine bD ?_
    refine aB (aO (v:=true) rfl rfl ((rfl)) rfl) (.move _) ?_
    refine aB (aO (v:=true) rfl rfl ((rfl)) rfl) (.idxL (n:=0) (r:=(.agg [.list 6 (((([dF],[dF],3,0):kH)).1.map spL),.list 6 (((([dF],[dF],3,0):kH)).2.1.map spL),aG ((([dF],[dF],3,0):kH)).2.2.1,aG ((([dF],[dF],3,0):kH)).2.2.2])) rfl Tryz.underlying43 T51 rfl (by decide) rfl (tR _)) ?_
    refine aB (aO (v:=true) rfl rfl ((rfl)) rfl) faA ?_
    refine aB (aO (v:=true) rfl rfl ((rfl)) rfl) rX ?_
    refine aB (aO (v:=true) rfl rfl ((rfl)) rfl) (.bin rfl rfl rfl) ?_
    refine aB rfl (.pickT rfl ((rfl))) ?_
    refine bD ?_
    refine cY (aO (v:=true) rfl rfl ((rfl)) rfl) .nil (pG) ?_
    refine aB rfl (.pickT rfl ((rfl))) ?_
    refine dX ?_
    exact b8 rfl (.pure rfl)
   ·refine eP ?_
    have hno:=hN (fun g=>by first | exact h69 g.2 | exact h66 g.1)
    refine fV ((((((((a7.kill _ 6).trans (a7.kill _ 7)).trans (a7.kill _ 8)).trans (a7.kill _ 9)).trans (a7.kill _ 10)).trans (a7.kill _ 11)).trans (a7.kill _ 1000353))) ?_
    refine lO (fun(j:Nat) L=>((((St.mk L.slot (hp [])).put (some 12) (.list 4 (cls.map jE))).put (some 13) (iL 0)).put (some 16) (aG j))) (fun j=>j≤cls.length) (fun j=>cls.length-j) 0 (Nat.zero_le _) ?_
    rintro j L1 hj
    refine eP ?_
    refine aQ rfl (fun h90r h90=>?_) (fun h90r h90=>?_)
    ·refine eI ?_
     refine aB rfl ixA ?_
     refine dX ?_
     refine aQ rfl (fun h98r h98=>?_) (fun h98r h98=>?_)
     ·exact absurd (by exact_mod_cast h98) (hno (cls.getD j default) (by rw [List.getD_eq_getElem?_getD,List.getElem?_eq_getElem (by omega)];exact List.getElem_mem _))
     ·refine dX ?_
      refine aB rfl (.bin rfl rfl (dA (by omega))) ?_
      refine dI ?_
      exact kE (j+1) (by omega)
    ·refine cG ?_
     refine cY (aO (v:=true) rfl rfl ((rfl)) rfl) .nil (pG) ?_
     refine aB rfl (.pickT rfl ((rfl))) ?_
     refine cB ?_
     exact b8 rfl (.pure rfl)
  ·refine iR ?_
   have hno:=hN (fun g=>by first | exact h69 g.2 | exact h66 g.1)
   refine fV ((((((((a7.kill _ 6).trans (a7.kill _ 7)).trans (a7.kill _ 8)).trans (a7.kill _ 9)).trans (a7.kill _ 10)).trans (a7.kill _ 11)).trans (a7.kill _ 1000353))) ?_
   refine lO (fun(j:Nat) L=>((((St.mk L.slot (hp [])).put (some 12) (.list 4 (cls.map jE))).put (some 13) (iL 0)).put (some 16) (aG j))) (fun j=>j≤cls.length) (fun j=>cls.length-j) 0 (Nat.zero_le _) ?_
   rintro j L1 hj
   refine eP ?_
   refine aQ rfl (fun h90r h90=>?_) (fun h90r h90=>?_)
   ·refine eI ?_
    refine aB rfl ixA ?_
    refine dX ?_
    refine aQ rfl (fun h98r h98=>?_) (fun h98r h98=>?_)
    ·exact absurd (by exact_mod_cast h98) (hno (cls.getD j default) (by rw [List.getD_eq_getElem?_getD,List.getElem?_eq_getElem (by omega)];exact List.getElem_mem _))
    ·refine dX ?_
     refine aB rfl (.bin rfl rfl (dA (by omega))) ?_
     refine dI ?_
     exact kE (j+1) (by omega)
   ·refine cG ?_
    refine cY (aO (v:=true) rfl rfl ((rfl)) rfl) .nil (pG) ?_
    refine aB rfl (.pickT rfl ((rfl))) ?_
    refine cB ?_
    exact b8 rfl (.pure rfl)
end Go.Proofs.YtckppbhafancnaaGreat
end
