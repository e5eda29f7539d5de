/- Texts J2, J4, J5, J6, J7, J8, A12, J9, J10 of this proof, joined. -/
import Derived.Test.YtckppbhafancnaaGreatQN7
set_option linter.unusedVariables false
set_option linter.unusedSimpArgs false
section
set_option linter.unusedVariables false
set_option linter.unusedSimpArgs false
set_option maxHeartbeats 8000000
set_option maxRecDepth 100000
attribute [local irreducible] Go.Lg.opsL Go.Lg.cy Go.Lg.mR Go.Lg.oF
namespace Go.Proofs.YtckppbhafancnaaGreat
open Go.Lg
structure ivK (d:Nat) (k:List Rat) (pc:Nat) (t:Rat):Prop where
 d6:d<=6
 kl:2*d+2<=k.length
 k9:k.length<=100
 kr:∀ x∈k,rl x<=100
 tr:rl t<=1000
 h1:k.getD 0 0<=t
 h2:t<=k.getD (k.length-1) 0
 p1:d<=pc
 p2:pc+d+1<k.length
 le:k.getD pc 0<=t
 gt:∀ i,pc<i->i+d+1<k.length->t<k.getD i 0
def ir (k:List Rat) (d pc:Nat) (t:Rat):List Rat:=(List.range (d+1)).map fun i=>eG k pc t d (pc-d+i)
theorem ajw (k:List Rat) (d pc:Nat) (t:Rat):(ir k d pc t).length=d+1:=by simp [ir]
theorem ajL {k:List Rat} {d pc:Nat} {t:Rat} {i:Nat} (h:i<d+1):(ir k d pc t).getD i 0=eG k pc t d (pc-d+i):=aie h
theorem azh {k:List Rat} {d pc:Nat} {t:Rat} {i:Nat} (h:i<d+1):(ir k d pc t).take i++[eG k pc t d (pc-d+i)]=(ir k d pc t).take (i+1):=by
 rw [<-ajL h];exact aal (by rw [ajw];exact h)
theorem anH {k:List Rat} {d pc:Nat} {t:Rat} (h:ivK d k pc t):∀ x∈ir k d pc t,rl x<=632000:=fun x hx=>by
 obtain⟨i,hi,rfl⟩:=List.mem_map.1 hx
 have h1:=abT (at_:=pc) (R:=1000) ai (fun x hx=>Nat.le_trans (h.kr x hx) ai) h.tr d (pc-d+i)
 have h6:=h.d6
 have wW:2 ^ d<=2 ^ 6:=Nat.pow_le_pow_right ai h6
 omega
def fu (k:List Rat) (d pc:Nat) (t:Rat) (po:List aF) (c i:Nat):Rat:=sm i fun j=>(ir k d pc t).getD j 0*(if c<3 then(bj po c).getD (pc-d+j) 0 else(aX po).getD (pc-d+j) 0)
theorem alw {k:List Rat} {d pc R:Nat} {t:Rat} {po:List aF} (h6:d<=6) (hR:R<=40000) (eP:∀ q∈po,ow R q) (hn:∀ x∈ir k d pc t,rl x<=632000) (i:Nat) (hi:i<=d+1) (c:Nat):rl (fu k d pc t po c i)<=6000000:=by
 have gn:∀ c,∀ z∈bj po c,rl z<=100000:=fun c z hz=>by have:=acF eP c z hz;omega
 have gw:∀ z∈aX po,rl z<=100000:=fun z hz=>by have:=acI eP z hz;omega
 have h1:=akS (f:=fun j=>(ir k d pc t).getD j 0*(if c<3 then(bj po c).getD (pc-d+j) 0 else(aX po).getD (pc-d+j) 0)) (R:=732000) ai i (fun j hj=>by
  have a1:=ga ai hn j
  have a2:=ga ai (gn c) (pc-d+j)
  have a3:=ga ai gw (pc-d+j)
  have m:=cO ((ir k d pc t).getD j 0) (if c<3 then(bj po c).getD (pc-d+j) 0 else(aX po).getD (pc-d+j) 0)
  split at m<;>split<;>first | omega | contradiction)
 have h2:i*(732000+1)<=7*(732000+1):=Nat.mul_le_mul_right _ J
 unfold fu
 omega
theorem aCJ {k:List Rat} {d pc i:Nat} {t:Rat} {po:List aF} (h:pc-d+i<po.length) :
  fu k d pc t po 0 i+(ir k d pc t).getD i 0*((po.getD (pc-d+i) default).w*(po.getD (pc-d+i) default).p.x)=fu k d pc t po 0 (i+1)/\fu k d pc t po 1 i+(ir k d pc t).getD i 0*((po.getD (pc-d+i) default).w*(po.getD (pc-d+i) default).p.y)=fu k d pc t po 1 (i+1) /\
  fu k d pc t po 2 i+(ir k d pc t).getD i 0*((po.getD (pc-d+i) default).w*(po.getD (pc-d+i) default).p.z)=fu k d pc t po 2 (i+1)/\fu k d pc t po 3 i+(ir k d pc t).getD i 0*(po.getD (pc-d+i) default).w=fu k d pc t po 3 (i+1):=by
 refine⟨?_,?_,?_,?_⟩
 ·unfold fu;rw [sm,if_pos ai,aag h];rfl
 ·unfold fu;rw [sm,if_pos ai,aag h];rfl
 ·unfold fu;rw [sm,if_pos ai,aag h];rfl
 ·unfold fu;rw [sm,if_neg ai,abm h]
theorem azY {k:List Rat} {d pc:Nat} {t:Rat} {po:List aF} (hp:d<=pc) (hl:pc+1<=po.length) (hs:∀ i j,i<=pc->pc<j->j<=pc+d->k.getD i 0≠k.getD j 0):(∀ c,c<3->fu k d pc t po c (d+1)=da k d pc (bj po c) (List.replicate d t))/\fu k d pc t po 3 (d+1)=da k d pc (aX po) (List.replicate d t):=by
 refine⟨fun c hc=>?_,?_⟩
 ·rw [<-aaQ (t:=t) (v:=bj po c) (by rw [n9];exact hl) hp hs]
  unfold fu
  exact wF _ _ _ fun i hi=>by rw [if_pos hc,ajL hi]
 ·rw [<-aaQ (t:=t) (v:=aX po) (by rw [mD];exact hl) hp hs]
  unfold fu
  exact wF _ _ _ fun i hi=>by rw [if_neg ai,ajL hi]
open fP in
theorem au2 (q:aF) (R:Nat) (hR:R<=1000000) (h:ow R q):av Tryz.prog 143 [aT q] (.agg [ae (q.w*q.p.x),ae (q.w*q.p.y),ae (q.w*q.p.z),ae q.w]):=by
 obtain⟨hp,hw,kJ⟩:=h
 refine aN Tryz.func143 (ht:=(fun g=>LV.cP g _ pu)) ?_
 refine bu ?_
 refine cp aq (amH q.w q.p R J hw hp) ?_
 refine mV ?_
 exact fS [] rfl rfl rfl cs (dG cs rfl) aiw (.pure pu)
namespace apz
theorem aH {p q:Prop} (k:q) (e:p=q:=by simp only [e1,e2,e3,e4,p1,p2,p3,q1,q2,q3,l1,t0,t1,r1,r2,r3,r4,Nat.zero_add,Nat.reduceMul,Nat.reduceAdd,b1,b2,b3,b4,b5,b6,i1,i2,i3,i4,i5,i6,Nat.reduceBEq,rp,List.length_map,cx,List.set_cons_zero,List.set_cons_succ,Nat.reduceEqDiff,reduceIte,if_true,if_false,dW,ec,aP bg,aP bw,aP ao,cH,dO,LV.kill,bN];exact rfl):p:=e.mpr k
end apz
open apz in
theorem amr (d:Nat) (k:List Rat) (pc:Nat) (t:Rat) (hI:ivK d k pc t):av Tryz.prog 63 [.list 3 (k.map ae),ah d,ae t] (.a7 [ah pc,iL 0]):=by
 obtain⟨hd,fU,hk9,jd,ht,h1,h2,iT,pZ,hle,hgt⟩:=hI
 have pO:∀ i,rl (k.getD i 0)<=100:=ga ai jd
 have g0:=pO 0
 have g9:=pO (k.length-1)
 have c1:¬fh t (k.getD 0 0)<0:=fun e=>by have:=sM.2 h1;omega
 have c2:¬fh t (k.getD (k.length-1) 0) > 0:=fun e=>by have:=adp.2 h2;omega
 have rp:((k.length:Nat):Int).toNat-1=k.length-1:=by omega
 refine aN Tryz.func63 (ht:=(jg rfl rfl)) ?_
 refine bp ?_
 refine ak rfl jm ?_
 refine a6 ?_
 refine aY 15 an ?_
 refine ax ?_
 try simp only [t1,cx]
 refine cp aq (abN t (k.getD 0 0) J) ?_
 refine aL ?_
 refine dy 19 rfl ?_ ?_<;>intro aeg h19
 ·omega
 ·refine a6 ?_
  try simp only [t1,cx,rp]
  refine cp aq (abN t (k.getD (k.length-1) 0) J) ?_
  refine ax ?_
  refine aC rfl ?_ ?_<;>intro vq h27
  ·omega
  ·refine aA ?_
   refine ak rfl (.bin rfl rfl (wS (c:=k.length-1-d) J J)) ?_
   refine ak rfl jm ?_
   refine a6 ?_
   refine dJ (fun(i:Nat) L=>((((St.mk L.slot (hp [(5,⟨3,[ae t],true⟩)])).put (some 0) (.list 3 (k.map ae))).put (some 5) (.az 5 3 0 0)).put (some 9) (ah i))) (fun i=>pc<=i/\i+d+1<k.length) (fun i=>i) (k.length-1-d-1) ⟨J,J⟩ ?_
   rintro i L1 ⟨qz,dB⟩
   refine aL ?_
   refine aY 11 an ?_
   refine aJ ?_
   refine dy 34 rfl ?_ ?_<;>intro aeB yh
   ·refine a6 ?_
    try simp only [t1,cx,Int.toNat_natCast]
    refine cp aq (abN t (k.getD i 0) (by have:=pO i;omega)) ?_
    refine ax ?_
    refine aC rfl ?_ ?_<;>intro awK h42
    ·have bE:t<k.getD i 0:=abK.1 h42
     have aQ:i≠pc:=fun e=>by subst e;grind
     refine a6 ?_
     refine ak rfl jm ?_
     refine ax ?_
     exact iG (i-1) ⟨J,J⟩
    ·obtain rfl:pc=i:=by
      rcases Nat.lt_or_ge pc i with g | g
      ·have e1:=abK.2 (hgt i g dB)
       exfalso
       first | omega | exact h42 e1
      ·omega
     refine dj ?_
     exact vd
   ·obtain rfl:pc=i:=by omega
    refine a6 ?_
    try simp only [t1,cx,Int.toNat_natCast]
    refine mV ?_
    exact vd
namespace ak2
theorem aH {p q:Prop} (k:q) (e:p=q:=by simp only [e1,e2,e3,e4,p1,p2,p3,q1,q2,q3,l1,t0,t1,r1,r2,r3,r4,Nat.zero_add,Nat.reduceMul,Nat.reduceAdd,b1,b2,b3,b4,b5,b6,i1,i2,i3,i4,i5,i6,Nat.reduceBEq,gv,fD,List.length_map,cx,k5,kI,iz,List.length_cons,List.length_nil,List.nil_append,List.map_nil,List.take_nil,List.append_nil,List.set_cons_zero,List.set_cons_succ,Nat.reduceEqDiff,reduceIte,if_true,if_false,dW,ec,aP bg,aP bw,aP ao,cH,dO,LV.kill,bN];exact rfl):p:=e.mpr k
end ak2
open ak2 in
theorem avH (d:Nat) (k:List Rat) (pc:Nat) (t:Rat) (hI:ivK d k pc t):av Tryz.prog 142 [.list 3 (k.map ae),ah d,ae t] (.a7 [ah (pc-d),.list 3 ((ir k d pc t).map ae),iL 0]):=by
 have pI:=hI
 obtain⟨hd,fU,hk9,jd,ht,h1,h2,iT,pZ,hle,hgt⟩:=hI
 have pO:∀ i,rl (k.getD i 0)<=100:=ga ai jd
 have kN:=ajw k d pc t
 refine aN Tryz.func142 (ht:=(aeq rfl (et ao _ _) rfl)) ?_
 have gv:True:=trivial
 have fD:True:=trivial
 refine dj ?_
 refine cp fH (amr d k pc t pI) ?_
 refine dk ?_
 refine aC rfl ?_ ?_<;>intro yP h21
 ·first | exact h21.elim | cases yP
 ·refine bu ?_
  refine ak rfl (.bin rfl rfl (wS (c:=pc-d) J J)) ?_
  refine ax ?_
  refine jo (aw.own (t:=11) 39 3 rfl rfl) ?_
  refine dJ (fun(i:Nat) L=>(((((((St.mk L.slot (hp [(5,⟨3,[ae t],true⟩),(39,⟨3,((ir k d pc t).take i).map ae,true⟩)])).put (some 0) (.list 3 (k.map ae))).put (some 1) (ah d)).put (some 5) (.az 5 3 0 0)).put (some 9) (ah pc)).put (some 11) (.ref 39 3 0 i)).put (some 12) (ah (pc-d+i)))) (fun i=>i<=d+1) (fun i=>d+1-i) 0 (Nat.zero_le _) ?_
  rintro i L1 hi
  refine bf ?_
  refine aC rfl ?_ ?_<;>intro vE oN
  ·have dB:i<d+1:=by omega
   have gv:=azh (k:=k) (d:=d) (pc:=pc) (t:=t) dB
   have fD:(((ir k d pc t).take i).map ae).take i=((ir k d pc t).take i).map ae:=List.take_of_length_le wj
   refine bp ?_
   refine cp am5 (aph k pc t J J (fun x hx=>Nat.le_trans (jd x hx) ai) J d J (pc-d+i) J) ?_
   refine ar ?_
   refine bI rfl (.fX (d:=39) (news:=[ae (eG k pc t d (pc-d+i))]) rfl rfl rfl rfl bm (.inl rfl) ai Tryz.underlying25 Tryz.underlying25 ko cK rfl kA (.inl ⟨38,0,_,rfl,by decide,rfl,rfl,by simp,rfl,by simp [aG,ao.pure]⟩) bm bm ai) ?_
   refine ax ?_
   refine cq (aw.kill _ 38) ?_
   refine ar ?_
   refine ak rfl cB ?_
   refine aJ ?_
   exact jX
  ·obtain rfl:i=d+1:=by omega
   have hE:(ir k d pc t).take (d+1)=(ir k d pc t):=List.take_of_length_le J
   refine bq ?_
   refine ak rfl (.bin rfl rfl (wS (c:=pc-d) J J)) ?_
   refine aR ?_
   simp only [hE]
   exact zS [39] rfl rfl (.pure rfl) rfl (eN ao rfl rfl J) rfl (.pure rfl)
namespace arD
theorem aH {p q:Prop} (k:q) (e:p=q:=by simp only [e1,e2,e3,e4,p1,p2,p3,q1,q2,q3,l1,t0,t1,r1,r2,r3,r4,Nat.zero_add,Nat.reduceMul,Nat.reduceAdd,b1,b2,b3,b4,b5,b6,i1,i2,i3,i4,i5,i6,Nat.reduceBEq,List.length_map,cx,kN,fV,nP,uN,List.set_cons_zero,List.set_cons_succ,Nat.reduceEqDiff,reduceIte,if_true,if_false,dW,ec,aP bg,aP bw,aP ao,cH,dO,LV.kill,bN];exact rfl):p:=e.mpr k
end arD
open arD in
theorem azA (d:Nat) (k:List Rat) (pc:Nat) (t:Rat) (hI:ivK d k pc t) (po:List aF) (R:Nat) (hR:R<=40000) (hl:po.length+d+1=k.length) (eP:∀ q∈po,ow R q):av Tryz.prog 65 [.agg [ah d,.list 3 (k.map ae),.list 12 (po.map aT)],ae t] (.agg [ae (fu k d pc t po 0 (d+1)),ae (fu k d pc t po 1 (d+1)),ae (fu k d pc t po 2 (d+1)),ae (fu k d pc t po 3 (d+1))]):=by
 have pI:=hI
 obtain⟨hd,fU,hk9,jd,ht,h1,h2,iT,pZ,hle,hgt⟩:=hI
 have pO:∀ i,rl (k.getD i 0)<=100:=ga ai jd
 have kN:=ajw k d pc t
 have aql:=eP
 have fV:∀ j,fu k d pc t po j 0=0:=fun j=>rfl
 have hnr:=anH pI
 have fG:LV.pure (.agg [ah d,.list 3 (k.map ae),.list 12 (po.map aT)])=true:=by simp [LV.pure,aG,aW ao,aW bw]
 refine aN Tryz.func65 (ht:=(fun g=>LV.cP g _ pu)) ?_
 have uN:True:=trivial
 refine dk ?_
 refine cp fH (avH d k pc t pI) ?_
 refine yS ?_
 refine dJ (fun(i:Nat) L=>(((((((St.mk L.slot (hp [(2,⟨3,[.agg [ah d,.list 3 (k.map ae),.list 12 (po.map aT)]],true⟩),(3,⟨3,[ae t],true⟩),(4,⟨12,[.agg [ae 0,ae 0,ae 0,ae 0]],true⟩),(8,⟨12,[.agg [ae (fu k d pc t po 0 i),ae (fu k d pc t po 1 i),ae (fu k d pc t po 2 i),ae (fu k d pc t po 3 i)]],true⟩)])).put (some 2) (.az 2 3 0 0)).put (some 4) (.az 4 12 0 0)).put (some 5) (ah (pc-d))).put (some 6) (.list 3 ((ir k d pc t).map ae))).put (some 8) (.az 8 12 0 0)).put (some 9) (ah i))) (fun i=>i<=d+1) (fun i=>d+1-i) 0 (Nat.zero_le _) ?_
 rintro i L1 hi
 refine bq ?_
 refine aC rfl ?_ ?_<;>intro adY yI
 ·have dB:pc-d+i<po.length:=by omega
  have eP:=eP _ (qI dB)
  have hng:=ga ai hnr i
  have fc:=alw (k:=k) (d:=d) (pc:=pc) (t:=t) (po:=po) hd hR aql hnr i J
  have cQ:=aCJ (k:=k) (d:=d) (pc:=pc) (t:=t) (po:=po) dB
  obtain⟨⟨ok1,ok2,ok3⟩,ok4,_⟩:=eP
  have uN:(((pc-d:Nat):Int)+(i:Int)).toNat=pc-d+i:=by omega
  have eP:=aql _ (qI dB)
  have bb0:=fc 0
  have bb1:=fc 1
  have bb2:=fc 2
  have bb3:=fc 3
  have m0:=cO ((ir k d pc t).getD i 0) ((po.getD (pc-d+i) default).w*(po.getD (pc-d+i) default).p.x)
  have m1:=cO ((ir k d pc t).getD i 0) ((po.getD (pc-d+i) default).w*(po.getD (pc-d+i) default).p.y)
  have m2:=cO ((ir k d pc t).getD i 0) ((po.getD (pc-d+i) default).w*(po.getD (pc-d+i) default).p.z)
  have m3:=cO ((ir k d pc t).getD i 0) (po.getD (pc-d+i) default).w
  have n0:=cO (po.getD (pc-d+i) default).w (po.getD (pc-d+i) default).p.x
  have n1:=cO (po.getD (pc-d+i) default).w (po.getD (pc-d+i) default).p.y
  have n2:=cO (po.getD (pc-d+i) default).w (po.getD (pc-d+i) default).p.z
  have hA0:av Tryz.prog 59 [ae (fu k d pc t po 0 i),ae ((ir k d pc t).getD i 0*((po.getD (pc-d+i) default).w*(po.getD (pc-d+i) default).p.x))] (ae (fu k d pc t po 0 (i+1))):=by
   rw [<-cQ.1];exact nw _ _ J
  have hA1:av Tryz.prog 59 [ae (fu k d pc t po 1 i),ae ((ir k d pc t).getD i 0*((po.getD (pc-d+i) default).w*(po.getD (pc-d+i) default).p.y))] (ae (fu k d pc t po 1 (i+1))):=by
   rw [<-cQ.2.1];exact nw _ _ J
  have hA2:av Tryz.prog 59 [ae (fu k d pc t po 2 i),ae ((ir k d pc t).getD i 0*((po.getD (pc-d+i) default).w*(po.getD (pc-d+i) default).p.z))] (ae (fu k d pc t po 2 (i+1))):=by
   rw [<-cQ.2.2.1];exact nw _ _ J
  have hA3:av Tryz.prog 59 [ae (fu k d pc t po 3 i),ae ((ir k d pc t).getD i 0*(po.getD (pc-d+i) default).w)] (ae (fu k d pc t po 3 (i+1))):=by
   rw [<-cQ.2.2.2];exact nw _ _ J
  refine bC ?_
  refine ak rfl w8 ?_
  refine aL ?_
  try simp only [t1,uN]
  refine cp aK (au2 (po.getD (pc-d+i) default) R J eP) ?_
  refine bC ?_
  refine bG ?_
  refine aR ?_
  refine bY (b:=_) rfl ai ?_
  refine ax ?_
  refine aY 14 an ?_
  refine bp ?_
  try simp only [t1,cx]
  refine cp aq (rE ((ir k d pc t).getD i 0) ((po.getD (pc-d+i) default).w*(po.getD (pc-d+i) default).p.x) J) ?_
  refine cp aq (hA0) ?_
  refine bp ?_
  refine bG ?_
  refine aR ?_
  refine bY (b:=_) rfl ai ?_
  refine ax ?_
  refine aY 14 an ?_
  refine bp ?_
  try simp only [t1,cx]
  refine cp aq (rE ((ir k d pc t).getD i 0) ((po.getD (pc-d+i) default).w*(po.getD (pc-d+i) default).p.y) J) ?_
  refine cp aq (hA1) ?_
  refine bp ?_
  refine bG ?_
  refine aR ?_
  refine bY (b:=_) rfl ai ?_
  refine ax ?_
  refine aY 14 an ?_
  refine bp ?_
  try simp only [t1,cx]
  refine cp aq (rE ((ir k d pc t).getD i 0) ((po.getD (pc-d+i) default).w*(po.getD (pc-d+i) default).p.z) J) ?_
  refine cp aq (hA2) ?_
  refine bp ?_
  refine bG ?_
  refine aR ?_
  refine bY (b:=_) rfl ai ?_
  refine ax ?_
  refine aY 14 an ?_
  refine bp ?_
  try simp only [t1,cx]
  refine cp aq (rE ((ir k d pc t).getD i 0) (po.getD (pc-d+i) default).w J) ?_
  refine cp aq (hA3) ?_
  refine bp ?_
  refine bG ?_
  refine aR ?_
  refine eF (b:=_) rfl ai ?_
  refine aA ?_
  refine cq (aw.kill _ 10) ?_
  refine ar ?_
  refine ak rfl cB ?_
  refine aJ ?_
  exact jX
 ·obtain rfl:i=d+1:=by omega
  refine bu ?_
  exact fS [] rfl rfl rfl cs (dG cs rfl) aiw (.pure pu)
open fP in
theorem aCk (d:Nat) (k:List Rat) (pc:Nat) (t:Rat) (hI:ivK d k pc t) (po:List aF) (R:Nat) (hR:R<=40000) (hl:po.length+d+1=k.length) (eP:∀ q∈po,ow R q) (hs:∀ i j,i<=pc->pc<j->j<=pc+d->k.getD i 0≠k.getD j 0):av Tryz.prog 19 [.agg [ah d,.list 3 (k.map ae),.list 12 (po.map aT)],ae t] (.a7 [aS (uH k d pc po t),iL 0]):=by
 have hb:=alw (k:=k) (d:=d) (pc:=pc) (t:=t) (po:=po) hI.d6 hR eP (anH hI) (d+1) (Nat.le_refl _)
 have he:=azY (t:=t) hI.p1 (show pc+1<=po.length by have:=hI.p2;omega) hs
 have hDr:av Tryz.prog 64 [.agg [ae (fu k d pc t po 0 (d+1)),ae (fu k d pc t po 1 (d+1)),ae (fu k d pc t po 2 (d+1)),ae (fu k d pc t po 3 (d+1))]] (aT ⟨uH k d pc po t,da k d pc (aX po) (List.replicate d t)⟩):=by
  have:=aBq _ _ _ _ 6000000 ai (hb 0) (hb 1) (hb 2) (hb 3)
  rw [he.1 0 ai,he.1 1 ai,he.1 2 ai,he.2] at this ⊢
  exact this
 have aia:LV.pure (.agg [ae (fu k d pc t po 0 (d+1)),ae (fu k d pc t po 1 (d+1)),ae (fu k d pc t po 2 (d+1)),ae (fu k d pc t po 3 (d+1))])=true:=by simp [LV.pure,aG,ao.pure]
 have fG:LV.pure (.agg [ah d,.list 3 (k.map ae),.list 12 (po.map aT)])=true:=by simp [LV.pure,aG,aW ao,aW bw]
 refine aN Tryz.func19 (ht:=(jg (bg.pure _) rfl)) ?_
 refine mA ?_
 refine cp fH (amr d k pc t hI) ?_
 refine dj ?_
 refine aC rfl ?_ ?_<;>intro rD rZ
 ·first | exact rZ.elim | cases rD
 ·refine aA ?_
  refine cp aq (azA d k pc t hI po R hR hl eP) ?_
  refine cp aK (hDr) ?_
  refine aA ?_
  exact sE [] rfl rfl rfl cs (dG cs rfl) ig (.pure pu) rfl (.pure rfl)
theorem cj.mono {D N M:Nat} {x:Rat} (h:cj D N x) (hN:N<=M):cj D M x:=by
 obtain⟨z,e,g⟩:=h
 exact⟨z,e,J⟩
theorem zr {z:Int} {N:Nat} (h:z.natAbs<=N):cj 1 N (z:Rat):=⟨z,by rw [show (((1:Nat):Int):Rat)=1 from rfl,Rat.mul_one],h⟩
theorem cj.agL {D N E M:Nat} {x y:Rat} (h:cj D N x) (g:cj E M y):cj (D*E) (N*M) (x*y):=by
 obtain⟨z,e,hz⟩:=h
 obtain⟨u,f,hu⟩:=g
 refine⟨z*u,?_,?_⟩
 ·rw [xq,Rat.intCast_mul,<-e,<-f];grind
 ·rw [Int.natAbs_mul];exact Nat.mul_le_mul hz hu
theorem cj.aeA {D N M:Nat} {x y:Rat} (h:cj D N x) (g:cj D M y):cj D (N+M) (x+y):=by
 obtain⟨z,e,hz⟩:=h
 obtain⟨u,f,hu⟩:=g
 refine⟨z+u,?_,?_⟩
 ·rw [Rat.intCast_add,<-e,<-f];grind
 ·have:=Int.natAbs_add_le z u;omega
theorem cj.amZ {D N M:Nat} {x y:Rat} (h:cj D N x) (g:cj D M y):cj D (N+M) (x-y):=by
 obtain⟨z,e,hz⟩:=h
 obtain⟨u,f,hu⟩:=g
 refine⟨z-u,?_,?_⟩
 ·rw [Rat.intCast_sub,<-e,<-f];grind
 ·have:=Int.natAbs_sub_le z u;omega
theorem axt {D N:Nat} {w:Rat} (h:cj D N w) (h0:0<w) (hD:0<D):∃ M:Nat,0<M/\M<=N/\w*((D:Int):Rat)=((M:Int):Rat):=by
 obtain⟨z,e,g⟩:=h
 have hz:0<z:=Rat.intCast_pos.1 (by rw [<-e];exact Rat.mul_pos h0 (ab9 hD))
 exact⟨z.toNat,J,J,by rw [e,Int.toNat_of_nonneg J]⟩
theorem agr {D N M:Nat} {n w:Rat} (h:cj D N n) (hM:w*((D:Int):Rat)=((M:Int):Rat)) (hw:w≠0):cj M N (1/w*n):=by
 obtain⟨z,e,g⟩:=h
 refine⟨z,?_,g⟩
 rw [<-hM,<-e]
 have:1/w*w=1:=Rat.div_mul_cancel hw
 have e2:1/w*n*(w*((D:Int):Rat))=(1/w*w)*(n*((D:Int):Rat)):=by grind
 rw [e2,this,Rat.one_mul]
theorem ajg {M Z:Nat} {x p q:Rat} (hM:0<M) (hx:cj M Z x) (hp:cj M Z p) (hq:cj M Z q) (h1:p<=x) (h2:x<=q) (hpq:p<q):∃ E,0<E/\E<=2*Z/\uQ E ((x-p)/(q-p)):=by
 obtain⟨X,ex,_⟩:=hx
 obtain⟨P,ep,gp⟩:=hp
 obtain⟨Q,eq_,gq⟩:=hq
 have bE:0<Q-P:=by
  have e:((Q-P:Int):Rat)=(q-p)*((M:Int):Rat):=by rw [Rat.intCast_sub,<-ep,<-eq_];grind
  exact Rat.intCast_pos.1 (by rw [e];exact Rat.mul_pos cA (ab9 hM))
 exact⟨(Q-P).toNat,J,J,azl hM ex ep eq_ h1 h2 hpq⟩
theorem asp {po:List aF} {d D N E:Nat} (h:jI po D N) (hl:po.length=d+1) {x:Rat} (hx:uQ E x) (hE:0<E) (h0:0<=x) (h1:x<=1):∃ M,0<M/\M<=N*E ^ d/\∀ k,k<3->cj M (N*E ^ d) ((mW po x).at k):=by
 have l1:(aX po).length=d+1:=by rw [mD,hl]
 have l2:∀ k,(bj po k).length=d+1:=fun k=>by rw [n9,hl]
 have ew:cN (aX po) x=fE (1-x) x d (fun i=>(aX po).getD i 0):=by rw [sN J,l1,Nat.add_sub_cancel]
 have en:∀ k,cN (bj po k) x=fE (1-x) x d (fun i=>(bj po k).getD i 0):=fun k=>by rw [sN (by rw [l2];omega),l2,Nat.add_sub_cancel]
 have cw:cj (D*E ^ d) (N*E ^ d) (cN (aX po) x):=by rw [ew];exact ac3 hx d _ fun i hi=>h.w _ (dg J)
 have cn:∀ k,cj (D*E ^ d) (N*E ^ d) (cN (bj po k) x):=fun k=>by rw [en];exact ac3 hx d _ fun i hi=>h.n k _ (dg (by rw [l2];omega))
 have hp:0<cN (aX po) x:=by
  rw [ew]
  refine aaK cA h0 cA d _ fun i hi=>?_
  rw [abm J]
  exact h.p _ (qI J)
 obtain⟨M,m0,m1,m2⟩:=axt cw hp (Nat.mul_pos h.D0 (Nat.pow_pos hE))
 refine⟨M,m0,m1,fun k hk=>?_⟩
 match k,hk with
 | 0,_=>exact agr (cn 0) m2 cA
 | 1,_=>exact agr (cn 1) m2 cA
 | 2,_=>exact agr (cn 2) m2 cA
structure n7 (d:Nat) (k:List Rat) (po:List aF) (a b:Rat):Prop where
 d1:1<=d
 d3:d<=3
 ab:a<b
 ca:cj 2 20 a
 cb:cj 2 20 b
 kn:k=bl d a b/\po.length=d+1\/∃ t,a<t/\t<b/\cj 2 20 t/\k=bO d a t b/\po.length=d+2
theorem qN {x:Rat} (h:cj 2 20 x):rl x<=1:=h.rl ai ai ai ai
def lP (d:Nat) (k:List Rat) (po:List aF):List gJ :=
 if po.length=d+1 then [⟨d,k.getD 0 0,k.getD (d+1) 0,po⟩]
 else [⟨d,k.getD 0 0,k.getD (d+1) 0,(ks d (k.getD 0 0) (k.getD (d+1) 0) (k.getD (d+2) 0) (po.map cS)).map dX⟩,⟨d,k.getD (d+1) 0,k.getD (d+2) 0,(jY d (k.getD 0 0) (k.getD (d+1) 0) (k.getD (d+2) 0) (po.map cS)).map dX⟩]
theorem abH {d:Nat} {a b:Rat} {po:List aF} (h:po.length=d+1):lP d (bl d a b) po=[⟨d,a,b,po⟩]:=by
 unfold lP
 rw [if_pos h,fR _ _ _ _ J,fR _ _ _ _ J,if_pos J,if_neg J]
theorem ahR {d:Nat} {a t b:Rat} {po:List aF} (h:po.length=d+2):lP d (bO d a t b) po=[⟨d,a,t,(ks d a t b (po.map cS)).map dX⟩,⟨d,t,b,(jY d a t b (po.map cS)).map dX⟩]:=by
 unfold lP
 have e0:(bO d a t b).getD 0 0=a:=by rw [dT _ _ _ _ _ J,if_pos J]
 have e1:(bO d a t b).getD (d+1) 0=t:=by rw [dT _ _ _ _ _ J,if_neg J,if_pos J]
 have e2:(bO d a t b).getD (d+2) 0=b:=by rw [dT _ _ _ _ _ J,if_neg J,if_neg J]
 rw [if_neg J,e0,e1,e2]
structure pcC (d D N:Nat) (q:gJ):Prop where
 dd:q.d=d
 c:jI q.po D N
 l:q.po.length=d+1
 ab:q.a<q.b
 ca:cj 2 20 q.a
 cb:cj 2 20 q.b
theorem agZ {E F d:Nat} (h:E<=F) (hF:0<F) (hd:d<=3):E ^ d<=F ^ 3:=Nat.le_trans (Nat.pow_le_pow_left h d) (Nat.pow_le_pow_right hF hd)
theorem n7.pcs {d:Nat} {k:List Rat} {po:List aF} {a b:Rat} {D N:Nat} (h:n7 d k po a b) (c:jI po D N):∃ E,0<E/\E<=40/\∀ q∈lP d k po,pcC d (D*E ^ d) (N*E ^ d) q:=by
 rcases h.kn with⟨rfl,hl⟩ | ⟨t,h1,h2,ht,rfl,hl⟩
 ·refine⟨1,by decide,by decide,fun q hq=>?_⟩
  rw [abH hl] at hq
  rw [List.mem_singleton.1 hq,Nat.one_pow,Nat.mul_one,Nat.mul_one]
  exact⟨rfl,c,hl,h.ab,h.ca,h.cb⟩
 ·obtain⟨E,e0,e1,e2⟩:=ajg ai ht h.ca h.cb (Rat.le_of_lt h1) (Rat.le_of_lt h2) h.ab
  refine⟨E,e0,e1,fun q hq=>?_⟩
  rw [ahR hl] at hq
  simp only [List.mem_cons,List.not_mem_nil,or_false] at hq
  rcases hq with rfl | rfl
  ·exact⟨rfl,alv h1 h2 hl c e0 e2,by simp [ks],h1,h.ca,ht⟩
  ·exact⟨rfl,alL h1 h2 hl c e0 e2,by simp [jY],h2,ht,h.cb⟩
def za (T:V3) (q:aF):aF:=⟨pP q.p T,q.w⟩
theorem ath {po:List aF} {D N M Z:Nat} {T:V3} (h:jI po D N) (hM:0<M) (hT:∀ k,k<3->cj M Z (T.at k)):jI (po.map (za T)) (D*M) (N*M+N*Z):=by
 have at_:∀ (p q:V3) (k:Nat),(pP p q).at k=p.at k+q.at k:=fun p q k=>by
  match k with
  | 0=>rfl
  | 1=>rfl
  | k+2=>rfl
 have hT':∀ k,cj M Z (T.at k):=fun k=>by
  match k with
  | 0=>exact hT 0 ai
  | 1=>exact hT 1 ai
  | k+2=>exact hT 2 ai
 refine⟨Nat.mul_pos h.D0 hM,fun k x hx=>?_,fun x hx=>?_,fun q hq=>?_⟩
 ·obtain⟨q,hq,rfl⟩:=List.mem_map.1 hx
  obtain⟨y,hy,rfl⟩:=List.mem_map.1 hq
  show cj _ _ (y.w*(pP y.p T).at k)
  rw [at_,Rat.mul_add]
  exact(h.n k _ (List.mem_map.2 ⟨y,hy,rfl⟩)).scale.aeA ((h.w _ (List.mem_map.2 ⟨y,hy,rfl⟩)).agL (hT' k))
 ·obtain⟨q,hq,rfl⟩:=List.mem_map.1 hx
  obtain⟨y,hy,rfl⟩:=List.mem_map.1 hq
  exact(h.w _ (List.mem_map.2 ⟨y,hy,rfl⟩)).scale.mono (Nat.le_add_right _ _)
 ·obtain⟨y,hy,rfl⟩:=List.mem_map.1 hq
  exact h.p y hy
def xN (l:List Int) (k m:Nat):Nat:=vw l (bD l k) m
def xK (l:List Int) (k n m:Nat):List Rat:=knX l (cD l k n) (bD l k) m
def xJ (l:List Int) (k n m:Nat):Nat:=(wx l (cD l k n) (bD l k) m).2.2
def xE (l:List Int) (k n m:Nat):Nat:=dqK l (xJ l k n m) (cD l k n+1+xN l k m)
theorem aoW (l:List Int) (k:Nat) {n m:Nat} (hl:l.length<=500) (hk:k<=500) (hn:0<n) (hn6:n<=6) (hm:m<=2):yi (xK l k n m) (cD l k n)/\(xK l k n m).length=2*(cD l k n+1)+xN l k m/\xJ l k n m<=500/\∀ x∈xK l k n m,rl x<=64:=by
 obtain⟨kh,ug,zg⟩:=aiu l k hn
 obtain⟨hN1,hN2⟩:=aeH l (bD l k) m
 obtain⟨hT,hT1⟩:=amW l (bD l k)
 have g8:rl 1=1:=rfl
 obtain⟨dM,t,j',e,hil,sv,hrt,bE⟩:=axg l (d:=cD l k n) (n:=vw l (bD l k) m) (T:=kH l (bD l k)) kh J hT (bD l (bD l (bD l k)))
 have ht1:=jq t 1
 have eK:xK l k n m=kx (cD l k n) (kH l (bD l k)) dM (t+1):=by
  unfold xK knX wx kx
  rw [e,List.append_assoc]
 have eP:yi (xK l k n m) (cD l k n):=by rw [eK];exact alm kh J J J bE sv
 refine⟨eP,?_,?_,eP.sz⟩
 ·rw [eK,aic,hil];rfl
 ·have k1:=l8 (l:=l) hl hk
  have k2:=l8 (l:=l) hl k1
  have k3:=l8 (l:=l) hl k2
  have gen:∀ (c:Nat) (K:List Rat) (t:Rat) (j:Nat),j<=500->(mT l (cD l k n) c K t j).2.2<=500:=by
   intro c
   induction c with
   | zero=>intro K t j hj;exact hj
   | succ c ih =>
    intro K t j hj
    rw [mT]
    split
    ·exact ih _ _ _ (l8 hl (l8 hl (adl hl hj)))
    ·exact ih _ _ _ (adl hl hj)
  exact gen _ _ _ _ k3
def dpF (l:List Int) (k:Nat):aF:=⟨⟨(th l k).x,(th l k).y,0⟩,dwV l (rF l k)⟩
def wH (l:List Int):Nat->Nat->List aF
 | _,0=>[]
 | k,c+1=>dpF l k :: wH l (dpK l k) c
theorem apB (l:List Int):∀ k c,(wH l k c).length=c
 | _,0=>rfl
 | k,c+1=>by simp [wH,apB l]
def xF (l:List Int) (k n m:Nat):List aF:=wH l (xJ l k n m) (cD l k n+1+xN l k m)
theorem aq4 (l:List Int) (k n m:Nat):(xF l k n m).length=cD l k n+1+xN l k m:=apB _ _ _
def y8 (q:aF):Prop:=(∀ j,cj 12 72 (q.p.at j))/\cj 1 3 q.w/\0<q.w/\q.p.z=0
theorem anB (l:List Int) (k:Nat):cj 12 72 (mL l k).1:=by
 have h1:=nc (l:=l) (k:=k) (n:=13) ai
 have h2:=nc (l:=l) (k:=bD l (bD l k)) (n:=4) ai
 unfold mL;split
 ·show cj 12 72 (((dQ l k 13-6:Int):Rat)/((1+dQ l (bD l (bD l k)) 4:Int):Rat))
  generalize dQ l k 13=u at *
  generalize dQ l (bD l (bD l k)) 4=v at *
  have hv:v=0\/v=1\/v=2\/v=3:=by omega
  rcases hv with rfl | rfl | rfl | rfl
  ·refine⟨(u-6)*12,?_,J⟩
   rw [Rat.intCast_mul,show ((1+0:Int):Rat)=1 by decide +kernel,show (((12:Nat):Int):Rat)=12 by decide +kernel,show ((12:Int):Rat)=12 by decide +kernel]
   generalize ((u-6:Int):Rat)=x
   grind
  ·refine⟨(u-6)*6,?_,J⟩
   rw [Rat.intCast_mul,show ((1+1:Int):Rat)=2 by decide +kernel,show (((12:Nat):Int):Rat)=12 by decide +kernel,show ((6:Int):Rat)=6 by decide +kernel]
   generalize ((u-6:Int):Rat)=x
   grind
  ·refine⟨(u-6)*4,?_,J⟩
   rw [Rat.intCast_mul,show ((1+2:Int):Rat)=3 by decide +kernel,show (((12:Nat):Int):Rat)=12 by decide +kernel,show ((4:Int):Rat)=4 by decide +kernel]
   generalize ((u-6:Int):Rat)=x
   grind
  ·refine⟨(u-6)*3,?_,J⟩
   rw [Rat.intCast_mul,show ((1+3:Int):Rat)=4 by decide +kernel,show (((12:Nat):Int):Rat)=12 by decide +kernel,show ((3:Int):Rat)=3 by decide +kernel]
   generalize ((u-6:Int):Rat)=x
   grind
 ·exact((zr (N:=6) (show (dQ l k 13-6).natAbs<=6 by omega)).scale (E:=12)).mono ai
theorem asL (l:List Int) (k:Nat):cj 1 3 (dwV l k):=by
 have:=aiA l k
 exact zr J
theorem ahO (D N:Nat):cj D N 0:=⟨0,by rw [Rat.zero_mul];rfl,Nat.zero_le _⟩
theorem ahU (l:List Int):∀ k c,∀ q∈wH l k c,y8 q
 | _,0,q,h=>by simp [wH] at h
 | k,c+1,q,h=>by
  simp only [wH,List.mem_cons] at h
  rcases h with rfl | h
  ·refine⟨fun j=>?_,asL _ _,as1 _ _,rfl⟩
   match j with
   | 0=>exact anB _ _
   | 1=>exact anB _ _
   | j+2=>exact ahO _ _
  ·exact ahU l _ c q h
theorem aay {po:List aF} (h:∀ q∈po,y8 q):jI po 12 216:=by
 refine⟨by decide,fun k x hx=>?_,fun x hx=>?_,fun q hq=>(h q hq).2.2.1⟩
 ·obtain⟨q,hq,rfl⟩:=List.mem_map.1 hx
  exact(h q hq).2.1.agL ((h q hq).1 k)
 ·obtain⟨q,hq,rfl⟩:=List.mem_map.1 hx
  exact((h q hq).2.1.scale (E:=12)).mono ai
theorem awR (l:List Int) (k:Nat):cj 2 4 (kH l k):=by
 have h:=nc (l:=l) (k:=k) (n:=4) ai
 exact(zr (N:=2) (show (dQ l k 4-2).natAbs<=2 by omega)).scale (E:=2)
theorem at1 (l:List Int) (j:Nat):cj 2 6 (jn l j):=by
 have h1:=nc (l:=l) (k:=j) (n:=3) ai
 have h2:=nc (l:=l) (k:=bD l j) (n:=2) ai
 unfold jn
 generalize dQ l j 3=u at *
 generalize dQ l (bD l j) 2=v at *
 have hv:v=0\/v=1:=by omega
 rcases hv with rfl | rfl
 ·refine⟨(1+u)*2,?_,J⟩
  rw [Rat.intCast_mul,show ((1+0:Int):Rat)=1 by decide +kernel,show (((2:Nat):Int):Rat)=2 by decide +kernel,show ((2:Int):Rat)=2 by decide +kernel]
  generalize ((1+u:Int):Rat)=x
  grind
 ·refine⟨1+u,?_,J⟩
  rw [show ((1+1:Int):Rat)=2 by decide +kernel,show (((2:Nat):Int):Rat)=2 by decide +kernel]
  generalize ((1+u:Int):Rat)=x
  grind
theorem aoc:cj 2 2 1:=(zr (z:=1) (N:=1) ai).scale (E:=2)
def xA (l:List Int) (k:Nat):Rat:=kH l (bD l k)
def xB (l:List Int) (k n:Nat):Rat:=(wx l (cD l k n) (bD l k) 1).2.1+1
theorem ao5 (l:List Int) (k n:Nat) (hn:0<n) (h3:n<=3) (po:List aF) (hl:po.length=cD l k n+1+xN l k 1):n7 (cD l k n) (xK l k n 1) po (xA l k) (xB l k n):=by
 obtain⟨d1,d2,_⟩:=aiu l k hn
 have hN:=(aeH l (bD l k) 1).2
 have ca:=awR l (bD l k)
 have lS:∀ x:Rat,cj 2 10 x->cj 2 20 (x+1):=fun x h=>(h.aeA aoc).mono ai
 unfold xK xB xA knX wx
 unfold xN at hl
 rcases(show vw l (bD l k) 1=0\/vw l (bD l k) 1=1 by omega) with e | e
 ·rw [e] at hl ⊢
  rw [mT]
  exact⟨d1,J,by grind,ca.mono ai,lS _ (ca.mono ai),.inl ⟨rfl,J⟩⟩
 ·rw [e] at hl ⊢
  have hb:pz l (cD l k n) (List.replicate (cD l k n+1) (kH l (bD l k))) (kH l (bD l k)) (bD l (bD l (bD l k))):=.inl aO
  rw [mT,if_pos hb,mT]
  have hF:=(aa0 l (dI l (cD l k n) (List.replicate (cD l k n+1) (kH l (bD l k))) (bD l (bD l (bD l k))))).1
  have hc:=at1 l (dI l (cD l k n) (List.replicate (cD l k n+1) (kH l (bD l k))) (bD l (bD l (bD l k))))
  generalize jn l _=f at *
  have ct:cj 2 10 (kH l (bD l k)+f):=ca.aeA hc
  refine⟨d1,J,by grind,ca.mono ai,lS _ ct,.inr ⟨kH l (bD l k)+f,by grind,by grind,ct.mono ai,?_,J⟩⟩
  unfold bO kq
  simp
open agP in
theorem aby (l:List Int) (k:Nat) (hl:l.length<=500) (hk:k<=500):lE Tryz.prog 77 ⟨2,[ik l k],true⟩ [.az 0 2 0 0,bL true] (aT (dpF l k)) ⟨2,[ik l (dpK l k)],true⟩:=by
 have k1:=aqQ (l:=l) hl hk
 have hb:=nc (l:=l) (k:=rF l k) (n:=3) ai
 have hd:=aiA l (rF l k)
 refine tD Tryz.func77 ?_
 refine bf ?_
 refine kj 0 rfl rfl rfl (cW l _) (.cons .ptr .nil) .ptr (awr l k J J) rfl (cW l _) (bg.pure _) ?_
 refine bC ?_
 refine aC rfl ?_ ?_<;>intro ni h8
 ·refine ar ?_
  refine ak rfl ob ?_
  refine a6 ?_
  refine aan ?_
  refine iX 0 1 _ _ an rfl rfl ?_ ?_
  ·refine ar ?_
   refine aE ?_
   refine aV 1 _ an rfl ?_
   refine ar ?_
   refine aE ?_
   refine aV 2 _ an rfl ?_
   refine kj 0 rfl rfl rfl (cW l _) (.cons .ptr (.cons (.cf (.pure rfl)) .nil)) .ptr (oS l (rF l k) 3 J J J J) rfl (cW l _) rfl ?_
   refine aE ?_
   refine gu 3 rfl rfl an (.pure (.bin rfl rfl (af1 ai))) jy gg ?_
   refine gu 4 rfl rfl an (.pure (.bin rfl rfl (o6 J J))) jy gg ?_
   refine aV 5 _ an rfl ?_
   refine cp aK (oJ (1+(dQ l (rF l k) 3).tmod 3) J J) ?_
   refine aE ?_
   refine aV 6 _ an rfl ?_
   refine pY (zc (p:=⟨(th l k).x,(th l k).y,0⟩) rfl rfl) ?_
   refine aE ?_
   refine aV 7 _ an rfl ?_
   refine ar ?_
   refine aE ?_
   refine eO an ?_
   refine aL ?_
   exact aga
  ·refine ar ?_
   refine aE ?_
   refine iX 0 2 _ _ an rfl rfl ?_ ?_
   ·refine ar ?_
    refine aE ?_
    refine aV 2 _ an rfl ?_
    refine kj 0 rfl rfl rfl (cW l _) (.cons .ptr (.cons (.cf (.pure rfl)) .nil)) .ptr (oS l (rF l k) 3 J J J J) rfl (cW l _) rfl ?_
    refine aE ?_
    refine gu 3 rfl rfl an (.pure (.bin rfl rfl (af1 ai))) jy gg ?_
    refine gu 4 rfl rfl an (.pure (.bin rfl rfl (o6 J J))) jy gg ?_
    refine aV 5 _ an rfl ?_
    refine cp aK (oJ (1+(dQ l (rF l k) 3).tmod 3) J J) ?_
    refine aE ?_
    refine aV 6 _ an rfl ?_
    refine pY (zc (p:=⟨(th l k).x,(th l k).y,0⟩) rfl rfl) ?_
    refine aE ?_
    refine aV 7 _ an rfl ?_
    refine ar ?_
    refine aE ?_
    refine eO an ?_
    refine aL ?_
    exact aga
   ·refine kj 0 rfl rfl rfl (cW l _) (.cons .ptr (.cons (.cf (.pure rfl)) .nil)) .ptr (oS l (rF l k) 3 J J J J) rfl (cW l _) rfl ?_
    refine aE ?_
    refine gu 3 rfl rfl an (.pure (.bin rfl rfl (af1 ai))) jy gg ?_
    refine gu 4 rfl rfl an (.pure (.bin rfl rfl (o6 J J))) jy gg ?_
    refine iX 0 5 _ _ an rfl rfl ?_ ?_
    ·refine ar ?_
     refine aE ?_
     refine aV 5 _ an rfl ?_
     refine cp aK (oJ (1+(dQ l (rF l k) 3).tmod 3) J J) ?_
     refine aE ?_
     refine aV 6 _ an rfl ?_
     refine pY (zc (p:=⟨(th l k).x,(th l k).y,0⟩) rfl rfl) ?_
     refine aE ?_
     refine aV 7 _ an rfl ?_
     refine ar ?_
     refine aE ?_
     refine eO an ?_
     refine aL ?_
     exact aga
    ·refine cp aK (oJ (1+(dQ l (rF l k) 3).tmod 3) J J) ?_
     refine aE ?_
     refine aV 0 _ an rfl ?_
     refine ar ?_
     refine aE ?_
     refine aV 6 _ an rfl ?_
     refine pY (zc (p:=⟨(th l k).x,(th l k).y,0⟩) rfl rfl) ?_
     refine aE ?_
     refine aV 7 _ an rfl ?_
     refine ar ?_
     refine aE ?_
     refine eO an ?_
     refine aL ?_
     exact aga
 ·first | exact absurd ni ai | cases ni | exact absurd rfl h8
namespace apj
theorem aH {p q:Prop} (k:q) (e:p=q:=by simp only [e1,e2,e3,e4,p1,p2,p3,q1,q2,q3,l1,t0,t1,r1,r2,r3,r4,Nat.zero_add,Nat.reduceMul,Nat.reduceAdd,b1,b2,b3,b4,b5,b6,i1,i2,i3,i4,i5,i6,Nat.reduceBEq,l1,abG,fU,List.length_map,k5,kI,iz,List.length_cons,List.length_nil,List.length_map,List.set_cons_zero,List.set_cons_succ,Nat.reduceEqDiff,reduceIte,if_true,if_false,dW,ec,aP bw,aP ao,cH,dO,LV.kill,bN,acH];exact rfl):p:=e.mpr k
end apj
open apj in
theorem amk (l:List Int) (k:Nat) (hl:l.length<=500) (n:Nat) (hn:0<n) (hn6:n<=6) (m:Nat) (hm:m<=2) (hk:k<=500):lE Tryz.prog 32 ⟨2,[ik l k],true⟩ [.az 0 2 0 0,ah n,ah m,bL true] (.agg [ah (cD l k n),.list 3 ((xK l k n m).map ae),.list 12 ((xF l k n m).map aT)]) ⟨2,[ik l (xE l k n m)],true⟩:=by
 have k1:=l8 (l:=l) hl hk
 have k2:=l8 (l:=l) hl k1
 obtain⟨kh,ug,zg⟩:=aiu l k hn
 have hb:=nc (l:=l) (k:=k) (n:=(n:Int)) J
 have gD:1+dQ l k (n:Int)=(((cD l k n):Nat):Int):=zg.symm
 have hA:dp .add .i64 1 (dQ l k (n:Int))=some (.int .i64 (((cD l k n):Nat):Int)):=by rw [<-gD];exact o6 J J
 obtain⟨eP,fU,k3,aDn⟩:=aoW l k (n:=n) (m:=m) hl hk hn hn6 hm
 obtain⟨hN1,hN2⟩:=aeH l (bD l k) m
 have hxN:xN l k m<=2:=by unfold xN;omega
 have hkp:=et ao 3 (xK l k n m)
 refine tD Tryz.func32 ?_
 refine bq ?_
 refine kj 0 rfl rfl rfl (cW l _) (.cons .ptr (.cons (.cf (.pure rfl)) .nil)) .ptr (oS l k n J J J J) rfl (cW l _) rfl ?_
 refine ak rfl (.bin rfl rfl (hA)) ?_
 refine bp ?_
 refine kj 0 rfl rfl rfl (cW l _) (.cons .ptr (.cons (.cf (.pure rfl)) (.cons (.cf (.pure rfl)) .nil))) .ptr (asa l (bD l k) J (cD l k n) J J m hm J) rfl (cW l _) hkp ?_
 refine bp ?_
 refine jo ((aw.cell 9 rfl (fun Z μ w cs h=>abS 39 12 _ _ Z μ w cs h)).trans (aw.tH _ 39 12 rfl)) ?_
 refine rH (fun(c j:Nat) (o:List aF) L=>((((((St.mk L.slot (hp [(0,⟨2,[ik l j],true⟩),(8,⟨3,[.agg [.v (.int .i64 0),.v (.slice none 0 0),.v (.slice none 0 0)]],true⟩),(9,⟨3,[.agg [ah (cD l k n),.list 3 ((xK l k n m).map ae),.ref 39 12 0 o.length]],true⟩),(39,⟨12,o.map aT,true⟩)])).put (some 0) (.az 0 2 0 0)).put (some 3) (bL true)).put (some 8) (.az 8 3 0 0)).put (some 9) (.az 9 3 0 0)).put (some 10) (ah o.length))) (fun c j o=>j<=500/\o.length+c=(cD l k n)+1+xN l k m/\o++wH l j c=xF l k n m/\dqK l j c=xE l k n m) (fun c j o=>c) ((cD l k n)+1+xN l k m) (xJ l k n m) ([]) ⟨k3,by simp,rfl,rfl⟩ ?_
 rintro c j o L1 ⟨hj,ho,hV,hK⟩
 refine bq ?_
 refine ak rfl tE ?_
 refine ak rfl tE ?_
 refine aJ ?_
 refine aC rfl ?_ ?_<;>intro aaC yx
 ·obtain⟨e,rfl⟩:∃ e,c=e+1:=⟨c-1,J⟩
  refine ax ?_
  refine fT (fun L=>∃  (L1:St),(True)/\L=((((((St.mk L1.slot (hp [(0,⟨2,[ik l (dpK l j)],true⟩),(8,⟨3,[.agg [.v (.int .i64 0),.v (.slice none 0 0),.v (.slice none 0 0)]],true⟩),(9,⟨3,[.agg [ah (cD l k n),.list 3 ((xK l k n m).map ae),.ref 39 12 0 (o.length+1)]],true⟩),(38,⟨12,[dpF l j].map aT,true⟩),(39,⟨12,(o++[dpF l j]).map aT,true⟩)])).put (some 0) (.az 0 2 0 0)).put (some 3) (bL true)).put (some 8) (.az 8 3 0 0)).put (some 9) (.az 9 3 0 0)).put (some 10) (ah o.length))) ?_ ?_
  ·refine aan ?_
   refine gu 3 rfl rfl an (.pure (.move _)) jy gg ?_
   refine iX 0 2 _ _ an rfl rfl ?_ ?_
   ·refine ar ?_
    refine aE ?_
    refine iX 1 2 _ _ an rfl rfl ?_ ?_
    ·refine ar ?_
     refine aE ?_
     refine aV 2 _ an rfl ?_
     refine ar ?_
     refine aE ?_
     refine aV 4 _ an rfl ?_
     refine kj 0 rfl rfl rfl (cW l _) (.cons .ptr (.cons (.cf (.pure rfl)) .nil)) .ptr (aby l j J J) rfl (cW l _) (bw.pure _) ?_
     refine aE ?_
     refine aV 5 _ an rfl ?_
     refine ar ?_
     refine aE ?_
     refine aV 6 _ an rfl ?_
     refine bI rfl uv ?_
     refine aE ?_
     refine aV 7 _ an rfl ?_
     refine ar ?_
     refine aE ?_
     refine aV 8 _ an rfl ?_
     refine ar ?_
     refine aE ?_
     refine eO an ?_
     refine ar ?_
     exact qH
    ·refine ar ?_
     refine aE ?_
     refine iX 1 4 _ _ an rfl rfl ?_ ?_
     ·refine ar ?_
      refine aE ?_
      refine aV 4 _ an rfl ?_
      refine kj 0 rfl rfl rfl (cW l _) (.cons .ptr (.cons (.cf (.pure rfl)) .nil)) .ptr (aby l j J J) rfl (cW l _) (bw.pure _) ?_
      refine aE ?_
      refine aV 5 _ an rfl ?_
      refine ar ?_
      refine aE ?_
      refine aV 6 _ an rfl ?_
      refine bI rfl uv ?_
      refine aE ?_
      refine aV 7 _ an rfl ?_
      refine ar ?_
      refine aE ?_
      refine aV 8 _ an rfl ?_
      refine ar ?_
      refine aE ?_
      refine eO an ?_
      refine ar ?_
      exact qH
     ·refine kj 0 rfl rfl rfl (cW l _) (.cons .ptr (.cons (.cf (.pure rfl)) .nil)) .ptr (aby l j J J) rfl (cW l _) (bw.pure _) ?_
      refine aE ?_
      refine iX 1 5 _ _ an rfl rfl ?_ ?_
      ·refine ar ?_
       refine aE ?_
       refine aV 5 _ an rfl ?_
       refine ar ?_
       refine aE ?_
       refine aV 6 _ an rfl ?_
       refine bI rfl uv ?_
       refine aE ?_
       refine aV 7 _ an rfl ?_
       refine ar ?_
       refine aE ?_
       refine aV 8 _ an rfl ?_
       refine ar ?_
       refine aE ?_
       refine eO an ?_
       refine ar ?_
       exact qH
      ·refine ar ?_
       refine aE ?_
       refine aV 1 _ an rfl ?_
       refine ar ?_
       refine aE ?_
       refine aV 6 _ an rfl ?_
       refine bI rfl uv ?_
       refine aE ?_
       refine aV 7 _ an rfl ?_
       refine ar ?_
       refine aE ?_
       refine aV 8 _ an rfl ?_
       refine ar ?_
       refine aE ?_
       refine eO an ?_
       refine ar ?_
       exact qH
   ·refine ar ?_
    refine aE ?_
    refine iX 0 4 _ _ an rfl rfl ?_ ?_
    ·refine ar ?_
     refine aE ?_
     refine iX 1 4 _ _ an rfl rfl ?_ ?_
     ·refine ar ?_
      refine aE ?_
      refine aV 4 _ an rfl ?_
      refine kj 0 rfl rfl rfl (cW l _) (.cons .ptr (.cons (.cf (.pure rfl)) .nil)) .ptr (aby l j J J) rfl (cW l _) (bw.pure _) ?_
      refine aE ?_
      refine aV 5 _ an rfl ?_
      refine ar ?_
      refine aE ?_
      refine aV 6 _ an rfl ?_
      refine bI rfl uv ?_
      refine aE ?_
      refine aV 7 _ an rfl ?_
      refine ar ?_
      refine aE ?_
      refine aV 8 _ an rfl ?_
      refine ar ?_
      refine aE ?_
      refine eO an ?_
      refine ar ?_
      exact qH
     ·refine kj 0 rfl rfl rfl (cW l _) (.cons .ptr (.cons (.cf (.pure rfl)) .nil)) .ptr (aby l j J J) rfl (cW l _) (bw.pure _) ?_
      refine aE ?_
      refine iX 1 5 _ _ an rfl rfl ?_ ?_
      ·refine ar ?_
       refine aE ?_
       refine aV 5 _ an rfl ?_
       refine ar ?_
       refine aE ?_
       refine aV 6 _ an rfl ?_
       refine bI rfl uv ?_
       refine aE ?_
       refine aV 7 _ an rfl ?_
       refine ar ?_
       refine aE ?_
       refine aV 8 _ an rfl ?_
       refine ar ?_
       refine aE ?_
       refine eO an ?_
       refine ar ?_
       exact qH
      ·refine ar ?_
       refine aE ?_
       refine aV 1 _ an rfl ?_
       refine ar ?_
       refine aE ?_
       refine aV 6 _ an rfl ?_
       refine bI rfl uv ?_
       refine aE ?_
       refine aV 7 _ an rfl ?_
       refine ar ?_
       refine aE ?_
       refine aV 8 _ an rfl ?_
       refine ar ?_
       refine aE ?_
       refine eO an ?_
       refine ar ?_
       exact qH
    ·refine kj 0 rfl rfl rfl (cW l _) (.cons .ptr (.cons (.cf (.pure rfl)) .nil)) .ptr (aby l j J J) rfl (cW l _) (bw.pure _) ?_
     refine aE ?_
     refine iX 0 5 _ _ an rfl rfl ?_ ?_
     ·refine ar ?_
      refine aE ?_
      refine iX 1 5 _ _ an rfl rfl ?_ ?_
      ·refine ar ?_
       refine aE ?_
       refine aV 5 _ an rfl ?_
       refine ar ?_
       refine aE ?_
       refine aV 6 _ an rfl ?_
       refine bI rfl uv ?_
       refine aE ?_
       refine aV 7 _ an rfl ?_
       refine ar ?_
       refine aE ?_
       refine aV 8 _ an rfl ?_
       refine ar ?_
       refine aE ?_
       refine eO an ?_
       refine ar ?_
       exact qH
      ·refine ar ?_
       refine aE ?_
       refine aV 1 _ an rfl ?_
       refine ar ?_
       refine aE ?_
       refine aV 6 _ an rfl ?_
       refine bI rfl uv ?_
       refine aE ?_
       refine aV 7 _ an rfl ?_
       refine ar ?_
       refine aE ?_
       refine aV 8 _ an rfl ?_
       refine ar ?_
       refine aE ?_
       refine eO an ?_
       refine ar ?_
       exact qH
     ·refine ar ?_
      refine aE ?_
      refine aV 0 _ an rfl ?_
      refine ar ?_
      refine aE ?_
      refine aV 1 _ an rfl ?_
      refine ar ?_
      refine aE ?_
      refine aV 6 _ an rfl ?_
      refine bI rfl uv ?_
      refine aE ?_
      refine aV 7 _ an rfl ?_
      refine ar ?_
      refine aE ?_
      refine aV 8 _ an rfl ?_
      refine ar ?_
      refine aE ?_
      refine eO an ?_
      refine ar ?_
      exact qH
  ·rintro _ ⟨LR6,-,rfl⟩
   refine aL ?_
   refine cq (aw.kill _ 38) ?_
   refine ar ?_
   refine ak rfl cB ?_
   refine aJ ?_
   exact p7 e (dpK l j) (o++[dpF l j]) ⟨aqg hl hj,by simp;omega,by rw [List.append_assoc];exact hV,hK⟩
 ·obtain rfl:c=0:=by omega
  rw [wH,List.append_nil] at hV
  rw [dqK] at hK
  refine bu ?_
  rw [<-hV,<-hK]
  exact axh [39] rfl rfl rfl rfl rfl jH (.agg (.cons (.pure rfl) (.cons (.pure hkp) (.cons (eN bw rfl rfl rfl) .nil)))) rfl rfl (cW l _)
theorem aCx {α β:Type} [Inhabited α] (f:α->β) (l:List α) (d:α) {i:Nat} (h:i<l.length):(l.map f).take i++[f (l.getD i d)]=(l.map f).take (i+1):=by
 rw [List.take_add_one,List.getElem?_map,List.getD_eq_getElem?_getD,List.getElem?_eq_getElem h];rfl
open fP in
theorem aBx (m:M3) (p:V3) (R:Nat) (hR:R<=210000000) (hm:qP R m) (hp:ck R p):av Tryz.prog 234 [dV m,aS p] (aS (zd m p)):=by
 obtain⟨iF,dZ,od,mi⟩:=hm
 refine aN Tryz.func234 (ht:=(fun r=>LV.cP r _ (bg.pure _))) ?_
 refine bf ?_
 refine aY 16 an ?_
 refine aL ?_
 refine ak rfl (.fi rfl rfl rfl rfl (dN.au m) (abM m) ig) ?_
 refine ar ?_
 refine cp aq (ai3 m.a p R J iF hp) ?_
 refine aL ?_
 refine ak rfl (.fi rfl rfl rfl rfl (dN.au m) (acD m) ig) ?_
 refine ar ?_
 refine cp aq (ai3 m.b p R J dZ hp) ?_
 refine aL ?_
 refine ak rfl (.fi rfl rfl rfl rfl (dN.au m) (afW m) ig) ?_
 refine ar ?_
 refine cp aq (ai3 m.c p R J od hp) ?_
 refine a6 ?_
 exact qw
open fP in
theorem auE (m:M3) (p:V3) (R:Nat) (hR:R<=210000000) (hm:qP R m) (hp:ck R p) (hR2:R<=1000000):av Tryz.prog 144 [dV m,aS p] (aS (m3p m p)):=by
 have mi:=hm.2.2.2
 have ht:=aj8 hm hp
 have hmp:LV.pure (dV m)=true:=dN.pure m
 refine aN Tryz.func144 (ht:=(fun r=>LV.cP r _ (bg.pure _))) ?_
 refine bf ?_
 refine aY 6 an ?_
 refine ak rfl afx ?_
 refine ar ?_
 refine cp aq (aBx m p R hR hm hp) ?_
 refine ar ?_
 refine ak rfl (.fi rfl rfl rfl rfl (dN.au m) (akx m) ig) ?_
 refine cp aq (avR (zd m p) m.t (6*R+4) J (ht.le J) (mi.le J)) ?_
 refine ax ?_
 exact qw
namespace apZ
theorem aH {p q:Prop} (k:q) (e:p=q:=by simp only [e1,e2,e3,e4,p1,p2,p3,q1,q2,q3,l1,t0,t1,r1,r2,r3,r4,Nat.zero_add,Nat.reduceMul,Nat.reduceAdd,b1,b2,b3,b4,b5,b6,i1,i2,i3,i4,i5,i6,Nat.reduceBEq,fD,egr,ab7,aP bw,List.length_map,cx,k5,kI,iz,List.length_cons,List.length_nil,List.nil_append,List.map_nil,List.take_nil,List.append_nil,List.set_cons_zero,List.set_cons_succ,Nat.reduceEqDiff,reduceIte,if_true,if_false,dW,ec,aP bg,aP bw,aP ao,cH,dO,LV.kill,bN];exact rfl):p:=e.mpr k
end apZ
open apZ in
theorem aAl (m:M3) (po:List aF) (R:Nat) (hR:R<=1000000) (hm:qP R m) (hl:po.length<=100) (eP:∀ q∈po,ow R q):av Tryz.prog 74 [.list 12 (po.map aT),dV m] (.list 12 ((po.map (qg m)).map aT)):=by
 have hmp:LV.pure (dV m)=true:=dN.pure m
 refine aN Tryz.func74 (ht:=(fun g=>LV.cP g _ (et bw 12 _))) ?_
 have fD:True:=trivial
 have egr:True:=trivial
 refine nn ?_
 refine jo (aw.own (t:=5) 95 12 rfl rfl) ?_
 refine dJ (fun(i:Nat) L=>(((((St.mk L.slot (hp [(3,⟨36,[dV m],true⟩),(95,⟨12,((po.map (qg m)).take i).map aT,true⟩)])).put (some 0) (.list 12 (po.map aT))).put (some 3) (.az 3 36 0 0)).put (some 5) (.ref 95 12 0 i)).put (some 6) (ah i))) (fun i=>i<=po.length) (fun i=>po.length-i) 0 (Nat.zero_le _) ?_
 rintro i L1 hi
 refine bq ?_
 refine aC rfl ?_ ?_<;>intro l9 rR
 ·have dB:i<po.length:=by omega
  have hq:=eP _ (qI dB)
  have fD:(((po.map (qg m)).take i).map aT).take i=((po.map (qg m)).take i).map aT:=List.take_of_length_le bm
  have egr:=aCx (qg m) po default dB
  refine ax ?_
  refine aY 15 an ?_
  refine ar ?_
  refine ak rfl afx ?_
  refine a6 ?_
  refine cp aq (auE m (po.getD i default).p R J hm hq.1 hR) ?_
  refine a6 ?_
  refine pY (zc rfl rfl) ?_
  refine ar ?_
  refine bI rfl (.fX (d:=95) (news:=[aT (qg m (po.getD i default))]) rfl rfl rfl rfl bm (.inl rfl) ai Tryz.underlying26 Tryz.underlying26 Z42 rQ cs B42 (.inl ⟨27,0,_,rfl,by decide,rfl,rfl,by simp,rfl,by simp [aG,bw.pure]⟩) bm bm ai) ?_
  refine ax ?_
  refine cq (aw.kill _ 27) ?_
  refine ar ?_
  refine ak rfl cB ?_
  refine aJ ?_
  exact jX
 ·obtain rfl:i=po.length:=by omega
  rw [(List.take_of_length_le kB:(po.map (qg m)).take po.length=po.map (qg m))]
  refine bu ?_
  exact mz [95] rfl rfl (eN bw rfl rfl aO)
def qh (T:V3):M3:=⟨⟨1,0,0⟩,⟨0,1,0⟩,⟨0,0,1⟩,T⟩
theorem ayU {R:Nat} {T:V3} (h1:1<=R) (h:ck R T):qP R (qh T):=by
 have e0:rl 0=1:=rfl
 have e1:rl 1=1:=rfl
 exact⟨⟨by show rl 1<=_;omega,by show rl 0<=_;omega,by show rl 0<=_;omega⟩,⟨by show rl 0<=_;omega,by show rl 1<=_;omega,by show rl 0<=_;omega⟩,⟨by show rl 0<=_;omega,by show rl 0<=_;omega,by show rl 1<=_;omega⟩,h⟩
open fP in
theorem auJ :av Tryz.prog 73 [iL 2] (aS ⟨0,0,1⟩):=by
 have pg:av Tryz.prog 13 [iL 1] (ae 1):=oJ 1 ai ai
 refine aN Tryz.func73 (ht:=(fun r=>LV.cP r _ (bg.pure _))) ?_
 refine dj ?_
 refine cp aK (pg) ?_
 refine bp ?_
 exact qw
open fP in
theorem aB7 :av Tryz.prog 26 [] (dV (⟨⟨1,0,0⟩,⟨0,1,0⟩,⟨0,0,1⟩,⟨0,0,0⟩⟩:M3)):=by
 refine aN Tryz.func26 (ht:=(fun r=>LV.cP r _ (dN.pure _))) ?_
 refine aR ?_
 refine cp aK (au9) ?_
 refine cp aK (atU) ?_
 refine cp aK (auJ) ?_
 refine ak rfl (agJ rfl rfl rfl) ?_
 refine ak rfl (ahr (a:=⟨1,0,0⟩) (b:=⟨0,1,0⟩) (c:=⟨0,0,1⟩) rfl) ?_
 refine bI rfl (.xZ (e:=dV) (l:=[⟨⟨0,0,0⟩,⟨0,0,0⟩,⟨0,0,0⟩,⟨0,0,0⟩⟩]) (a:=(⟨⟨1,0,0⟩,⟨0,1,0⟩,⟨0,0,1⟩,⟨0,0,0⟩⟩:M3)) rfl rfl rfl aO) ?_
 refine aJ ?_
 exact fS [] rfl rfl rfl (dN.au _) (dG (dN.au _) rfl) uE (.pure (dN.pure _))
open aiF in
theorem axF (p q:V3) (R:Nat) (hR:R<=100000000) (hp:ck R p) (hq:ck R q):av Tryz.prog 34 [aS p,aS q] (dV (qh (fB q p))):=by
 refine aN Tryz.func34 (ht:=(fun r=>LV.cP r _ (dN.pure _))) ?_
 refine bq ?_
 refine cp zX (aB7) ?_
 refine ar ?_
 refine bI rfl (.xZ (e:=dV) (l:=[⟨⟨0,0,0⟩,⟨0,0,0⟩,⟨0,0,0⟩,⟨0,0,0⟩⟩]) (a:=(⟨⟨1,0,0⟩,⟨0,1,0⟩,⟨0,0,1⟩,⟨0,0,0⟩⟩:M3)) rfl rfl rfl aO) ?_
 refine aA ?_
 refine cp aq (axl q p R J hq hp) ?_
 refine ar ?_
 refine bI rfl (.store (y:=dV (⟨⟨1,0,0⟩,⟨0,1,0⟩,⟨0,0,1⟩,⟨0,0,0⟩⟩:M3)) (y':=dV (qh (fB q p))) rfl rfl rfl rfl rfl (dN.au _) (apN (⟨⟨1,0,0⟩,⟨0,1,0⟩,⟨0,0,1⟩,⟨0,0,0⟩⟩:M3) _) (by show bo _ _ (LV.au (aS _)) (LV.isAgg (aS _));rw [bg.au,bg.isAgg];exact ig) ⟨LV.eE (bg.pure _),LV.dY (bg.pure _)⟩) ?_
 refine ax ?_
 refine ak rfl (.fi rfl rfl rfl rfl (dN.au (qh (fB q p))) (dG (dN.au (qh (fB q p))) rfl) uE) ?_
 refine bI rfl (.xZ (e:=dV) (l:=[⟨⟨0,0,0⟩,⟨0,0,0⟩,⟨0,0,0⟩,⟨0,0,0⟩⟩]) (a:=(qh (fB q p))) rfl rfl rfl aO) ?_
 refine aJ ?_
 exact fS [] rfl rfl rfl (dN.au _) (dG (dN.au _) rfl) uE (.pure (dN.pure _))
namespace alX
theorem aH {p q:Prop} (k:q) (e:p=q:=by simp only [e1,e2,e3,e4,p1,p2,p3,q1,q2,q3,l1,t0,t1,r1,r2,r3,r4,Nat.zero_add,Nat.reduceMul,Nat.reduceAdd,b1,b2,b3,b4,b5,b6,i1,i2,i3,i4,i5,i6,Nat.reduceBEq,ab7,aP ao,aP bw,cx,k5,kI,iz,List.length_cons,List.length_nil,List.nil_append,List.map_nil,List.take_nil,List.append_nil,List.set_cons_zero,List.set_cons_succ,Nat.reduceEqDiff,reduceIte,if_true,if_false,dW,ec,aP bg,aP bw,aP ao,cH,dO,LV.kill,bN];exact rfl):p:=e.mpr k
end alX
open alX in
theorem azM (d:Nat) (kV:List Rat) (m:M3) (po:List aF) (R:Nat) (hR:R<=1000000) (hm:qP R m) (hl:po.length<=100) (hkv:kV.length<=100) (eP:∀ q∈po,ow R q):av Tryz.prog 28 [.agg [ah d,.list 3 (kV.map ae),.list 12 (po.map aT)],dV m] (.agg [ah d,.list 3 (kV.map ae),.list 12 ((po.map (qg m)).map aT)]):=by
 have hmp:LV.pure (dV m)=true:=dN.pure m
 have fG:LV.pure (.agg [ah d,.list 3 (kV.map ae),.list 12 (po.map aT)])=true:=by simp [LV.pure,aG,aW ao,aW bw]
 have rY:=aW ao kV
 have xd:=aW bw po
 refine aN Tryz.func28 (ht:=(fun g=>LV.cP g _ aff)) ?_
 refine bf ?_
 refine ahF ((aw.bW (t:=3) (b:=3) rfl rfl (dN.au m) rfl hmp).trans (aw.bW (t:=2) (b:=2) rfl rfl cs rfl fG)) ?_
 refine gu 0 rfl rfl an (.pure l6) jy gg ?_
 refine gu 1 rfl rfl an (.pure ij) jy gg ?_
 refine gu 3 rfl rfl an (.pure l6) jy gg ?_
 refine gu 4 rfl rfl an (.pure (.qB rfl rY rfl rfl)) jy gg ?_
 refine gu 6 rfl rfl an (.pure l6) jy gg ?_
 refine gu 7 rfl rfl an (.pure (.qB rfl xd rfl rfl)) jy gg ?_
 refine gu 8 rfl rfl an (.pure (.qB rfl hmp (dN.au m) rfl)) (fun b=>LV.ki b _ hmp) gg ?_
 refine aV 2 _ an rfl ?_
 refine ar ?_
 refine aE ?_
 refine aV 5 _ an rfl ?_
 refine bI rfl (.fX (d:=7) (news:=kV.map ae) rfl rfl rfl rfl aO (.inl rfl) ai Tryz.underlying25 Tryz.underlying25 ko cK rfl kA (.inr (.inl rfl)) bm bm ai) ?_
 refine aE ?_
 refine aV 9 _ an rfl ?_
 refine aH ?_
 refine gI rfl (.cons (.pure (et bw 12 po)) (.cons (.pure hmp) .nil)) (aAl m po R hR hm hl eP) ?_
 refine aE ?_
 refine aV 10 _ an rfl ?_
 refine ar ?_
 refine aE ?_
 refine aV 11 _ an rfl ?_
 refine ar ?_
 refine aE ?_
 refine eO an ?_
 refine aL ?_
 exact fS [7] rfl rfl rfl cs (dG cs rfl) jH (.agg (.cons (.pure rfl) (.cons (eN ao rfl rfl aO) (.cons (.pure (et bw 12 _)) .nil))))
def iy (d:Nat) (k:List Rat) (s:Rat):Nat:=if k.length=2*d+2 then d else if s<k.getD (d+1) 0 then d else d+1
def iE (d:Nat) (k:List Rat) (po:List aF) (s:Rat):V3:=uH k d (iy d k s) po s
theorem n7.iv {d:Nat} {k:List Rat} {po:List aF} {a b s:Rat} (h:n7 d k po a b) (h1:a<=s) (h2:s<=b) (hr:rl s<=1000):ivK d k (iy d k s) s/\(∀ i j,i<=iy d k s->iy d k s<j->j<=iy d k s+d->k.getD i 0≠k.getD j 0)/\po.length+d+1=k.length:=by
 have hd:=h.d1
 have h3:=h.d3
 have ra:=qN h.ca
 have rb:=qN h.cb
 have cu:=h.ab
 rcases h.kn with⟨rfl,hl⟩ | ⟨t,g1,g2,ht,rfl,hl⟩
 ·have hk:=jV d a b
  have e:iy d (bl d a b) s=d:=by unfold iy;rw [if_pos J]
  rw [e]
  refine⟨⟨J,J,J,fun x hx=>Nat.le_trans (aaG (R:=1) ra rb x hx) ai,hr,by rw [fR _ _ _ _ J,if_pos J];exact h1,by rw [hk,fR _ _ _ _ J,if_neg J];exact h2,Nat.le_refl _,J,by rw [fR _ _ _ _ J,if_pos J];exact h1,fun i j1 j2=>by omega⟩,fun i j j1 j2 j3=>?_,J⟩
  rw [fR _ _ _ _ J,fR _ _ _ _ J,if_pos J,if_neg J];grind
 ·have hk:=nL d a t b
  have rt:=qN ht
  have jd:∀ x∈bO d a t b,rl x<=100:=fun x hx=>Nat.le_trans (aa7 J J J x hx) ai
  have e1:(bO d a t b).getD 0 0=a:=by rw [dT _ _ _ _ _ J,if_pos J]
  have e2:(bO d a t b).getD (d+1) 0=t:=by rw [dT _ _ _ _ _ J,if_neg J,if_pos J]
  have e3:(bO d a t b).getD ((bO d a t b).length-1) 0=b:=by rw [hk,dT _ _ _ _ _ J,if_neg J,if_neg J]
  have e4:(bO d a t b).getD d 0=a:=by rw [dT _ _ _ _ _ J,if_pos J]
  unfold iy
  rw [if_neg J,e2]
  by_cases c:s<t
  ·rw [if_pos c]
   refine⟨⟨J,J,J,jd,hr,by rw [e1];exact h1,by rw [e3];exact h2,Nat.le_refl _,J,by rw [e4];exact h1,fun i j1 j2=>by rw [show i=d+1 by omega,e2];exact c⟩,fun i j j1 j2 j3=>?_,J⟩
   rw [dT _ _ _ _ _ J,dT _ _ _ _ _ J,if_pos J,if_neg J]
   split<;>grind
  ·rw [if_neg c]
   refine⟨⟨J,J,J,jd,hr,by rw [e1];exact h1,by rw [e3];exact h2,J,J,by rw [e2];grind,fun i j1 j2=>by omega⟩,fun i j j1 j2 j3=>?_,J⟩
   rw [dT _ _ _ _ _ J,dT _ _ _ _ (j) J,if_neg (show ¬j<d+1 by omega),if_neg (show ¬j<d+2 by omega)]
   split
   ·grind
   ·split<;>grind
theorem n7.pp {d:Nat} {k:List Rat} {po:List aF} {a b s:Rat} {D N:Nat} (h:n7 d k po a b) (c:jI po D N) (h1:a<=s) (h2:s<=b):(∃ q∈lP d k po,qn (q.a,q.b) s/\zR q s=iE d k po s)/\0<da k d (iy d k s) (aX po) (List.replicate d s):=by
 have hwp:∀ x∈aX po,0<x:=fun x hx=>by obtain⟨z,hz,rfl⟩:=List.mem_map.1 hx;exact c.p z hz
 rcases h.kn with⟨rfl,hl⟩ | ⟨t,g1,g2,ht,rfl,hl⟩
 ·have hk:=jV d a b
  have e:iy d (bl d a b) s=d:=by unfold iy;rw [if_pos J]
  unfold iE
  rw [abH hl,e]
  refine⟨⟨⟨d,a,b,po⟩,List.mem_singleton.2 rfl,⟨h1,h2⟩,(aCs h.d1 h.d3 h.ab hl).symm⟩,?_⟩
  have ho:=aco h.ab h1 h2
  rw [acE h.d1 h.d3 h.ab (by rw [mD,hl]),sN (by rw [mD];omega)]
  exact aaK cA ho.1 cA _ _ fun i hi=>hwp _ (dg (by rw [mD] at *;omega))
 ·have hk:=nL d a t b
  have hC:(po.map cS).length=d+2:=by rw [List.length_map,hl]
  have hw:∀ q∈po.map cS,0<q.w:=fun q hq=>by obtain⟨z,hz,rfl⟩:=List.mem_map.1 hq;exact c.p z hz
  have e2:(bO d a t b).getD (d+1) 0=t:=by rw [dT _ _ _ _ _ J,if_neg J,if_pos J]
  unfold iE
  rw [ahR hl]
  by_cases g:s<t
  ·have e:iy d (bO d a t b) s=d:=by unfold iy;rw [if_neg J,e2,if_pos g]
   rw [e]
   refine⟨⟨⟨d,a,t,(ks d a t b (po.map cS)).map dX⟩,List.mem_cons_self,⟨h1,Rat.le_of_lt g⟩,axA h.d1 h.d3 g1 h.ab hl (aiY g1 g2 hC hw)⟩,?_⟩
   exact adA hwp (by rw [mD];omega) (Nat.le_refl _) fun r j j1 j2 j3=>ahY g1 g2 (fun r hr=>by rw [yr hr];exact⟨h1,Rat.le_of_lt g⟩) j1 j2 j3
  ·have e:iy d (bO d a t b) s=d+1:=by unfold iy;rw [if_neg J,e2,if_neg g]
   have g:t<=s:=by grind
   rw [e]
   refine⟨⟨⟨d,t,b,(jY d a t b (po.map cS)).map dX⟩,List.mem_cons_of_mem _ List.mem_cons_self,⟨g,h2⟩,av4 h.d1 h.d3 g1 g2 hl (ago g1 g2 hC hw)⟩,?_⟩
   exact adA hwp (by rw [mD];omega) J fun r j j1 j2 j3=>akr g1 g2 (fun r hr=>by rw [yr hr];exact⟨g,h2⟩) j1 j2 j3
theorem azf {a b:Rat} (ca:cj 2 20 a) (cb:cj 2 20 b) (n:Int):∃ m,0<m/\cj (2*m) 720 (km (a,b) n)/\∀ x,cj 2 20 x->cj (2*m) 720 x:=by
 have hd:=afn n
 have h1:=Int.emod_nonneg n (show ia n+1≠0 by omega)
 have h2:=Int.emod_lt_of_pos n (show (0:Int)<ia n+1 by omega)
 have hp:cj (ia n).toNat 12 (nD n):=by
  refine⟨n % (ia n+1),?_,J⟩
  unfold nD
  rw [Int.toNat_of_nonneg J]
  exact Rat.div_mul_cancel (by have:(0:Rat)<((ia n:Int):Rat):=Rat.intCast_pos.2 J;grind)
 have hs:∀ x,cj 2 20 x->cj (2*(ia n).toNat) 240 x:=fun x hx=>(hx.scale (E:=(ia n).toNat)).mono J
 refine⟨(ia n).toNat,J,?_,fun x hx=>(hs x hx).mono ai⟩
 have hm:=hp.agL (cb.amZ ca)
 rw [Nat.mul_comm (ia n).toNat 2] at hm
 exact(hs a ca).aeA hm
theorem acm {a b:Rat} (h:a<b) (n:Int):a<=km (a,b) n/\km (a,b) n<=b:=by
 have hp:=asE n
 have m1:=Rat.mul_nonneg hp.1 (show 0<=b-a by grind)
 have m2:=Rat.mul_nonneg (show 0<=1-nD n by grind) (show 0<=b-a by grind)
 show a<=a+nD n*(b-a)/\a+nD n*(b-a)<=b
 generalize nD n=p at *
 constructor<;>grind
theorem aeK {a b:Rat} (ca:cj 2 20 a) (cb:cj 2 20 b) (n:Int):rl (km (a,b) n)<=10:=by
 have h1:=qN ca
 have h2:=qN cb
 have h3:=alR n
 have m1:=iq b a
 have m2:=cO (nD n) (b-a)
 have m3:=jq a (nD n*(b-a))
 show rl (a+nD n*(b-a))<=_
 omega
theorem n7.pt {d:Nat} {k:List Rat} {po:List aF} {a b:Rat} {D N:Nat} (h:n7 d k po a b) (c:jI po D N) (n:Int):∃ M,0<M/\M<=N*40 ^ 3*1440 ^ 3/\∀ j,j<3->cj M (N*40 ^ 3*1440 ^ 3) ((iE d k po (km (a,b) n)).at j):=by
 have sv:=acm h.ab n
 obtain⟨⟨q,hq,v9,he⟩,_⟩:=h.pp c sv.1 sv.2
 obtain⟨E,e0,e1,hP⟩:=h.pcs c
 have hp:=hP q hq
 obtain⟨m,m0,m1,m2⟩:=azf h.ca h.cb n
 obtain⟨F,f0,f1,f2⟩:=ajg J m1 (m2 _ hp.ca) (m2 _ hp.cb) v9.1 v9.2 hp.ab
 have ho:=aco hp.ab v9.1 v9.2
 obtain⟨M,g0,g1,g2⟩:=asp hp.c hp.l f2 f0 ho.1 ho.2
 have hle:N*E ^ d*F ^ d<=N*40 ^ 3*1440 ^ 3:=Nat.mul_le_mul (Nat.mul_le_mul_left _ (agZ e1 ai h.d3)) (agZ f1 ai h.d3)
 refine⟨M,g0,Nat.le_trans g1 hle,fun j hj=>?_⟩
 rw [<-he]
 exact(g2 j hj).mono hle
structure kz (d:Nat) (k:List Rat) (po:List aF) (a b:Rat):Prop where
 dr:n7 d k po a b
 c:∃ D N,jI po D N/\D<=2 ^ 200/\N<=2 ^ 200
 z:∀ q∈po,q.p.z=0
theorem kz.of {d:Nat} {k:List Rat} {po:List aF} {a b:Rat} (h:n7 d k po a b) (hs:∀ q∈po,y8 q):kz d k po a b:=⟨h,⟨12,216,aay hs,by decide,by decide⟩,fun q hq=>(hs q hq).2.2.2⟩
theorem awD (p q:V3) (k:Nat):(fB p q).at k=p.at k-q.at k:=by
 match k with
 | 0=>rfl
 | 1=>rfl
 | k+2=>rfl
theorem aCy (p q:V3) (k:Nat):(pP p q).at k=p.at k+q.at k:=by
 match k with
 | 0=>rfl
 | 1=>rfl
 | k+2=>rfl
theorem aw4 {k:List Rat} {d pc:Nat} {v:List Rat} {t:Rat} (hv:pc+1<=v.length) (hp:d<=pc) (hs:∀ i j,i<=pc->pc<j->j<=pc+d->k.getD i 0≠k.getD j 0) (h0:∀ x∈v,x=0):da k d pc v (List.replicate d t)=0:=by
 rw [<-aaQ hv hp hs]
 refine azB _ _ fun i hi=>?_
 rw [h0 _ (dg J),Rat.mul_zero]
theorem aqO {d:Nat} {k:List Rat} {po:List aF} {a b s:Rat} (h:n7 d k po a b) (hz:∀ q∈po,q.p.z=0) (h1:a<=s) (h2:s<=b) (hr:rl s<=1000):(iE d k po s).z=0:=by
 obtain⟨hi,hs,hl⟩:=h.iv h1 h2 hr
 have pZ:=hi.p2
 have e:da k d (iy d k s) (bj po 2) (List.replicate d s)=0:=aw4 (by rw [n9];omega) hi.p1 hs fun x hx=>by
  obtain⟨q,hq,rfl⟩:=List.mem_map.1 hx
  show q.w*q.p.z=0
  rw [hz q hq,Rat.mul_zero]
 show 1/_*da k d (iy d k s) (bj po 2) (List.replicate d s)=0
 rw [e,Rat.mul_zero]
theorem aso {d:Nat} {k:List Rat} {po:List aF} {a b s:Rat} {D N:Nat} {T:V3} (h:n7 d k po a b) (c:jI po D N) (h1:a<=s) (h2:s<=b) (hr:rl s<=1000):iE d k (po.map (za T)) s=pP (iE d k po s) T:=by
 obtain⟨hi,hs,hl⟩:=h.iv h1 h2 hr
 have pZ:=hi.p2
 have hW:=(h.pp c h1 h2).2
 have ew:aX (po.map (za T))=aX po:=by unfold aX;rw [List.map_map];rfl
 have g:∀ j,da k d (iy d k s) (bj (po.map (za T)) j) (List.replicate d s)=da k d (iy d k s) (bj po j) (List.replicate d s)+T.at j*da k d (iy d k s) (aX po) (List.replicate d s):=fun j=>by
  rw [<-aaQ (by rw [n9,List.length_map];omega) hi.p1 hs,<-aaQ (by rw [n9];omega) hi.p1 hs,<-aaQ (v:=aX po) (by rw [mD];omega) hi.p1 hs,<-apc,<-afB]
  refine wF _ _ _ fun i lT=>?_
  have hx:iy d k s-d+i<po.length:=by have:=hi.p1;omega
  rw [aag (by rw [List.length_map];exact hx),aag hx,abm hx]
  have em:(po.map (za T)).getD (iy d k s-d+i) default=za T (po.getD (iy d k s-d+i) default):=by
   rw [List.getD_eq_getElem?_getD,List.getElem?_map,List.getElem?_eq_getElem hx,List.getD_eq_getElem?_getD,List.getElem?_eq_getElem hx];rfl
  rw [em]
  show _*((po.getD (iy d k s-d+i) default).w*(pP (po.getD (iy d k s-d+i) default).p T).at j)=_
  rw [aCy]
  grind
 unfold iE uH
 rw [ew,g 0,g 1,g 2]
 have g8:1/da k d (iy d k s) (aX po) (List.replicate d s)*da k d (iy d k s) (aX po) (List.replicate d s)=1:=Rat.div_mul_cancel cA
 have q:∀ n t:Rat,1/da k d (iy d k s) (aX po) (List.replicate d s)*(n+t*da k d (iy d k s) (aX po) (List.replicate d s))=1/da k d (iy d k s) (aX po) (List.replicate d s)*n+t:=fun n t=>by
  generalize 1/da k d (iy d k s) (aX po) (List.replicate d s)=r at *
  generalize da k d (iy d k s) (aX po) (List.replicate d s)=w at *
  have:r*(n+t*w)=r*n+t*(r*w):=by grind
  rw [this,g8,Rat.mul_one]
 unfold jb pP
 simp only [q]
 rfl
theorem kz.sh {d e:Nat} {k m:List Rat} {po pq:List aF} {a b a' b':Rat} (hc:n7 d k po a b) (hx:n7 e m pq a' b') (sc:∀ q∈po,y8 q) (sx:∀ q∈pq,y8 q) (i j:Int) :
  kz e m (pq.map (za (fB (iE d k po (km (a,b) i)) (iE e m pq (km (a',b') j))))) a' b'/\ck 10 (fB (iE d k po (km (a,b) i)) (iE e m pq (km (a',b') j)))/\ck 10 (iE d k po (km (a,b) i))/\ck 10 (iE e m pq (km (a',b') j)):=by
 obtain⟨M,m0,m1,m2⟩:=hc.pt (aay sc) i
 obtain⟨L,l0,l1,l2⟩:=hx.pt (aay sx) j
 obtain⟨B,hB⟩:∃ B,216*40 ^ 3*1440 ^ 3=B:=⟨_,rfl⟩
 rw [hB] at m1 m2 l1 l2
 have hT:∀ k',k'<3->cj (M*L) (B*L+B*M) ((fB (iE d k po (km (a,b) i)) (iE e m pq (km (a',b') j))).at k'):=fun k' hk=>by
  rw [awD]
  have h2:=(l2 k' hk).scale (E:=M)
  rw [Nat.mul_comm L M] at h2
  exact((m2 k' hk).scale (E:=L)).amZ h2
 have p1:M*L<=B*B:=Nat.mul_le_mul m1 l1
 have p2:B*L+B*M<=B*B+B*B:=Nat.add_le_add (Nat.mul_le_mul_left _ l1) (Nat.mul_le_mul_left _ m1)
 have hML:0<M*L:=Nat.mul_pos m0 l0
 have hsm:B*B+B*B<4294967296 ^ 10:=by rw [<-hB];decide +kernel
 have bnd:∀ (x:V3) (D' N':Nat),0<D'->D'<=B*B->N'<=B*B+B*B->(∀ k',k'<3->cj D' N' (x.at k'))->ck 10 x:=fun x D' N' h0 h1 h2 h=>⟨(h 0 ai).rl h0 J J ai,(h 1 ai).rl h0 J J ai,(h 2 ai).rl h0 J J ai⟩
 have hBB:B<=B*B:=Nat.le_mul_of_pos_left _ J
 refine⟨⟨⟨hx.d1,hx.d3,hx.ab,hx.ca,hx.cb,?_⟩,⟨_,_,ath (aay sx) hML hT,?_,?_⟩,fun q hq=>?_⟩,bnd _ _ _ hML p1 p2 hT,bnd _ _ _ m0 J J m2,bnd _ _ _ l0 J J l2⟩
 ·rw [List.length_map];exact hx.kn
 ·exact Nat.le_trans (Nat.mul_le_mul_left _ p1) (by rw [<-hB];decide +kernel)
 ·exact Nat.le_trans (Nat.add_le_add (Nat.mul_le_mul_left _ p1) (Nat.mul_le_mul_left _ p2)) (by rw [<-hB];decide +kernel)
 ·obtain⟨y,hy,rfl⟩:=List.mem_map.1 hq
  have hi:=acm hc.ab i
  have hj:=acm hx.ab j
  have z1:=aqO hc (fun q hq=>(sc q hq).2.2.2) hi.1 hi.2 (Nat.le_trans (aeK hc.ca hc.cb i) ai)
  have z2:=aqO hx (fun q hq=>(sx q hq).2.2.2) hj.1 hj.2 (Nat.le_trans (aeK hx.ca hx.cb j) ai)
  show y.p.z+((iE d k po (km (a,b) i)).z-(iE e m pq (km (a',b') j)).z)=0
  rw [z1,z2,(sx y hy).2.2.2];decide +kernel
theorem aky (T:V3):qg (qh T)=za T:=by
 funext q
 show (⟨⟨0+1*q.p.x+0*q.p.y+0*q.p.z+T.x,0+0*q.p.x+1*q.p.y+0*q.p.z+T.y,0+0*q.p.x+0*q.p.y+1*q.p.z+T.z⟩,q.w⟩:aF)=⟨⟨q.p.x+T.x,q.p.y+T.y,q.p.z+T.z⟩,q.w⟩
 congr 2<;>grind
theorem ayX {D W:Nat} {wd:Rat} {lk:iU} {I:ez->Prop} {Q:gQ->Prop} (hH:∀ x,I x->x.2.1<D->I (lL x)/\I (lO x)) (hC:∀ x v,I x->v=(false,0,0)\/v=lk (x.1.take 1) (x.1.drop 1)->Q (mq 1 x v)) {s:RunT} (h0:∀ x∈s.1,I x) (h:∀ c∈s.2.2,Q c):∀ c∈(rJ D W 1 wd lk s).2.2,Q c:=by
 have:=aa5 (D:=D) (W:=W) (na:=1) (wd:=wd) (lk:=lk) (fun s=>(∀ x∈s.1,I x)/\∀ c∈s.2.2,Q c) (fun x st n cs xM=>by
  obtain⟨hA,hI⟩:=xM
  have fw:=hA x aO
  have cQ:∀ y∈st,I y:=fun y hy=>hA y (by simp [hy])
  have hq:∀ v,v=(false,0,0)\/v=lk (x.1.take 1) (x.1.drop 1)->∀ c∈cs++[mq 1 x v],Q c:=fun v hv c hc=>by
   rcases List.mem_append.1 hc with g | g
   ·exact hI c g
   ·rw [List.mem_singleton.1 g];exact hC x v fw hv
  rw [lU]
  split
  ·exact⟨cQ,hq _ (.inl rfl)⟩
  ·split
   ·exact⟨cQ,hI⟩
   ·split
    ·exact⟨cQ,hq _ (.inr rfl)⟩
    ·rename_i jG
     have bE:x.2.1<D:=by
      rcases Nat.lt_or_ge x.2.1 D with g | g
      ·exact g
      ·exact absurd (agC (x:=x) (wd:=wd) g) jG
     have hh:=hH x fw bE
     refine⟨fun y hy=>?_,hI⟩
     simp only [List.mem_cons] at hy
     rcases hy with rfl | rfl | hy
     ·exact hh.1
     ·exact hh.2
     ·exact cQ y hy) (fj D s.1) (Nat.le_refl _) ⟨h0,h⟩ (abp D W 1 wd lk s)
 exact this.1.2
section
variable {d w:Nat} {wd:Rat} {lk:cI->cI->iU} {dm:cI->Sp} {Q:gQ->Prop}
theorem amB {c:cI}:∀ (l:List cI) {s:lI},(∀ e∈l,∀ s:lI,(∀ x∈s.2,Q x)->∀ x∈(pS d w wd lk dm c e s).2,Q x)->(∀ x∈s.2,Q x)->∀ x∈(ny d w wd lk dm c l s).2,Q x
 | [],_,_,h=>h
 | e :: l,s,hp,h=>amB l (s:=pS d w wd lk dm c e s) (fun e he=>hp e (by simp [he])) (hp e aO s h)
theorem ao2 {m:List cI}:∀ (l:List cI) {s:lI},(∀ c∈l,∀ e∈m,∀ s:lI,(∀ x∈s.2,Q x)->∀ x∈(pS d w wd lk dm c e s).2,Q x)->(∀ x∈s.2,Q x)->∀ x∈(pn d w wd lk dm l m s).2,Q x
 | [],_,_,h=>h
 | c :: l,s,hp,h=>ao2 l (s:=ny d w wd lk dm c m s) (fun c hc=>hp c (by simp [hc])) (amB m (hp c aO) h)
theorem ak8 (hd:d<=10) (hW:w<=4096) {c:cI}:∀ (l:List cI) {s:lI} {n:Nat},s.1<=4096->s.2.length<=n->(ny d w wd lk dm c l s).1<=4096/\(ny d w wd lk dm c l s).2.length<=n+2048*l.length
 | [],s,n,h1,h2=>⟨h1,h2⟩
 | e :: l,s,n,h1,h2=>by
  obtain⟨g1,g2⟩:=aq5 (wd:=wd) (lk:=lk) (dm:=dm) (c:=c) (e:=e) hd hW h1 h2
  obtain⟨k1,k2⟩:=ak8 hd hW (c:=c) l (s:=pS d w wd lk dm c e s) (n:=n+2048) g1 g2
  refine⟨k1,Nat.le_trans k2 ?_⟩
  simp only [List.length_cons];omega
theorem akn (hd:d<=10) (hW:w<=4096) {m:List cI} (hm:m.length<=10):∀ (l:List cI) {s:lI} {n:Nat},s.1<=4096->s.2.length<=n->(pn d w wd lk dm l m s).1<=4096/\(pn d w wd lk dm l m s).2.length<=n+20480*l.length
 | [],s,n,h1,h2=>⟨h1,h2⟩
 | c :: l,s,n,h1,h2=>by
  obtain⟨g1,g2⟩:=ak8 (wd:=wd) (lk:=lk) (dm:=dm) hd hW (c:=c) m h1 h2
  obtain⟨k1,k2⟩:=akn hd hW hm l (s:=ny d w wd lk dm c m s) (n:=n+20480) g1 J
  refine⟨k1,Nat.le_trans k2 ?_⟩
  simp only [List.length_cons];omega
end
theorem ayM {d w:Nat} {wd:Rat} {lA lB:List gJ} {Q:gQ->Prop} (h:∀ p∈lA,∀ q∈lB,∀ x v,qe d p.a p.b q.a q.b x->v=(false,0,0)\/v=tc p q (x.1.take 1) (x.1.drop 1)->Q (mq 1 x v)):∀ c∈(oA d w wd lA lB).2,Q c:=by
 refine ao2 _ (fun c hc e he s hs=>?_) (fun x hx=>by cases hx)
 obtain⟨p,hp,rfl⟩:=List.mem_map.1 hc
 obtain⟨q,hq,rfl⟩:=List.mem_map.1 he
 refine ayX (I:=qe d (gk (ib p)).a (gk (ib p)).b (gk (ib q)).a (gk (ib q)).b) (fun x=>ajJ) (fun x v hx hv=>?_) (fun x hx=>?_) hs
 ·rw [wu,wu] at hx
  have hv:v=(false,0,0)\/v=tc (gk (ib p)) (gk (ib q)) (x.1.take 1) (x.1.drop 1):=hv
  rw [wu,wu] at hv
  exact h p hp q hq x v hx hv
 ·rw [List.mem_singleton.1 hx]
  exact ajS ..
theorem az2 {d w:Nat} {wd:Rat} {lA lB:List gJ} (hd:d<=10) (hw:w<=4096) (hA:lA.length<=10) (hB:lB.length<=10):(oA d w wd lA lB).2.length<=204800:=by
 have:=(akn (wd:=wd) (lk:=fun c e=>tc (gk c) (gk e)) (dm:=fun c=>((gk c).a,(gk c).b)) hd hw (m:=lB.map ib) (by rw [List.length_map];exact hB) (lA.map ib) (s:=(0,[])) (n:=0) (Nat.zero_le _) (Nat.le_refl _)).2
 rw [List.length_map] at this
 unfold oA
 omega
def ank (c:gQ):Prop:=∃ s r:Sp,c.1=[s]/\c.2.1=[r]/\rl s.1<=100/\rl s.2<=100/\rl r.1<=100/\rl r.2<=100/\s.1<s.2/\r.1<r.2
theorem ay6 {d:Nat} {a b a' b':Rat} (hd:d<=24) (cu:a<b) (aBj:a'<b') (h1:rl a<=30) (h2:rl b<=30) (h3:rl a'<=30) (h4:rl b'<=30) {x:ez} {v:Bool × Nat × Nat} (h:qe d a b a' b' x):ank (mq 1 x v):=by
 obtain⟨s,r,i,j,e,f,qF,hle,hs,hr⟩:=h
 have g1:=hs.rl J
 have g2:=hr.rl J
 refine⟨cL a b s,cL a' b' r,by unfold mq;rw [e];rfl,by unfold mq;rw [e];rfl,?_,?_,?_,?_,aaX cu hs.2.2.2.1,aaX aBj hr.2.2.2.1⟩
 ·have:=tq h1 h2 g1.1;show rl (a+(b-a)*s.1)<=_;omega
 ·have:=tq h1 h2 g1.2;show rl (a+(b-a)*s.2)<=_;omega
 ·have:=tq h3 h4 g2.1;show rl (a'+(b'-a')*r.1)<=_;omega
 ·have:=tq h3 h4 g2.2;show rl (a'+(b'-a')*r.2)<=_;omega
theorem jI.b4 {C:List Q4} {D N k:Nat} (c:jI (C.map dX) D N) (hw:∀ q∈C,0<q.w) (hN:N<4294967296 ^ k) (hD:D<4294967296 ^ k) (hk:1<=k):∀ q∈C,nR k q:=fun q hq=>by
 obtain⟨n0,n1,n2,n3⟩:=adF hw
 exact⟨(c.n 0 _ (by rw [n0];exact List.mem_map.2 ⟨q,hq,rfl⟩)).rl c.D0 hN hD hk,(c.n 1 _ (by rw [n1];exact List.mem_map.2 ⟨q,hq,rfl⟩)).rl c.D0 hN hD hk,(c.n 2 _ (by rw [n2];exact List.mem_map.2 ⟨q,hq,rfl⟩)).rl c.D0 hN hD hk,(c.w _ (by rw [n3];exact List.mem_map.2 ⟨q,hq,rfl⟩)).rl c.D0 hN hD hk⟩
theorem acR {po:List aF} {D N k:Nat} (c:jI po D N) (hN:N<4294967296 ^ k) (hD:D<4294967296 ^ k) (hk:1<=k):∀ q∈po.map cS,nR k q:=fun q hq=>by
 obtain⟨z,hz,rfl⟩:=List.mem_map.1 hq
 exact⟨(c.n 0 _ (List.mem_map.2 ⟨z,hz,rfl⟩)).rl c.D0 hN hD hk,(c.n 1 _ (List.mem_map.2 ⟨z,hz,rfl⟩)).rl c.D0 hN hD hk,(c.n 2 _ (List.mem_map.2 ⟨z,hz,rfl⟩)).rl c.D0 hN hD hk,(c.w _ (List.mem_map.2 ⟨z,hz,rfl⟩)).rl c.D0 hN hD hk⟩
theorem ov {n:Nat} (h:n<=2 ^ 200):n<4294967296 ^ 7:=Nat.lt_of_le_of_lt h an
theorem aaw {n E d:Nat} (h:n<=2 ^ 200) (hE:E<=40) (hd:d<=3):n*E ^ d<4294967296 ^ 7:=Nat.lt_of_le_of_lt (Nat.mul_le_mul h (agZ hE ai hd)) an
theorem aof {d:Nat} {k:List Rat} {po:List aF} {a b s:Rat} (h:kz d k po a b) (h1:a<=s) (h2:s<=b) (hr:rl s<=1000):av Tryz.prog 19 [.agg [ah d,.list 3 (k.map ae),.list 12 (po.map aT)],ae s] (.a7 [aS (iE d k po s),iL 0]):=by
 obtain⟨hi,hs,hl⟩:=h.dr.iv h1 h2 hr
 obtain⟨D,N,c,hD,hN⟩:=h.c
 exact aCk d k _ s hi po 7 ai hl (c.okR (ov hN) (ov hD) ai) hs
theorem af4 (d:Nat) (k:List Rat) (po:List aF):(lP d k po).length<=2:=by unfold lP;split<;>simp
theorem asy {q:aF} (h:0<q.w):dX (cS q)=q:=by
 obtain⟨⟨x,y,z⟩,w⟩:=q
 have h:(0:Rat)<w:=h
 have e:∀ x:Rat,w*x/w=x:=fun x=>by rw [Rat.mul_comm,Rat.mul_div_cancel cA]
 show (⟨⟨w*x/w,w*y/w,w*z/w⟩,w⟩:aF)=_
 rw [e,e,e]
theorem avc {d:Nat} {a b:Rat} {C:List Q4} (cu:a<b) (hC:C.length=d+1):acC d a b C a b=C:=by
 unfold acC
 refine List.ext_getElem (by simp [hC]) fun i g1 g2=>?_
 have hi:i<d+1:=by simpa using g1
 have e:∀ f:Q4->Rat,vP d a b (C.map f) (List.replicate (d-i) a++List.replicate i b)=f C[i]:=fun f=>by
  rw [<-aqj J,avP cu (by rw [List.length_map];exact hC) J,List.getD_eq_getElem?_getD,List.getElem?_map,List.getElem?_eq_getElem g2];rfl
 simp only [List.getElem_map,List.getElem_range,pol,e]
theorem aCj (d:Nat) (a b:Rat) (po:List aF) (h1:1<=d) (h6:d<=6) (cu:a<b) (ha:rl a<=64) (hb:rl b<=64) (hl:po.length=d+1) (xd:∀ q∈po,ow 7 q) (hQ:∀ q∈po.map cS,nR 7 q):av Tryz.prog 39 [.agg [ah d,.list 3 ((bl d a b).map ae),.list 12 (po.map aT)]] (.list 3 [dv (d,bl d a b,po)]):=by
 have hk:=aym h1 h6 cu ha hb
 have fU:=jV d a b
 have jd:=aaG (d:=d) ha hb
 have hC:(po.map cS).length=d+1:=by rw [List.length_map,hl]
 have hw:∀ q∈po.map cS,0<q.w:=fun q hq=>by obtain⟨z,hz,rfl⟩:=List.mem_map.1 hq;exact(xd z hz).2.2
 have e:(po.map cS).map dX=po:=by
  rw [List.map_map]
  exact(List.map_congr_left fun q hq=>asy (xd q hq).2.2).trans (List.map_id _)
 have main:=anC d (bl d a b) [a,b] po (fun _=>po.map cS) 1 rfl ai J J jd (aBD cu) (alg d (bl d a b) po hk J) (apF d (bl d a b) po 7 ai ai J J (fun x hx=>Nat.le_trans (jd x hx) ai) J xd)
  (fun i hi=>by
   obtain rfl:i=0:=by omega
   have:=aCE d a b a b (po.map cS) 7 h1 h6 Rat.le_refl cu Rat.le_refl ha hb ha hb hC ai ai hQ
   rw [avc cu hC] at this
   exact this)
  (fun i hi=>by
   obtain rfl:i=0:=by omega
   exact agV d (bl d a b) _ 7 ai J J (fun x hx=>Nat.le_trans (jd x hx) ai) J fun q hq=>⟨hQ q hq,hw q hq⟩)
 have e2:((List.range 1).map fun i=>((d,bl d ([a,b].getD i 0) ([a,b].getD (i+1) 0),((fun _=>po.map cS) i).map dX):cI))=[(d,bl d a b,po)]:=by
  show [((d,bl d a b,(po.map cS).map dX):cI)]=_
  rw [e]
 rw [e2] at main
 exact main
theorem arz {d:Nat} {k:List Rat} {po:List aF} {a b:Rat} (h:kz d k po a b):av Tryz.prog 39 [.agg [ah d,.list 3 (k.map ae),.list 12 (po.map aT)]] (.list 3 (((lP d k po).map ib).map dv)):=by
 obtain⟨D,N,c,hD,hN⟩:=h.c
 have hd:=h.dr.d1
 have h3:=h.dr.d3
 have ra:=qN h.dr.ca
 have rb:=qN h.dr.cb
 rcases h.dr.kn with⟨rfl,hl⟩ | ⟨t,g1,g2,ht,rfl,hl⟩
 ·rw [abH hl]
  exact aCj d a b po hd J h.dr.ab J J hl (c.okR (ov hN) (ov hD) ai) (acR c (ov hN) (ov hD) ai)
 ·rw [ahR hl]
  have rt:=qN ht
  have hC:(po.map cS).length=d+2:=by rw [List.length_map,hl]
  have hw:∀ q∈po.map cS,0<q.w:=fun q hq=>by obtain⟨z,hz,rfl⟩:=List.mem_map.1 hq;exact c.p z hz
  obtain⟨E,e0,e1,e2⟩:=ajg ai ht h.dr.ca h.dr.cb (Rat.le_of_lt g1) (Rat.le_of_lt g2) h.dr.ab
  have wA:=aiY g1 g2 hC hw
  have wZ:=ago g1 g2 hC hw
  have bA:=(alv g1 g2 hl c e0 e2).b4 wA (aaw hN e1 h3) (aaw hD e1 h3) ai
  have bZ:=(alL g1 g2 hl c e0 e2).b4 wZ (aaw hN e1 h3) (aaw hD e1 h3) ai
  exact aA1 d a t b po 7 7 hd J g1 g2 J J J hl ai ai (c.okR (ov hN) (ov hD) ai) (fun q hq=>⟨Nat.le_trans (acR c (ov hN) (ov hD) ai q hq).1 ai,Nat.le_trans (acR c (ov hN) (ov hD) ai q hq).2.1 ai,Nat.le_trans (acR c (ov hN) (ov hD) ai q hq).2.2.1 ai,Nat.le_trans (acR c (ov hN) (ov hD) ai q hq).2.2.2 ai⟩) (awN hd J g1 g2 J J J) (avm g1 g2) ai (fun q hq=>⟨bA q hq,wA q hq⟩) (fun q hq=>⟨bZ q hq,wZ q hq⟩) (by simp [ks];omega) (by simp [jY];omega)
theorem kz.pk {d:Nat} {k:List Rat} {po:List aF} {a b:Rat} (h:kz d k po a b) {Dp:Nat} (hDp:Dp<=24):∀ q∈lP d k po,∃ D N,xh q Dp D N:=fun q hq=>by
 obtain⟨D,N,c,hD,hN⟩:=h.c
 obtain⟨E,e0,e1,hP⟩:=h.dr.pcs c
 have hp:=hP q hq
 have h7:(4294967296:Nat) ^ 7<=4294967296 ^ 80:=Nat.pow_le_pow_right ai ai
 have ra:=qN hp.ca
 have rb:=qN hp.cb
 obtain⟨qd,qa,qb,qp⟩:=q
 obtain rfl:qd=d:=hp.dd
 exact⟨_,_,aCV h.dr.d1 h.dr.d3 hp.ab (by show rl qa<=30;exact Nat.le_trans ra ai) (by show rl qb<=30;exact Nat.le_trans rb ai) hp.l hp.c (Nat.lt_of_lt_of_le (aaw hN e1 h.dr.d3) h7) (Nat.lt_of_lt_of_le (aaw hD e1 h.dr.d3) h7) hDp⟩
theorem ai2 {d e:Nat} {k m:List Rat} {po pq:List aF} {a b a' b':Rat} (h:kz d k po a b) (g:kz e m pq a' b') (dn w:Nat) (wd:Rat) (hd:dn<=10) (hw:w<=4096) (hwd:rl wd<=100) (hVa:av Tryz.prog 37 [.agg [ah dn,ah w,ae wd]] (bL true)) :
  av Tryz.prog 14 [.agg [ah d,.list 3 (k.map ae),.list 12 (po.map aT)],.agg [ah e,.list 3 (m.map ae),.list 12 (pq.map aT)],.agg [ah dn,ah w,ae wd]] (.a7 [.list 4 ((oA dn w wd (lP d k po) (lP e m pq)).2.map fg),iL 0]):=by
 have h3:=h.dr.d3
 have g3:=g.dr.d3
 have hl:po.length<=d+2:=by rcases h.dr.kn with⟨_,e⟩ | ⟨_,_,_,_,_,e⟩<;>omega
 have gl:pq.length<=e+2:=by rcases g.dr.kn with⟨_,e⟩ | ⟨_,_,_,_,_,e⟩<;>omega
 have l1:=af4 d k po
 have l2:=af4 e m pq
 exact avQ d e k m po pq J J h.z g.z _ _ J J dn w wd hd hw hwd hVa (arz h) (arz g) (h.pk J) (g.pk J)
theorem kz.cells {d e:Nat} {k m:List Rat} {po pq:List aF} {a b a' b':Rat} (h:kz d k po a b) (g:kz e m pq a' b') {dn w:Nat} {wd:Rat} (hd:dn<=24):∀ c∈(oA dn w wd (lP d k po) (lP e m pq)).2,ank c:=ayM fun p hp q hq x v hx _=>by
 obtain⟨_,_,kp⟩:=h.pk hd p hp
 obtain⟨_,_,kq⟩:=g.pk hd q hq
 exact ay6 hd kp.ab kq.ab kp.ra kp.rb kq.ra kq.rb hx
theorem kz.ar8 {d e:Nat} {k m:List Rat} {po pq:List aF} {a b a' b':Rat} (h:kz d k po a b) (g:kz e m pq a' b') {dn w:Nat} {wd:Rat} {t u:Rat} (t1:a<=t) (t2:t<=b) (u1:a'<=u) (u2:u<=b') (he:iE d k po t=iE e m pq u):∃ c∈(oA dn w wd (lP d k po) (lP e m pq)).2,iA c t u:=by
 obtain⟨D,N,c,hD,hN⟩:=h.c
 obtain⟨D',N',c',hD',hN'⟩:=g.c
 obtain⟨⟨p,hp,hpt,hpe⟩,_⟩:=h.dr.pp c t1 t2
 obtain⟨⟨q,hq,hqu,hqe⟩,_⟩:=g.dr.pp c' u1 u2
 obtain⟨_,_,kp⟩:=h.pk (Dp:=0) ai p hp
 obtain⟨_,_,kq⟩:=g.pk (Dp:=0) ai q hq
 exact axI hp hq kp.c kq.c kp.ab kq.ab hpt hqu (by rw [hpe,hqe,he])
theorem ayh {x y z u v:LV} (h1:x.pure=true) (h2:y.pure=true) (h3:z.pure=true) (h4:u.pure=true) (h5:v.pure=true):∀ g,(LV.a7 [x,y,z,u,v]).bJ g=.a7 [x,y,z,u,v]:=fun g=>by
 simp only [LV.bJ,cX,LV.cP g x h1,LV.cP g y h2,LV.cP g z h3,LV.cP g u h4,LV.cP g v h5]
theorem azL {P:Program} {L:St} {a1 a2 a3 a4 t:Nat} {T1 T2 T3 T4:TypeId} {b1 b2 b3 b4 s1 s2 s3 s4:Nat} {x1 x2 x3 x4 x5:LV} {m1 m2 m3 m4:Bool} {n1 n2 n3 n4:Nat} {g1 g2 g3 g4:Bool}
  (h1:L.slot a1=.az b1 s1 0 0) (k1:L.heap b1=some ⟨s1,[x1],m1⟩) (z1:x1.au=s1) (c1:x1.at 0 n1 g1=some x1) (y1:bo P T1 n1 g1) (w1:x1.pure=true)
  (h2:L.slot a2=.az b2 s2 0 0) (k2:L.heap b2=some ⟨s2,[x2],m2⟩) (z2:x2.au=s2) (c2:x2.at 0 n2 g2=some x2) (y2:bo P T2 n2 g2) (w2:x2.pure=true)
  (h3:L.slot a3=.az b3 s3 0 0) (k3:L.heap b3=some ⟨s3,[x3],m3⟩) (z3:x3.au=s3) (c3:x3.at 0 n3 g3=some x3) (y3:bo P T3 n3 g3) (w3:x3.pure=true)
  (h4:L.slot a4=.az b4 s4 0 0) (k4:L.heap b4=some ⟨s4,[x4],m4⟩) (z4:x4.au=s4) (c4:x4.at 0 n4 g4=some x4) (y4:bo P T4 n4 g4) (w4:x4.pure=true)
  (h5:L.slot t=x5) (w5:x5.pure=true):nt P [.cell a1 T1,.cell a2 T2,.cell a3 T3,.cell a4 T4,.tmp t] L (.a7 [x1,x2,x3,x4,x5]) [] :=
 ⟨[x1,x2,x3,x4,x5],[x1,x2,x3,x4,x5],(L.bR []).heap,[],.cons ⟨b1,s1,0,0,_,x1,n1,g1,h1,k1,rfl,rfl,z1,c1,y1⟩ (.cons ⟨b2,s2,0,0,_,x2,n2,g2,h2,k2,rfl,rfl,z2,c2,y2⟩ (.cons ⟨b3,s3,0,0,_,x3,n3,g3,h3,k3,rfl,rfl,z3,c3,y3⟩ (.cons ⟨b4,s4,0,0,_,x4,n4,g4,h4,k4,rfl,rfl,z4,c4,y4⟩ (.cons h5 .nil)))),pG [] rfl,.cons (.cf (.pure w1)) (.cons (.cf (.pure w2)) (.cons (.cf (.pure w3)) (.cons (.cf (.pure w4)) (.cons (.cf (.pure w5)) .nil)))),List.nodup_nil,rfl,fun k b h=>by simp at h,rfl⟩
namespace akq
theorem aH {p q:Prop} (k:q) (e:p=q:=by simp only [e1,e2,e3,e4,p1,p2,p3,q1,q2,q3,l1,t0,t1,r1,r2,r3,r4,Nat.zero_add,Nat.reduceMul,Nat.reduceAdd,b1,b2,b3,b4,b5,b6,i1,i2,i3,i4,i5,i6,Nat.reduceBEq,h0,h1,rp,List.length_map,cx,List.set_cons_zero,List.set_cons_succ,Nat.reduceEqDiff,reduceIte,if_true,if_false,dW,ec,aP bg,aP bw,aP ao,cH,dO,LV.kill,bN];exact rfl):p:=e.mpr k
end akq
open akq in
theorem akw (d:Nat) (k:List Rat) (po:List aF) (a b:Rat) (fU:0<k.length) (hk9:k.length<=1000) (h0:k.getD 0 0=a) (h1:k.getD (k.length-1) 0=b):av Tryz.prog 33 [.agg [ah d,.list 3 (k.map ae),.list 12 (po.map aT)]] (aD (a,b)):=by
 have fG:LV.pure (.agg [ah d,.list 3 (k.map ae),.list 12 (po.map aT)])=true:=by simp [LV.pure,aG,aW ao,aW bw]
 have rp:((k.length:Nat):Int).toNat-1=k.length-1:=by omega
 refine aN Tryz.func33 (ht:=(fun g=>LV.cP g _ (bS.pure _))) ?_
 refine aR ?_
 refine aY 13 an ?_
 refine bq ?_
 refine ak rfl jm ?_
 refine aR ?_
 exact rv
namespace ali
theorem aH {p q:Prop} (k:q) (e:p=q:=by simp only [e1,e2,e3,e4,p1,p2,p3,q1,q2,q3,l1,t0,t1,r1,r2,r3,r4,Nat.zero_add,Nat.reduceMul,Nat.reduceAdd,b1,b2,b3,b4,b5,b6,i1,i2,i3,i4,i5,i6,Nat.reduceBEq,vW,acS,ab7,acH,List.set_cons_zero,List.set_cons_succ,Nat.reduceEqDiff,reduceIte,if_true,if_false,dW,ec,aP bg,aP bw,aP ao,cH,dO,LV.kill,bN];exact rfl):p:=e.mpr k
end ali
open ali in
theorem ayl (l:List Int) (i j v:Int) (k1 k2 k3:Nat) (d e:Nat) (k m:List Rat) (po pq pf:List aF) (a b a' b' t u:Rat) (P Q:V3) (fU:0<k.length) (hk9:k.length<=1000) (tX:0<m.length) (hm9:m.length<=1000) (ha:k.getD 0 0=a) (hb:k.getD (k.length-1) 0=b) (ha':m.getD 0 0=a') (o7:m.getD (m.length-1) 0=b') (hNx:lE Tryz.prog 31 ⟨2,[ik l 0],true⟩ [.az 0 2 0 0,iL 5] (iL v) ⟨2,[ik l k1],true⟩) (yt:lE Tryz.prog 32 ⟨2,[ik l k1],true⟩ [.az 0 2 0 0,iL 3,iL 1,bL true] (.agg [ah d,.list 3 (k.map ae),.list 12 (po.map aT)]) ⟨2,[ik l k2],true⟩) (zb:lE Tryz.prog 32 ⟨2,[ik l k2],true⟩ [.az 0 2 0 0,iL 3,iL 1,bL true] (.agg [ah e,.list 3 (m.map ae),.list 12 (pq.map aT)]) ⟨2,[ik l k3],true⟩) (hW1:av Tryz.prog 18 [aD (a,b),iL i] (ae t)) (hW2:av Tryz.prog 18 [aD (a',b'),iL j] (ae u)) (hE1:av Tryz.prog 19 [.agg [ah d,.list 3 (k.map ae),.list 12 (po.map aT)],ae t] (.a7 [aS P,iL 0])) (wP:av Tryz.prog 19 [.agg [ah e,.list 3 (m.map ae),.list 12 (pq.map aT)],ae u] (.a7 [aS Q,iL 0])) (hSh:av Tryz.prog 34 [aS Q,aS P] (dV (qh (fB P Q)))) (hMv:av Tryz.prog 28 [.agg [ah e,.list 3 (m.map ae),.list 12 (pq.map aT)],dV (qh (fB P Q))] (.agg [ah e,.list 3 (m.map ae),.list 12 ((pq.map (qg (qh (fB P Q)))).map aT)])) (hV1:v > 0->pf=(pq.map (qg (qh (fB P Q))))) (hV2:¬v > 0->pf=pq):av Tryz.prog 10 [.list 1 (l.map eW),iL i,iL j] (.a7 [.agg [ah d,.list 3 (k.map ae),.list 12 (po.map aT)],.agg [ah e,.list 3 (m.map ae),.list 12 (pf.map aT)],ae t,ae u,bL (decide (v > 0))]):=by
 have fG:LV.pure (.agg [ah d,.list 3 (k.map ae),.list 12 (po.map aT)])=true:=by simp [LV.pure,aG,aW ao,aW bw,-List.map_map]
 have hcq:LV.pure (.agg [ah e,.list 3 (m.map ae),.list 12 (pq.map aT)])=true:=by simp [LV.pure,aG,aW ao,aW bw,-List.map_map]
 have sY:LV.pure (.agg [ah e,.list 3 (m.map ae),.list 12 (pf.map aT)])=true:=by simp [LV.pure,aG,aW ao,aW bw,-List.map_map]
 have hcm:LV.pure (.agg [ah e,.list 3 (m.map ae),.list 12 ((pq.map (qg (qh (fB P Q)))).map aT)])=true:=by simp [LV.pure,aG,aW ao,aW bw,-List.map_map]
 refine aN Tryz.func10 (ht:=(ayh aff aff (ao.pure _) (ao.pure _) rfl)) ?_
 refine bu ?_
 refine y7 [] rfl rfl (.cons eI .nil) (atK l) (cW l 0) rfl ?_
 refine aA ?_
 refine kj 1000353 rfl rfl rfl (cW l _) (.cons .ptr (.cons (.cf (.pure rfl)) .nil)) .ptr hNx rfl (cW l _) rfl ?_
 refine aR ?_
 refine kj 1000353 rfl rfl rfl (cW l _) (.cons .ptr (.cons (.cf (.pure rfl)) (.cons (.cf (.pure rfl)) (.cons (.cf (.pure rfl)) .nil)))) .ptr yt rfl (cW l _) fG ?_
 refine ar ?_
 refine kj 1000353 rfl rfl rfl (cW l _) (.cons .ptr (.cons (.cf (.pure rfl)) (.cons (.cf (.pure rfl)) (.cons (.cf (.pure rfl)) .nil)))) .ptr zb rfl (cW l _) hcq ?_
 refine aR ?_
 refine aY 10 an ?_
 refine ar ?_
 refine cp aK (akw d k po a b fU hk9 ha hb) ?_
 refine ar ?_
 refine cp aq (hW1) ?_
 refine ar ?_
 refine cp aK (akw e m pq a' b' tX hm9 ha' o7) ?_
 refine ar ?_
 refine cp aq (hW2) ?_
 refine bu ?_
 refine aC rfl ?_ ?_<;>intro afj h38
 ·obtain rfl:=hV1 h38
  refine ax ?_
  refine cp aq (hE1) ?_
  refine bu ?_
  refine cp aq (wP) ?_
  refine bf ?_
  refine aY 5 an ?_
  refine aJ ?_
  refine cp aq (hSh) ?_
  refine gI rfl (.cons (.pure hcq) (.cons (.pure (dN.pure _)) .nil)) hMv ?_
  refine ax ?_
  refine ahF ((((aw.bW (t:=13) (b:=13) rfl rfl cs rfl fG).trans (aw.bW (t:=14) (b:=14) rfl rfl (by rw [LV.ki _ _ sY];exact cs) (by rw [LV.ki _ _ sY];rfl) (by rw [LV.ki _ _ sY];exact sY))).trans (aw.bW (t:=15) (b:=15) rfl rfl (by simp only [cH];exact ao.au _) (by simp only [cH];exact ao.isAgg _) (by simp only [cH];exact ao.pure _))).trans (aw.bW (t:=16) (b:=16) rfl rfl (by simp only [cH];exact ao.au _) (by simp only [cH];exact ao.isAgg _) (by simp only [cH];exact ao.pure _))) ?_
  refine aH ?_
  refine gu 0 rfl rfl an (.pure (.qB rfl fG rfl rfl)) (fun b=>LV.ki b _ fG) gg ?_
  refine gu 1 rfl rfl an (.pure (.qB rfl sY rfl rfl)) (fun b=>LV.ki b _ sY) gg ?_
  refine gu 2 rfl rfl an (.pure (.qB rfl (ao.pure _) (ao.au _) (ao.isAgg _))) (fun b=>cH _ b) gg ?_
  refine gu 3 rfl rfl an (.pure (.qB rfl (ao.pure _) (ao.au _) (ao.isAgg _))) (fun b=>cH _ b) gg ?_
  refine gu 4 rfl rfl an (.pure (.move _)) jy gg ?_
  refine aV 5 _ an rfl ?_
  refine ar ?_
  refine aE ?_
  refine aV 6 _ an rfl ?_
  refine ar ?_
  refine aE ?_
  refine aV 7 _ an rfl ?_
  refine ar ?_
  refine aE ?_
  refine aV 8 _ an rfl ?_
  refine ar ?_
  refine aE ?_
  refine aV 9 _ an rfl ?_
  refine ar ?_
  refine aE ?_
  refine eO an ?_
  refine aL ?_
  exact amz
 ·obtain rfl:=hV2 h38
  refine aJ ?_
  refine ahF ((((aw.bW (t:=13) (b:=13) rfl rfl cs rfl fG).trans (aw.bW (t:=14) (b:=14) rfl rfl (by rw [LV.ki _ _ sY];exact cs) (by rw [LV.ki _ _ sY];rfl) (by rw [LV.ki _ _ sY];exact sY))).trans (aw.bW (t:=15) (b:=15) rfl rfl (by simp only [cH];exact ao.au _) (by simp only [cH];exact ao.isAgg _) (by simp only [cH];exact ao.pure _))).trans (aw.bW (t:=16) (b:=16) rfl rfl (by simp only [cH];exact ao.au _) (by simp only [cH];exact ao.isAgg _) (by simp only [cH];exact ao.pure _))) ?_
  refine aH ?_
  refine gu 0 rfl rfl an (.pure (.qB rfl fG rfl rfl)) (fun b=>LV.ki b _ fG) gg ?_
  refine gu 1 rfl rfl an (.pure (.qB rfl sY rfl rfl)) (fun b=>LV.ki b _ sY) gg ?_
  refine gu 2 rfl rfl an (.pure (.qB rfl (ao.pure _) (ao.au _) (ao.isAgg _))) (fun b=>cH _ b) gg ?_
  refine gu 3 rfl rfl an (.pure (.qB rfl (ao.pure _) (ao.au _) (ao.isAgg _))) (fun b=>cH _ b) gg ?_
  refine gu 4 rfl rfl an (.pure (.move _)) jy gg ?_
  refine aV 5 _ an rfl ?_
  refine ar ?_
  refine aE ?_
  refine aV 6 _ an rfl ?_
  refine ar ?_
  refine aE ?_
  refine aV 7 _ an rfl ?_
  refine ar ?_
  refine aE ?_
  refine aV 8 _ an rfl ?_
  refine ar ?_
  refine aE ?_
  refine aV 9 _ an rfl ?_
  refine ar ?_
  refine aE ?_
  refine eO an ?_
  refine aL ?_
  exact amz
theorem ayk {α β:Type} [Inhabited α] (f:α->β) (l:List α) (d:α) {i:Nat} (h:i<l.length):(l.map f).take i++[f (l.getD i d)]=(l.map f).take (i+1):=by
 rw [List.take_add_one,List.getElem?_map,List.getD_eq_getElem?_getD,List.getElem?_eq_getElem h];rfl
namespace ana
theorem aH {p q:Prop} (k:q) (e:p=q:=by simp only [e1,e2,e3,e4,p1,p2,p3,q1,q2,q3,l1,t0,t1,r1,r2,r3,r4,Nat.zero_add,Nat.reduceMul,Nat.reduceAdd,b1,b2,b3,b4,b5,b6,i1,i2,i3,i4,i5,i6,Nat.reduceBEq,fD,gv,List.length_map,k5,kI,iz,List.length_cons,List.length_nil,List.nil_append,List.map_nil,List.take_nil,List.append_nil,aP ao,List.set_cons_zero,List.set_cons_succ,Nat.reduceEqDiff,reduceIte,if_true,if_false,dW,ec,aP bg,aP bw,aP ao,cH,dO,LV.kill,bN];exact rfl):p:=e.mpr k
end ana
open ana in
theorem auf (l:List Int) (hl:l.length<=1000) (hb:∀ x∈l,-1000<=x/\x<=1000):av Tryz.prog 68 [.list 1 (l.map eW)] (.list 3 ((l.map fun x:Int=>(x:Rat)).map ae)):=by
 refine aN Tryz.func68 ?_
 have fD:True:=trivial
 have gv:True:=trivial
 refine im ?_
 refine jo (aw.own (t:=3) 18 3 rfl rfl) ?_
 refine dJ (fun(k:Nat) L=>((((St.mk L.slot (hp [(18,⟨3,((l.map fun x:Int=>(x:Rat)).take k).map ae,true⟩)])).put (some 0) (.list 1 (l.map eW))).put (some 3) (.ref 18 3 0 k)).put (some 4) (ah k))) (fun k=>k<=l.length) (fun k=>l.length-k) 0 (Nat.zero_le _) ?_
 rintro k L1 hk
 refine bq ?_
 refine aC rfl ?_ ?_<;>intro ni h8
 ·have kL:k<l.length:=by omega
  have jQ:=hb (l.getD k 0) (by rw [List.getD_eq_getElem?_getD,List.getElem?_eq_getElem kL];exact List.getElem_mem kL)
  have gv:=ayk (fun x:Int=>(x:Rat)) l 0 kL
  have fD:(((l.map fun x:Int=>(x:Rat)).take k).map ae).take k=((l.map fun x:Int=>(x:Rat)).take k).map ae:=List.take_of_length_le wj
  have hlr:(l.map fun x:Int=>(x:Rat)).length=l.length:=List.length_map ..
  refine bC ?_
  refine cp aK (oJ (l.getD k 0) J J) ?_
  refine ar ?_
  refine bI rfl (.fX (d:=18) (news:=[ae ((l.getD k 0):Rat)]) rfl rfl rfl rfl bm (.inl rfl) ai Tryz.underlying25 Tryz.underlying25 ko cK rfl kA (.inl ⟨17,0,_,rfl,by decide,rfl,rfl,by simp,rfl,by simp [aG,ao.pure]⟩) bm bm ai) ?_
  refine ax ?_
  refine cq (aw.kill _ 17) ?_
  refine ar ?_
  refine ak rfl cB ?_
  refine aJ ?_
  exact iG (k+1) J
 ·obtain rfl:k=l.length:=by omega
  have hE:(l.map fun x:Int=>(x:Rat)).take l.length=(l.map fun x:Int=>(x:Rat)):=List.take_of_length_le (by rw [List.length_map];exact Nat.le_refl _)
  simp only [hE]
  refine bu ?_
  exact mz [18] rfl rfl (eN (l:=(l.map fun x:Int=>(x:Rat))) ao rfl rfl (by rw [List.length_map]))
open fP in
theorem aqk (p:V3):av Tryz.prog 69 [aS p,iL 1] (aT ⟨p,1⟩):=by
 have pg:av Tryz.prog 13 [iL 1] (ae 1):=oJ 1 ai ai
 refine aN Tryz.func69 (ht:=(fun g=>LV.cP g _ (bw.pure _))) ?_
 refine aR ?_
 refine aY 4 an ?_
 refine aL ?_
 refine cp aK (pg) ?_
 refine pY (zc (p:=p) (r:=1) rfl rfl) ?_
 refine ax ?_
 exact fS [] rfl rfl rfl cs (dG cs rfl) rQ (.pure pu)
def mh (a b:V3):List aF:=[⟨a,1⟩,⟨b,1⟩]
open vp in
theorem afH (x y:Int) (hx:-1000<=x/\x<=1000) (hy:-1000<=y/\y<=1000):av Tryz.prog 30 [iL x,iL y] (aS ⟨(x:Rat),(y:Rat),0⟩):=by
 refine aN Tryz.func30 (ht:=(fun r=>LV.cP r _ (bg.pure _))) ?_
 refine bf ?_
 refine cp aK (oJ x J J) ?_
 refine ar ?_
 refine cp aK (oJ y J J) ?_
 refine pY (agK rfl rfl) ?_
 refine ax ?_
 exact qw
namespace ans
theorem aH {p q:Prop} (k:q) (e:p=q:=by simp only [e1,e2,e3,e4,p1,p2,p3,q1,q2,q3,l1,t0,t1,r1,r2,r3,r4,Nat.zero_add,Nat.reduceMul,Nat.reduceAdd,b1,b2,b3,b4,b5,b6,i1,i2,i3,i4,i5,i6,Nat.reduceBEq,dW,vW,acS,List.getD_cons_zero,List.getD_cons_succ,List.set_cons_zero,List.set_cons_succ,Nat.reduceEqDiff,reduceIte,if_true,if_false,dW,ec,aP bg,aP bw,aP ao,cH,dO,LV.kill,bN];exact rfl):p:=e.mpr k
end ans
open ans in
theorem aom (a b:V3):av Tryz.prog 24 [aS a,aS b] (.agg [ah 1,.list 3 ((bl 1 0 1).map ae),.list 12 ((mh a b).map aT)]):=by
 have rY:=et ao 3 (bl 1 0 1)
 have hI4:av Tryz.prog 68 [.list 1 (([0,0,1,1]:List Int).map eW)] (.list 3 ((bl 1 0 1).map ae)):=by
  have:=auf [0,0,1,1] ai ai
  rwa [show (([0,0,1,1]:List Int).map fun x:Int=>(x:Rat))=bl 1 0 1 from by decide +kernel] at this
 refine aN Tryz.func24 (ht:=(fun g=>LV.cP g _ (by simp [LV.pure,aG,aW ao,aW bw]))) ?_
 refine bf ?_
 refine aY 8 an ?_
 refine eH rfl rfl (.alB (a:=0) (b:=0) (c:=1) (f:=1) m9 Tryz.underlying123 (show cU _ _ (eW 0) from Z2) T2 rfl rfl rfl rfl ai ai) ?_
 refine aH ?_
 refine aeD [5] rfl rfl (.cons (eN (l:=[0,0,1,1]) m9 rfl rfl rfl) .nil) (hI4) ?_
 refine ar ?_
 refine gI rfl (.cons (.pure (bg.pure a)) (.cons (.pure rfl) .nil)) (aqk a) ?_
 refine ar ?_
 refine gI rfl (.cons (.pure (bg.pure b)) (.cons (.pure rfl) .nil)) (aqk b) ?_
 refine eH rfl rfl (.anI (a:=⟨a,1⟩) (b:=⟨b,1⟩) (z:=⟨⟨0,0,0⟩,0⟩) bw Tryz.underlying26 (show cU _ _ (aT ⟨⟨0,0,0⟩,0⟩) from Z42) rQ rfl rfl ai ai) ?_
 refine a6 ?_
 exact fS [11] rfl rfl rfl cs (dG cs rfl) jH (.agg (.cons (.pure rfl) (.cons (.pure rY) (.cons (eN (l:=mh a b) bw rfl rfl rfl) .nil))))
theorem azV {x:Rat} (h:0<=x):cM x>=0:=by
 unfold cM
 split
 ·decide
 ·rw [if_neg cA];decide
def rG (n:Int):Rat:=if n % 3=2 then((1:Int):Rat)/((1+n % 5:Int):Rat) else 0
open ai1 in
theorem ajj (d w:Nat) (wd:Rat) (hd:d<=24) (hw:w<=4096) (h0:0<=wd) (hr:rl wd<=100):av Tryz.prog 37 [.agg [ah d,ah w,ae wd]] (bL true):=by
 have hVa:=aAK wd J
 have yM:=vB wd J
 have hp:LV.pure (.agg [ah d,ah w,ae wd])=true:=by simp [LV.pure,aG,ao.pure]
 refine aN Tryz.func37 ?_
 refine bu ?_
 refine ak (aZ (v:=true) rfl rfl ((decide_eq_true J)) rfl) l6 ?_
 refine ak (aZ (v:=true) rfl rfl ((decide_eq_true J)) rfl) ij ?_
 refine ak (aZ (v:=true) rfl rfl ((decide_eq_true J)) rfl) (.bin rfl rfl rfl) ?_
 refine ak rfl (.my rfl ((decide_eq_true J))) ?_
 refine ar ?_
 refine ak (aZ (v:=true) rfl rfl ((decide_eq_true J)) rfl) l6 ?_
 refine ak (aZ (v:=true) rfl rfl ((decide_eq_true J)) rfl) ij ?_
 refine ak (aZ (v:=true) rfl rfl ((decide_eq_true J)) rfl) (.bin rfl rfl rfl) ?_
 refine ak rfl (.my rfl ((decide_eq_true J))) ?_
 refine ar ?_
 refine ak (aZ (v:=true) rfl rfl ((decide_eq_true J)) rfl) l6 ?_
 refine ak (aZ (v:=true) rfl rfl ((decide_eq_true J)) rfl) ij ?_
 refine ak (aZ (v:=true) rfl rfl ((decide_eq_true J)) rfl) (.bin rfl rfl rfl) ?_
 refine ak rfl (.my rfl ((decide_eq_true J))) ?_
 refine ar ?_
 refine ak (aZ (v:=true) rfl rfl ((decide_eq_true J)) rfl) l6 ?_
 refine ak (aZ (v:=true) rfl rfl ((decide_eq_true J)) rfl) ij ?_
 refine gI (aZ (v:=true) rfl rfl ((decide_eq_true J)) rfl) (.cons eI .nil) (hVa) ?_
 refine ak rfl (.my rfl ((decide_eq_true J))) ?_
 refine ar ?_
 refine ak (aZ (v:=true) rfl rfl ((rfl)) rfl) l6 ?_
 refine ak (aZ (v:=true) rfl rfl ((rfl)) rfl) ij ?_
 refine gI (aZ (v:=true) rfl rfl ((rfl)) rfl) (.cons eI .nil) (yM) ?_
 refine ak (aZ (v:=true) rfl rfl ((rfl)) rfl) (.bin rfl rfl rfl) ?_
 refine ak rfl (.my rfl ((rfl))) ?_
 refine ax ?_
 refine dA (x:=bL (decide (cM wd>=0))) rfl ?_
 rw [show decide (cM wd>=0)=true from decide_eq_true (azV h0)]
 exact .pure rfl
open fP in
theorem aCT (depth work width:Int) (dn wn:Nat) (jG:depth % 7=(dn:Int)) (hwn:work % 40=(wn:Int)):av Tryz.prog 11 [iL depth,iL work,iL width] (.agg [ah dn,ah wn,ae (rG width)]):=by
 have hM1:av Tryz.prog 12 [iL depth,iL 7] (ah dn):=by
  have:=aat depth 7 ai ai
  rwa [jG] at this
 have hM2:av Tryz.prog 12 [iL work,iL 40] (ah wn):=by
  have:=aat work 40 ai ai
  rwa [hwn] at this
 have h5a:=Int.emod_nonneg width (show (5:Int)≠0 by decide)
 have h5b:=Int.emod_lt_of_pos width (show (0:Int)<5 by decide)
 refine aN Tryz.func11 (ht:=(fun g=>LV.cP g _ (by simp [LV.pure,aG,ao.pure]))) ?_
 refine bf ?_
 refine cp aq (hM1) ?_
 refine ar ?_
 refine cp aq (hM2) ?_
 refine ak rfl (show aB _ _ _ _ (.agg [ah dn,ah wn,ae 0]) from .build (zs:=[.v (.int .i64 0),.v (.int .i64 0),ae 0]) (by simpa [lay,LV.au,cF,abr,ao.au,ao.isAgg] using af5) Z35 (by simp only [List.forall_mem_cons];exact⟨⟨_,rfl,rfl,kU⟩,⟨_,rfl,rfl,kU⟩,fun _ h=>by cases h⟩)) ?_
 refine bf ?_
 refine cp aq (aat width 3 ai ai) ?_
 refine aJ ?_
 refine aC rfl ?_ ?_<;>intro nB k6
 ·have hV:rG width=((1:Int):Rat)/((1+width % 5:Int):Rat):=if_pos (by simpa using k6)
  refine aL ?_
  refine cp aq (aat width 5 ai ai) ?_
  refine ak rfl wI ?_
  refine cp aq (aam 1 (1+width % 5) J J J J J) ?_
  refine bp ?_
  rw [hV]
  exact fS [] rfl rfl rfl cs (dG cs rfl) T35 (.pure (by simp [LV.pure,aG,ao.pure]))
 ·have hV:rG width=0:=if_neg (by simpa using k6)
  refine bq ?_
  rw [hV]
  exact fS [] rfl rfl rfl cs (dG cs rfl) T35 (.pure (by simp [LV.pure,aG,ao.pure]))
theorem axu (a b:V3):pP a (fB b a)=b:=by
 show (⟨_,_,_⟩:V3)=_
 simp only [fB]
 congr 1<;>grind
theorem axP (n:Int):0<=rG n/\rl (rG n)<=1:=by
 have h1:=Int.emod_nonneg n (show (5:Int)≠0 by decide)
 have h2:=Int.emod_lt_of_pos n (show (0:Int)<5 by decide)
 unfold rG
 split
 ·exact⟨ajs ai J,aaz ai J⟩
 ·exact⟨Rat.le_refl,by decide +kernel⟩
theorem n7.ends {d:Nat} {k:List Rat} {po:List aF} {a b:Rat} (h:n7 d k po a b):0<k.length/\k.length<=1000/\k.getD 0 0=a/\k.getD (k.length-1) 0=b:=by
 have h3:=h.d3
 rcases h.kn with⟨rfl,hl⟩ | ⟨t,g1,g2,ht,rfl,hl⟩
 ·have hk:=jV d a b
  exact⟨J,J,by rw [fR _ _ _ _ J,if_pos J],by rw [hk,fR _ _ _ _ J,if_neg J]⟩
 ·have hk:=nL d a t b
  exact⟨J,J,by rw [dT _ _ _ _ _ J,if_pos J],by rw [hk,dT _ _ _ _ _ J,if_neg J,if_neg J]⟩
theorem anu (x y z w:Int) (hx:x.natAbs<=6) (hy:y.natAbs<=6) (hz:z.natAbs<=6) (hw:w.natAbs<=6):kz 1 (bl 1 0 1) (mh ⟨(x:Rat),(y:Rat),0⟩ ⟨(z:Rat),(w:Rat),0⟩) 0 1:=by
 have g:∀ u v:Int,u.natAbs<=6->v.natAbs<=6->y8 ⟨⟨(u:Rat),(v:Rat),0⟩,1⟩:=fun u v hu hv=>by
  refine⟨fun j=>?_,zr (z:=1) ai,(by show (0:Rat)<1;decide +kernel),rfl⟩
  match j with
  | 0=>exact((zr hu).scale (E:=12)).mono ai
  | 1=>exact((zr hv).scale (E:=12)).mono ai
  | j+2=>exact ahO _ _
 refine kz.of ⟨by decide,by decide,by decide +kernel,ahO _ _,aoc.mono ai,.inl ⟨rfl,rfl⟩⟩ fun q hq=>?_
 unfold mh at hq
 simp only [List.mem_cons,List.not_mem_nil,or_false] at hq
 rcases hq with rfl | rfl
 ·exact g _ _ hx hy
 ·exact g _ _ hz hw
theorem aw1:(oA 0 9 0 [(⟨1,0,1,mh (⟨((0:Int):Rat),((0:Int):Rat),0⟩:V3) (⟨((2:Int):Rat),((2:Int):Rat),0⟩:V3)⟩:gJ)] [(⟨1,0,1,mh (⟨((0:Int):Rat),((2:Int):Rat),0⟩:V3) (⟨((2:Int):Rat),((0:Int):Rat),0⟩:V3)⟩:gJ)]).2=[(([pK],[pK],3,0):gQ)]:=by decide +kernel
theorem aw2:∃ x r,(oA 2 100 0 [(⟨1,0,1,mh (⟨((0:Int):Rat),((0:Int):Rat),0⟩:V3) (⟨((2:Int):Rat),((2:Int):Rat),0⟩:V3)⟩:gJ)] [(⟨1,0,1,mh (⟨((0:Int):Rat),((0:Int):Rat),0⟩:V3) (⟨((2:Int):Rat),((2:Int):Rat),0⟩:V3)⟩:gJ)]).2=x :: r/\x.2.2.1=1:=by
 have h:0<((oA 2 100 0 [(⟨1,0,1,mh (⟨((0:Int):Rat),((0:Int):Rat),0⟩:V3) (⟨((2:Int):Rat),((2:Int):Rat),0⟩:V3)⟩:gJ)] [(⟨1,0,1,mh (⟨((0:Int):Rat),((0:Int):Rat),0⟩:V3) (⟨((2:Int):Rat),((2:Int):Rat),0⟩:V3)⟩:gJ)]).2).length/\(((oA 2 100 0 [(⟨1,0,1,mh (⟨((0:Int):Rat),((0:Int):Rat),0⟩:V3) (⟨((2:Int):Rat),((2:Int):Rat),0⟩:V3)⟩:gJ)] [(⟨1,0,1,mh (⟨((0:Int):Rat),((0:Int):Rat),0⟩:V3) (⟨((2:Int):Rat),((2:Int):Rat),0⟩:V3)⟩:gJ)]).2).getD 0 default).2.2.1=1:=by decide +kernel
 generalize (oA 2 100 0 [(⟨1,0,1,mh (⟨((0:Int):Rat),((0:Int):Rat),0⟩:V3) (⟨((2:Int):Rat),((2:Int):Rat),0⟩:V3)⟩:gJ)] [(⟨1,0,1,mh (⟨((0:Int):Rat),((0:Int):Rat),0⟩:V3) (⟨((2:Int):Rat),((2:Int):Rat),0⟩:V3)⟩:gJ)]).2=l at h
 match l,h with
 | x :: r,h=>exact⟨x,r,rfl,h.2⟩
theorem aBQ (l:List Int) (i j:Int) (yu:l.length<=500) (hi:-9223372036854775808<=i/\i<=9223372036854775807) (hj:-9223372036854775808<=j/\j<=9223372036854775807):∃ (d:Nat) (k:List Rat) (po:List aF) (a b:Rat) (e:Nat) (m:List Rat) (pf:List aF) (a2 b2 tt uu:Rat) (mt:Bool),
  kz d k po a b/\kz e m pf a2 b2/\(a<=tt/\tt<=b/\rl tt<=10)/\(a2<=uu/\uu<=b2/\rl uu<=10)/\(mt=true->iE d k po tt=iE e m pf uu) /\
  av Tryz.prog 10 [.list 1 (l.map eW),iL i,iL j] (.a7 [.agg [ah d,.list 3 (k.map ae),.list 12 (po.map aT)],.agg [ah e,.list 3 (m.map ae),.list 12 (pf.map aT)],ae tt,ae uu,bL mt]):=by
 have k1:=l8 (l:=l) yu (Nat.zero_le 500)
 have k2:xE l (bD l 0) 3 1<=500:=al9 yu _ _ (aoW l (bD l 0) (n:=3) (m:=1) yu k1 ai ai ai).2.2.1
 have dc:=ao5 l (bD l 0) 3 ai ai (xF l (bD l 0) 3 1) (aq4 ..)
 have dx:=ao5 l (xE l (bD l 0) 3 1) 3 ai ai (xF l (xE l (bD l 0) 3 1) 3 1) (aq4 ..)
 have sc:∀ q∈xF l (bD l 0) 3 1,y8 q:=ahU l _ _
 have sx:∀ q∈xF l (xE l (bD l 0) 3 1) 3 1,y8 q:=ahU l _ _
 have hN:=oS l 0 5 yu (Nat.zero_le _) ai ai
 have yt:=amk l (bD l 0) yu 3 ai ai 1 ai k1
 have zb:=amk l (xE l (bD l 0) 3 1) yu 3 ai ai 1 ai k2
 generalize dQ l 0 5=v at hN
 generalize xE l (xE l (bD l 0) 3 1) 3 1=k3 at zb
 generalize cD l (xE l (bD l 0) 3 1) 3=e at dx zb
 generalize xK l (xE l (bD l 0) 3 1) 3 1=m at dx zb
 generalize xF l (xE l (bD l 0) 3 1) 3 1=pq at dx sx zb
 generalize xA l (xE l (bD l 0) 3 1)=a2 at dx
 generalize xB l (xE l (bD l 0) 3 1) 3=b2 at dx
 generalize xE l (bD l 0) 3 1=k2 at yt zb
 generalize cD l (bD l 0) 3=d at dc yt
 generalize xK l (bD l 0) 3 1=k at dc yt
 generalize xF l (bD l 0) 3 1=po at dc sc yt
 generalize xA l (bD l 0)=a at dc
 generalize xB l (bD l 0) 3=b at dc
 generalize bD l 0=k1 at hN yt
 have it:=acm dc.ab i
 have iu:=acm dx.ab j
 have rt:=aeK dc.ca dc.cb i
 have ru:=aeK dx.ca dx.cb j
 have gc:=kz.of dc sc
 have gx:=kz.of dx sx
 obtain⟨gm,bT,bP,bQ⟩:=kz.sh dc dx sc sx i j
 obtain⟨kG,hk9,hka,re⟩:=dc.ends
 obtain⟨fV,hm9,hma,hmb⟩:=dx.ends
 have hE1:=aof gc it.1 it.2 J
 have wP:=aof gx iu.1 iu.2 J
 have hW1:=akI (a,b) i 10 ai ⟨by have:=qN dc.ca;show rl a<=10;omega,by have:=qN dc.cb;show rl b<=10;omega⟩ hi
 have hW2:=akI (a2,b2) j 10 ai ⟨by have:=qN dx.ca;show rl a2<=10;omega,by have:=qN dx.cb;show rl b2<=10;omega⟩ hj
 have wo:pq.length<=100:=by have h3:=dx.d3;rcases dx.kn with⟨_,h⟩ | ⟨_,_,_,_,_,h⟩<;>omega
 have tX:m.length<=100:=by
  have h3:=dx.d3
  rcases dx.kn with⟨h,_⟩ | ⟨_,_,_,_,h,_⟩
  ·rw [h,jV];omega
  ·rw [h,nL];omega
 have hSh:=axF (iE e m pq (km (a2,b2) j)) (iE d k po (km (a,b) i)) 10 ai bQ bP
 have hMv:=azM e m (qh (fB (iE d k po (km (a,b) i)) (iE e m pq (km (a2,b2) j)))) pq 10 ai (ayU ai bT) wo tX (fun q hq=>by have h:=(aay sx).okR (k:=1) ai ai ai q hq;exact⟨h.1.le ai,Nat.le_trans h.2.1 ai,h.2.2⟩)
 have main:=ayl l i j v k1 k2 k3 d e k m po pq (if v > 0 then pq.map (qg (qh (fB (iE d k po (km (a,b) i)) (iE e m pq (km (a2,b2) j))))) else pq) a b a2 b2 (km (a,b) i) (km (a2,b2) j) (iE d k po (km (a,b) i)) (iE e m pq (km (a2,b2) j)) kG hk9 fV hm9 hka re hma hmb hN yt zb hW1 hW2 hE1 wP hSh hMv (fun h=>if_pos h) (fun h=>if_neg h)
 refine⟨d,k,po,a,b,e,m,_,a2,b2,_,_,_,gc,?_,⟨it.1,it.2,rt⟩,⟨iu.1,iu.2,ru⟩,fun hm=>?_,main⟩
 ·split
  ·rw [aky];exact gm
  ·exact gx
 ·rw [if_pos (of_decide_eq_true hm),aky,aso dx (aay sx) iu.1 iu.2 J,axu]
open vp in
theorem aiP :av Tryz.prog 9 [] (bL true):=by
 have oW:LV.pure (.agg [ah 1,.list 3 ((bl 1 0 1).map ae),.list 12 ((mh (⟨((0:Int):Rat),((0:Int):Rat),0⟩:V3) (⟨((2:Int):Rat),((2:Int):Rat),0⟩:V3)).map aT)])=true:=by simp [LV.pure,aG,aW ao,aW bw]
 have hq2:LV.pure (.agg [ah 1,.list 3 ((bl 1 0 1).map ae),.list 12 ((mh (⟨((0:Int):Rat),((2:Int):Rat),0⟩:V3) (⟨((2:Int):Rat),((0:Int):Rat),0⟩:V3)).map aT)])=true:=by simp [LV.pure,aG,aW ao,aW bw]
 have iT:LV.pure (.agg [iL 0,iL 9,ae 0])=true:=by simp [LV.pure,aG,ao.pure]
 have pZ:LV.pure (.agg [iL 2,iL 100,ae 0])=true:=by simp [LV.pure,aG,ao.pure]
 have hA1:=aw1
 obtain⟨x,r,hA2,hx⟩:=aw2
 have g1:=anu 0 0 2 2 ai ai ai ai
 have g2:=anu 0 2 2 0 ai ai ai ai
 have r0:rl 0<=100:=by decide +kernel
 have hM1:av Tryz.prog 14 [.agg [ah 1,.list 3 ((bl 1 0 1).map ae),.list 12 ((mh (⟨((0:Int):Rat),((0:Int):Rat),0⟩:V3) (⟨((2:Int):Rat),((2:Int):Rat),0⟩:V3)).map aT)],.agg [ah 1,.list 3 ((bl 1 0 1).map ae),.list 12 ((mh (⟨((0:Int):Rat),((2:Int):Rat),0⟩:V3) (⟨((2:Int):Rat),((0:Int):Rat),0⟩:V3)).map aT)],.agg [iL 0,iL 9,ae 0]] (.a7 [.list 4 [fg (([pK],[pK],3,0):gQ)],iL 0]):=by
  have:=ai2 g1 g2 0 9 0 ai ai r0 (ajj 0 9 0 ai ai Rat.le_refl r0)
  rw [abH rfl,abH rfl,hA1] at this;exact this
 have hM2:av Tryz.prog 14 [.agg [ah 1,.list 3 ((bl 1 0 1).map ae),.list 12 ((mh (⟨((0:Int):Rat),((0:Int):Rat),0⟩:V3) (⟨((2:Int):Rat),((2:Int):Rat),0⟩:V3)).map aT)],.agg [ah 1,.list 3 ((bl 1 0 1).map ae),.list 12 ((mh (⟨((0:Int):Rat),((0:Int):Rat),0⟩:V3) (⟨((2:Int):Rat),((2:Int):Rat),0⟩:V3)).map aT)],.agg [iL 2,iL 100,ae 0]] (.a7 [.list 4 ((x :: r).map fg),iL 0]):=by
  have:=ai2 g1 g1 2 100 0 ai ai r0 (ajj 2 100 0 ai ai Rat.le_refl r0)
  rw [abH rfl,hA2] at this;exact this
 refine aN Tryz.func9 ?_
 refine aR ?_
 refine cp aq (afH 0 0 ai ai) ?_
 refine cp aq (afH 2 2 ai ai) ?_
 refine cp aq (aom (⟨((0:Int):Rat),((0:Int):Rat),0⟩:V3) (⟨((2:Int):Rat),((2:Int):Rat),0⟩:V3)) ?_
 refine cp aq (afH 0 2 ai ai) ?_
 refine cp aq (afH 2 0 ai ai) ?_
 refine cp aq (aom (⟨((0:Int):Rat),((2:Int):Rat),0⟩:V3) (⟨((2:Int):Rat),((0:Int):Rat),0⟩:V3)) ?_
 refine bC ?_
 refine ak rfl (show aB _ _ _ _ (.agg [iL 0,iL 9,ae 0]) from .build (zs:=[.v (.int .i64 0),.v (.int .i64 0),ae 0]) (by simpa [lay,LV.au,cF,abr,ao.au,ao.isAgg] using af5) Z35 (by simp only [List.forall_mem_cons];exact⟨⟨_,rfl,rfl,kU⟩,fun _ h=>by cases h⟩)) ?_
 try refine aH ?_
 refine gI rfl (.cons (.pure oW) (.cons (.pure hq2) (.cons (.pure iT) .nil))) (hM1) ?_
 refine bp ?_
 refine ak rfl (show aB _ _ _ _ (.agg [iL 2,iL 100,ae 0]) from .build (zs:=[.v (.int .i64 0),.v (.int .i64 0),ae 0]) (by simpa [lay,LV.au,cF,abr,ao.au,ao.isAgg] using af5) Z35 (by simp only [List.forall_mem_cons];exact⟨⟨_,rfl,rfl,kU⟩,⟨_,rfl,rfl,kU⟩,fun _ h=>by cases h⟩)) ?_
 try refine aH ?_
 refine gI rfl (.cons (.pure oW) (.cons (.pure oW) (.cons (.pure pZ) .nil))) (hM2) ?_
 refine bu ?_
 refine ak (aZ (v:=true) rfl rfl ((rfl)) rfl) (.move _) ?_
 refine ak (aZ (v:=true) rfl rfl ((rfl)) rfl) uF ?_
 refine ak (aZ (v:=true) rfl rfl ((rfl)) rfl) (.bin rfl rfl rfl) ?_
 refine ak rfl (.my rfl ((rfl))) ?_
 refine ar ?_
 refine ak (aZ (v:=true) rfl rfl ((rfl)) rfl) (.move _) ?_
 refine ak (aZ (v:=true) rfl rfl ((rfl)) rfl) (.lQ (n:=0) (r:=(.agg [.list 6 (((([pK],[pK],3,0):gQ)).1.map aD),.list 6 (((([pK],[pK],3,0):gQ)).2.1.map aD),ah ((([pK],[pK],3,0):gQ)).2.2.1,ah ((([pK],[pK],3,0):gQ)).2.2.2])) rfl Tryz.underlying43 nS rfl ai rfl (ag2 _)) ?_
 refine ak (aZ (v:=true) rfl rfl ((rfl)) rfl) l6 ?_
 refine ak (aZ (v:=true) rfl rfl ((rfl)) rfl) ij ?_
 refine ak (aZ (v:=true) rfl rfl ((rfl)) rfl) (.bin rfl rfl rfl) ?_
 refine ak rfl (.my rfl ((rfl))) ?_
 refine ar ?_
 refine ak (aZ (v:=true) rfl rfl ((rfl)) rfl) (.move _) ?_
 refine ak (aZ (v:=true) rfl rfl ((rfl)) rfl) (.bin rfl rfl rfl) ?_
 refine ak rfl (.my rfl ((rfl))) ?_
 refine ar ?_
 refine ak (aZ (v:=true) rfl rfl ((rfl)) rfl) (.move _) ?_
 refine ak (aZ (v:=true) rfl rfl ((rfl)) rfl) uF ?_
 refine ak (aZ (v:=true) rfl rfl ((rfl)) rfl) (.bin rfl rfl rfl) ?_
 refine ak rfl (.my rfl ((rfl))) ?_
 refine ar ?_
 refine ak (aZ (v:=true) rfl rfl ((decide_eq_true aaO)) rfl) (.move _) ?_
 refine ak (aZ (v:=true) rfl rfl ((decide_eq_true aaO)) rfl) (.lQ (n:=0) (r:=(.agg [.list 6 ((x).1.map aD),.list 6 ((x).2.1.map aD),ah (x).2.2.1,ah (x).2.2.2])) rfl Tryz.underlying43 nS rfl ai rfl (ag2 _)) ?_
 refine ak (aZ (v:=true) rfl rfl ((decide_eq_true aaO)) rfl) l6 ?_
 refine ak (aZ (v:=true) rfl rfl ((decide_eq_true aaO)) rfl) ij ?_
 refine ak (aZ (v:=true) rfl rfl ((decide_eq_true aaO)) rfl) (.bin rfl rfl rfl) ?_
 refine ak rfl (.my rfl ((decide_eq_true aaO))) ?_
 refine ax ?_
 exact dA (x:=bL true) (by refine Eq.trans (b:=LV.v (Value.bool (((x.2.2.1:Nat):Int)==1))) rfl ?_;rw [hx];rfl) (.pure rfl)
theorem aBn (c:gQ) (t u:Rat):(iW (c.1.getD 0 default) t && iW (c.2.1.getD 0 default) u)=true↔iA c t u:=by
 unfold iA qn iW
 simp only [Bool.and_eq_true,decide_eq_true_eq]
def inK (l:List gQ) (t u:Rat):Bool:=l.any fun c=>iW (c.1.getD 0 default) t && iW (c.2.1.getD 0 default) u
theorem aBC {l:List gQ} {t u:Rat} {j:Nat} (h:j<l.length):inK (l.take (j+1)) t u=(inK (l.take j) t u || (iW ((l.getD j default).1.getD 0 default) t && iW ((l.getD j default).2.1.getD 0 default) u)):=by
 have e:l.getD j default=l[j]:=by rw [List.getD_eq_getElem?_getD,List.getElem?_eq_getElem h];rfl
 unfold inK
 rw [List.take_add_one,List.any_append,List.getElem?_eq_getElem h,e]
 simp
theorem axp {l:List gQ} {t u:Rat} (h:∃ c∈l,iA c t u):inK l t u=true:=by
 obtain⟨c,hc,g⟩:=h
 exact List.any_eq_true.2 ⟨c,hc,(aBn c t u).2 g⟩
namespace ao7
theorem aH {p q:Prop} (k:q) (e:p=q:=by simp only [e1,e2,e3,e4,p1,p2,p3,q1,q2,q3,l1,t0,t1,r1,r2,r3,r4,Nat.zero_add,Nat.reduceMul,Nat.reduceAdd,b1,b2,b3,b4,b5,b6,i1,i2,i3,i4,i5,i6,Nat.reduceBEq,vW,acS,dW,acH,aP aaA,List.length_map,List.getD_cons_zero,List.getD_cons_succ,List.set_cons_zero,List.set_cons_succ,Nat.reduceEqDiff,reduceIte,if_true,if_false,dW,ec,aP bg,aP bw,aP ao,cH,dO,LV.kill,bN];exact rfl):p:=e.mpr k
end ao7
open ao7 in
theorem asP (l:List Int) (i j depth work width:Int) (hl:l.length<=9223372036854775807/\∀ n∈l,-9223372036854775808<=n/\n<=9223372036854775807) (hi:-9223372036854775808<=i/\i<=9223372036854775807) (hj:-9223372036854775808<=j/\j<=9223372036854775807) (hdp:-9223372036854775808<=depth/\depth<=9223372036854775807) (hwk:-9223372036854775808<=work/\work<=9223372036854775807) (hwi:-9223372036854775808<=width/\width<=9223372036854775807):av Tryz.prog 4 [.list 1 (l.map eW),iL i,iL j,iL depth,iL work,iL width] (bL true):=by
 have bE:=hl.1
 have wW:=axP width
 obtain⟨dn,jG⟩:∃ dn:Nat,depth % 7=(dn:Int):=⟨(depth % 7).toNat,J⟩
 obtain⟨wn,hwn⟩:∃ wn:Nat,work % 40=(wn:Int):=⟨(work % 40).toNat,J⟩
 have kT:dn<=6:=by omega
 have gM:wn<=39:=by omega
 have hPr:=aCT depth work width dn wn jG hwn
 have hpp:LV.pure (.agg [ah dn,ah wn,ae (rG width)])=true:=by simp [LV.pure,aG,ao.pure]
 refine aN Tryz.func4 ?_
 refine bq ?_
 refine cp aK (aBb l bE) ?_
 refine aJ ?_
 refine aC rfl ?_ ?_<;>intro pw rn
 ·refine aL ?_
  refine cp zX (aiP) ?_
  refine a6 ?_
  exact mF
 ·have yu:l.length<=500:=by simpa using rn
  obtain⟨d,k,po,a,b,e,m,pf,aa,bb,tt,uu,mt,hG,hH,⟨ht1,ht2,htr⟩,⟨vg,rL,hur⟩,eA,hTw⟩:=aBQ l i j yu hi hj
  have hM:=ai2 hG hH dn wn (rG width) J J (by have:=wW.2;omega) (ajj dn wn (rG width) J J wW.1 (by have:=wW.2;omega))
  have hK:=kz.cells hG hH (dn:=dn) (w:=wn) (wd:=rG width) J
  have hLn:=az2 (d:=dn) (w:=wn) (wd:=rG width) (lA:=lP d k po) (lB:=lP e m pf) J J (Nat.le_trans (af4 d k po) ai) (Nat.le_trans (af4 e m pf) ai)
  have hCo:mt=true->∃ c∈(oA dn wn (rG width) (lP d k po) (lP e m pf)).2,iA c tt uu:=fun h=>kz.ar8 hG hH ht1 ht2 vg rL (eA h)
  generalize (oA dn wn (rG width) (lP d k po) (lP e m pf)).2=cls at hM hK hLn hCo
  have fG:LV.pure (.agg [ah d,.list 3 (k.map ae),.list 12 (po.map aT)])=true:=by simp [LV.pure,aG,aW ao,aW bw]
  have hcq:LV.pure (.agg [ah e,.list 3 (m.map ae),.list 12 (pf.map aT)])=true:=by simp [LV.pure,aG,aW ao,aW bw]
  clear hG hH eA
  refine aR ?_
  refine cp fH (hTw) ?_
  refine nn ?_
  refine aY 12 an ?_
  refine ak rfl (.fi rfl rfl rfl rfl cs (dG cs rfl) jH) ?_
  refine ak rfl (.fi rfl rfl rfl rfl cs (dG cs rfl) jH) ?_
  refine aJ ?_
  refine cp fH (hPr) ?_
  refine gI rfl (.cons (.pure fG) (.cons (.pure hcq) (.cons (.pure hpp) .nil))) hM ?_
  refine mV ?_
  refine jo (((aw.kill _ 13).trans (aw.kill _ 14))) ?_
  refine jP (fun(jj:Nat) (dM:Bool) L=>((((((((St.mk L.slot (hp [(15,⟨3,[ae tt],true⟩),(16,⟨3,[ae uu],true⟩)])).put (some 15) (.az 15 3 0 0)).put (some 16) (.az 16 3 0 0)).put (some 17) (bL mt)).put (some 18) (.list 4 (cls.map fg))).put (some 19) (iL 0)).put (some 20) (bL dM)).put (some 21) (ah jj))) (fun jj dM=>jj<=cls.length/\dM=inK (cls.take jj) tt uu) (fun jj dM=>cls.length-jj) 0 false ⟨Nat.zero_le _,rfl⟩ ?_
  rintro jj dM L1 ⟨hj,hIn⟩
  refine bq ?_
  refine aC rfl ?_ ?_<;>intro yO zy
  ·have gY:jj<cls.length:=by omega
   obtain⟨s,r,es,er,rs1,rs2,rr1,rr2,_,_⟩:=hK (cls.getD jj default) (by rw [List.getD_eq_getElem?_getD,List.getElem?_eq_getElem gY];exact List.getElem_mem _)
   have est:=aBC (l:=cls) (t:=tt) (u:=uu) gY
   rw [es,er] at est
   simp only [List.getD_cons_zero] at est
   have ecj:cls.getD jj default=cls[jj]:=by rw [List.getD_eq_getElem?_getD,List.getElem?_eq_getElem gY];rfl
   have hcj:(cls.map fg)[((jj:Nat):Int).toNat]?=some (.agg [.list 6 ([s].map aD),.list 6 ([r].map aD),ah (cls.getD jj default).2.2.1,ah (cls.getD jj default).2.2.2]):=by
    rw [Int.toNat_natCast,List.getElem?_map,List.getElem?_eq_getElem gY,<-ecj]
    show some (fg (cls.getD jj default))=_
    unfold fg
    rw [es,er]
   refine bq ?_
   refine ak rfl (.lQ (n:=((jj:Nat):Int)) (r:=.agg [.list 6 ([s].map aD),.list 6 ([r].map aD),ah (cls.getD jj default).2.2.1,ah (cls.getD jj default).2.2.2]) rfl Tryz.underlying43 nS rfl J hcj rfl) ?_
   refine a6 ?_
   refine ak (aZ (v:=false) rfl rfl ((rfl)) rfl) (.move _) ?_
   refine ak (aZ (v:=false) rfl rfl ((rfl)) rfl) (.move _) ?_
   refine ak (aZ (v:=false) rfl rfl ((rfl)) rfl) (.lQ (n:=((jj:Nat):Int)) (r:=.agg [.list 6 ([s].map aD),.list 6 ([r].map aD),ah (cls.getD jj default).2.2.1,ah (cls.getD jj default).2.2.2]) rfl Tryz.underlying43 nS rfl J hcj rfl) ?_
   refine ak (aZ (v:=false) rfl rfl ((rfl)) rfl) l6 ?_
   refine ak (aZ (v:=false) rfl rfl ((rfl)) rfl) ij ?_
   refine ak (aZ (v:=false) rfl rfl ((rfl)) rfl) uF ?_
   refine ak (aZ (v:=false) rfl rfl ((rfl)) rfl) (.bin rfl rfl rfl) ?_
   refine ak rfl (.oX rfl ((rfl))) ?_
   refine aL ?_
   refine eF (b:=_) rfl (rfl) ?_
   refine aL ?_
   refine aY 24 an ?_
   refine aL ?_
   refine dy 69 rfl ?_ ?_<;>intro xn h69
   ·refine agt ?_
    refine ak rfl cB ?_
    refine aJ ?_
    exact fZ (jj+1) true ⟨J,by rw [est,<-hIn,(xn:dM=true)];rfl⟩
   ·refine aL ?_
    refine ak (aZ (v:=false) rfl rfl (xn) rfl) (.lQ (n:=((jj:Nat):Int)) (r:=.agg [.list 6 ([s].map aD),.list 6 ([r].map aD),ah (cls.getD jj default).2.2.1,ah (cls.getD jj default).2.2.2]) rfl Tryz.underlying43 nS rfl J hcj rfl) ?_
    refine aL ?_
    refine ak (aZ (v:=false) rfl rfl (xn) rfl) (.lQ (n:=0) (r:=aD s) rfl Tryz.underlying49 lD rfl ai rfl (bS.au _)) ?_
    refine aL ?_
    refine cp aq (aku s tt J J) ?_
    refine ar ?_
    refine dy 79 rfl ?_ ?_<;>intro yb h79
    ·refine aL ?_
     refine ak (aZ (v:=true) rfl rfl (yb) rfl) (.lQ (n:=((jj:Nat):Int)) (r:=.agg [.list 6 ([s].map aD),.list 6 ([r].map aD),ah (cls.getD jj default).2.2.1,ah (cls.getD jj default).2.2.2]) rfl Tryz.underlying43 nS rfl J hcj rfl) ?_
     refine aL ?_
     refine ak (aZ (v:=true) rfl rfl (yb) rfl) (.lQ (n:=0) (r:=aD r) rfl Tryz.underlying49 lD rfl ai rfl (bS.au _)) ?_
     refine aL ?_
     refine cp aq (aku r uu J J) ?_
     refine bf ?_
     refine ak rfl cB ?_
     refine aJ ?_
     exact fZ (jj+1) (iW r uu) ⟨J,by rw [est,<-hIn,(xn:dM=false),(yb:iW s tt=true)];simp⟩
    ·refine im ?_
     refine ak rfl cB ?_
     refine aJ ?_
     exact fZ (jj+1) false ⟨J,by rw [est,<-hIn,(xn:dM=false),(yb:iW s tt=false)];rfl⟩
  ·obtain rfl:jj=cls.length:=by omega
   rw [List.take_length] at hIn
   refine bC ?_
   refine ak (aZ (v:=true) rfl rfl ((rfl)) rfl) (.move _) ?_
   refine ak (aZ (v:=true) rfl rfl ((rfl)) rfl) (.move _) ?_
   refine dy 95 rfl ?_ ?_<;>intro aoO h95
   ·refine aL ?_
    refine ak (aZ (v:=true) rfl rfl ((rfl)) rfl) (.my rfl (aoO)) ?_
    refine ak rfl (.my rfl ((rfl))) ?_
    refine ar ?_
    refine cp zX (aiP) ?_
    refine a6 ?_
    exact mF
   ·refine aL ?_
    refine ak (aZ (v:=true) rfl rfl ((rfl)) rfl) (.oX rfl (aoO)) ?_
    refine ak rfl (.my rfl ((rfl))) ?_
    refine ar ?_
    refine dy 100 rfl ?_ ?_<;>intro aAJ aEc
    ·refine cp zX (aiP) ?_
     refine a6 ?_
     exact mF
    ·exfalso
     have ev:=axp (hCo (by simpa using aAJ))
     rw [<-hIn] at ev
     simp_all
end Go.Proofs.YtckppbhafancnaaGreat
end
