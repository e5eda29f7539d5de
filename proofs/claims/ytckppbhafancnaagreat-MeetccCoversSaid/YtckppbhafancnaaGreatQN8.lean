/- Texts J2, J4, J5, J6, J7, J8, A12, J9, J10 of this proof, joined. -/
import Derived.Test.YtckppbhafancnaaGreatQN7
set_option linter.unusedVariables false
set_option linter.unusedSimpArgs false
section
set_option linter.unusedVariables false
set_option linter.unusedSimpArgs false
set_option maxHeartbeats 8000000
set_option maxRecDepth 100000
attribute [local irreducible] Go.Lg.opsL Go.Lg.cx Go.Lg.nn Go.Lg.oB
namespace Go.Proofs.YtckppbhafancnaaGreat
open Go.Lg
structure ivK (d:Nat) (k:List Rat) (pc:Nat) (t:Rat):Prop where
 d6:d<=6
 kl:2*d+2<=k.length
 k9:k.length<=100
 kr:∀ x∈k,rl x<=100
 tr:rl t<=1000
 h1:k.getD 0 0<=t
 h2:t<=k.getD (k.length-1) 0
 p1:d<=pc
 p2:pc+d+1<k.length
 le:k.getD pc 0<=t
 gt:∀ i,pc<i->i+d+1<k.length->t<k.getD i 0
def ie (k:List Rat) (d pc:Nat) (t:Rat):List Rat:=(List.range (d+1)).map fun i=>eG k pc t d (pc-d+i)
theorem ah5 (k:List Rat) (d pc:Nat) (t:Rat):(ie k d pc t).length=d+1:=by simp [ie]
theorem ahL {k:List Rat} {d pc:Nat} {t:Rat} {i:Nat} (h:i<d+1):(ie k d pc t).getD i 0=eG k pc t d (pc-d+i):=aiC h
theorem azm {k:List Rat} {d pc:Nat} {t:Rat} {i:Nat} (h:i<d+1):(ie k d pc t).take i++[eG k pc t d (pc-d+i)]=(ie k d pc t).take (i+1):=by
 rw [<-ahL h];exact zC (by rw [ah5];exact h)
theorem akT {k:List Rat} {d pc:Nat} {t:Rat} (h:ivK d k pc t):∀ x∈ie k d pc t,rl x<=632000:=fun x hx=>by
 obtain⟨i,hi,rfl⟩:=List.mem_map.1 hx
 have h1:=adA (at_:=pc) (R:=1000) ai (fun x hx=>Nat.le_trans (h.kr x hx) ai) h.tr d (pc-d+i)
 have h6:=h.d6
 have xc:2 ^ d<=2 ^ 6:=Nat.pow_le_pow_right ai h6
 omega
def fj (k:List Rat) (d pc:Nat) (t:Rat) (po:List aF) (c i:Nat):Rat:=sm i fun j=>(ie k d pc t).getD j 0*(if c<3 then(bj po c).getD (pc-d+j) 0 else(aX po).getD (pc-d+j) 0)
theorem aq4 {k:List Rat} {d pc R:Nat} {t:Rat} {po:List aF} (h6:d<=6) (hR:R<=40000) (eQ:∀ q∈po,oF R q) (hn:∀ x∈ie k d pc t,rl x<=632000) (i:Nat) (hi:i<=d+1) (c:Nat):rl (fj k d pc t po c i)<=6000000:=by
 have gn:∀ c,∀ z∈bj po c,rl z<=100000:=fun c z hz=>by have:=adN eQ c z hz;omega
 have gw:∀ z∈aX po,rl z<=100000:=fun z hz=>by have:=abZ eQ z hz;omega
 have h1:=aoi (f:=fun j=>(ie k d pc t).getD j 0*(if c<3 then(bj po c).getD (pc-d+j) 0 else(aX po).getD (pc-d+j) 0)) (R:=732000) ai i (fun j hj=>by
  have a1:=fR ai hn j
  have a2:=fR ai (gn c) (pc-d+j)
  have a3:=fR ai gw (pc-d+j)
  have m:=cO ((ie k d pc t).getD j 0) (if c<3 then(bj po c).getD (pc-d+j) 0 else(aX po).getD (pc-d+j) 0)
  split at m<;>split<;>first | omega | contradiction)
 have h2:i*(732000+1)<=7*(732000+1):=Nat.mul_le_mul_right _ J
 unfold fj
 omega
theorem at3 {k:List Rat} {d pc i:Nat} {t:Rat} {po:List aF} (h:pc-d+i<po.length) :
  fj k d pc t po 0 i+(ie k d pc t).getD i 0*((po.getD (pc-d+i) default).w*(po.getD (pc-d+i) default).p.x)=fj k d pc t po 0 (i+1)/\fj k d pc t po 1 i+(ie k d pc t).getD i 0*((po.getD (pc-d+i) default).w*(po.getD (pc-d+i) default).p.y)=fj k d pc t po 1 (i+1) /\
  fj k d pc t po 2 i+(ie k d pc t).getD i 0*((po.getD (pc-d+i) default).w*(po.getD (pc-d+i) default).p.z)=fj k d pc t po 2 (i+1)/\fj k d pc t po 3 i+(ie k d pc t).getD i 0*(po.getD (pc-d+i) default).w=fj k d pc t po 3 (i+1):=by
 refine⟨?_,?_,?_,?_⟩
 ·unfold fj;rw [sm,if_pos ai,aaj h];rfl
 ·unfold fj;rw [sm,if_pos ai,aaj h];rfl
 ·unfold fj;rw [sm,if_pos ai,aaj h];rfl
 ·unfold fj;rw [sm,if_neg ai,abc h]
theorem ay3 {k:List Rat} {d pc:Nat} {t:Rat} {po:List aF} (hp:d<=pc) (hl:pc+1<=po.length) (hs:∀ i j,i<=pc->pc<j->j<=pc+d->k.getD i 0≠k.getD j 0):(∀ c,c<3->fj k d pc t po c (d+1)=da k d pc (bj po c) (List.replicate d t))/\fj k d pc t po 3 (d+1)=da k d pc (aX po) (List.replicate d t):=by
 refine⟨fun c hc=>?_,?_⟩
 ·rw [<-abr (t:=t) (v:=bj po c) (by rw [n8];exact hl) hp hs]
  unfold fj
  exact wS _ _ _ fun i hi=>by rw [if_pos hc,ahL hi]
 ·rw [<-abr (t:=t) (v:=aX po) (by rw [me];exact hl) hp hs]
  unfold fj
  exact wS _ _ _ fun i hi=>by rw [if_neg ai,ahL hi]
open fN in
theorem aAy (q:aF) (R:Nat) (hR:R<=1000000) (h:oF R q):av Tryz.prog 143 [aT q] (.agg [ae (q.w*q.p.x),ae (q.w*q.p.y),ae (q.w*q.p.z),ae q.w]):=by
 obtain⟨hp,hw,kI⟩:=h
 refine aN Tryz.func143 (ht:=(fun g=>LV.cP g _ pu)) ?_
 refine bu ?_
 refine cp aq (aj3 q.w q.p R J hw hp) ?_
 refine nh ?_
 exact fW [] rfl rfl rfl cs (dJ cs rfl) agW (.pure pu)
namespace aqW
theorem aH {p q:Prop} (k:q) (e:p=q:=by simp only [e1,e2,e3,e4,p1,p2,p3,q1,q2,q3,l1,t0,t1,r1,r2,r3,r4,Nat.zero_add,Nat.reduceMul,Nat.reduceAdd,b1,b2,b3,b4,b5,b6,i1,i2,i3,i4,i5,i6,Nat.reduceBEq,rW,List.length_map,cy,List.set_cons_zero,List.set_cons_succ,Nat.reduceEqDiff,reduceIte,if_true,if_false,dU,eo,aP bg,aP bw,aP ao,cH,dO,LV.kill,bN];exact rfl):p:=e.mpr k
end aqW
open aqW in
theorem aqk (d:Nat) (k:List Rat) (pc:Nat) (t:Rat) (hI:ivK d k pc t):av Tryz.prog 63 [.list 3 (k.map ae),ah d,ae t] (.a7 [ah pc,iL 0]):=by
 obtain⟨hd,fY,hk9,jb,ht,h1,h2,iM,pj,hle,zS⟩:=hI
 have pS:∀ i,rl (k.getD i 0)<=100:=fR ai jb
 have g0:=pS 0
 have g9:=pS (k.length-1)
 have c1:¬fi t (k.getD 0 0)<0:=fun e=>by have:=sG.2 h1;omega
 have c2:¬fi t (k.getD (k.length-1) 0) > 0:=fun e=>by have:=acy.2 h2;omega
 have rW:((k.length:Nat):Int).toNat-1=k.length-1:=by omega
 refine aN Tryz.func63 (ht:=(jh rfl rfl)) ?_
 refine bo ?_
 refine ak rfl jz ?_
 refine aZ ?_
 refine aY 15 an ?_
 refine ax ?_
 try simp only [t1,cy]
 refine cp aq (acu t (k.getD 0 0) J) ?_
 refine aL ?_
 refine dy 19 rfl ?_ ?_<;>intro ae8 h19
 ·omega
 ·refine aZ ?_
  try simp only [t1,cy,rW]
  refine cp aq (acu t (k.getD (k.length-1) 0) J) ?_
  refine ax ?_
  refine aC rfl ?_ ?_<;>intro u4 h27
  ·omega
  ·refine az ?_
   refine ak rfl (.bin rfl rfl (wo (c:=k.length-1-d) J J)) ?_
   refine ak rfl jz ?_
   refine aZ ?_
   refine dG (fun(i:Nat) L=>((((St.mk L.slot (hp [(5,⟨3,[ae t],true⟩)])).put (some 0) (.list 3 (k.map ae))).put (some 5) (.aA 5 3 0 0)).put (some 9) (ah i))) (fun i=>pc<=i/\i+d+1<k.length) (fun i=>i) (k.length-1-d-1) ⟨J,J⟩ ?_
   rintro i L1 ⟨qx,dA⟩
   refine aL ?_
   refine aY 11 an ?_
   refine aJ ?_
   refine dy 34 rfl ?_ ?_<;>intro aeG yL
   ·refine aZ ?_
    try simp only [t1,cy,Int.toNat_natCast]
    refine cp aq (acu t (k.getD i 0) (by have:=pS i;omega)) ?_
    refine ax ?_
    refine aC rfl ?_ ?_<;>intro ayZ h42
    ·have bE:t<k.getD i 0:=aaC.1 h42
     have aQ:i≠pc:=fun e=>by subst e;grind
     refine aZ ?_
     refine ak rfl jz ?_
     refine ax ?_
     exact iJ (i-1) ⟨J,J⟩
    ·obtain rfl:pc=i:=by
      rcases Nat.lt_or_ge pc i with g | g
      ·have e1:=aaC.2 (zS i g dA)
       exfalso
       first | omega | exact h42 e1
      ·omega
     refine dp ?_
     exact uy
   ·obtain rfl:pc=i:=by omega
    refine aZ ?_
    try simp only [t1,cy,Int.toNat_natCast]
    refine nh ?_
    exact uy
namespace aqV
theorem aH {p q:Prop} (k:q) (e:p=q:=by simp only [e1,e2,e3,e4,p1,p2,p3,q1,q2,q3,l1,t0,t1,r1,r2,r3,r4,Nat.zero_add,Nat.reduceMul,Nat.reduceAdd,b1,b2,b3,b4,b5,b6,i1,i2,i3,i4,i5,i6,Nat.reduceBEq,gr,fB,List.length_map,cy,kW,kJ,iA,List.length_cons,List.length_nil,List.nil_append,List.map_nil,List.take_nil,List.append_nil,List.set_cons_zero,List.set_cons_succ,Nat.reduceEqDiff,reduceIte,if_true,if_false,dU,eo,aP bg,aP bw,aP ao,cH,dO,LV.kill,bN];exact rfl):p:=e.mpr k
end aqV
open aqV in
theorem aAi (d:Nat) (k:List Rat) (pc:Nat) (t:Rat) (hI:ivK d k pc t):av Tryz.prog 142 [.list 3 (k.map ae),ah d,ae t] (.a7 [ah (pc-d),.list 3 ((ie k d pc t).map ae),iL 0]):=by
 have pz:=hI
 obtain⟨hd,fY,hk9,jb,ht,h1,h2,iM,pj,hle,zS⟩:=hI
 have pS:∀ i,rl (k.getD i 0)<=100:=fR ai jb
 have kN:=ah5 k d pc t
 refine aN Tryz.func142 (ht:=(afL rfl (eB ao _ _) rfl)) ?_
 have gr:True:=trivial
 have fB:True:=trivial
 refine dp ?_
 refine cp fJ (aqk d k pc t pz) ?_
 refine dj ?_
 refine aC rfl ?_ ?_<;>intro yc h21
 ·first | exact h21.elim | cases yc
 ·refine bu ?_
  refine ak rfl (.bin rfl rfl (wo (c:=pc-d) J J)) ?_
  refine ax ?_
  refine ju (aw.own (t:=11) 39 3 rfl rfl) ?_
  refine dG (fun(i:Nat) L=>(((((((St.mk L.slot (hp [(5,⟨3,[ae t],true⟩),(39,⟨3,((ie k d pc t).take i).map ae,true⟩)])).put (some 0) (.list 3 (k.map ae))).put (some 1) (ah d)).put (some 5) (.aA 5 3 0 0)).put (some 9) (ah pc)).put (some 11) (.ref 39 3 0 i)).put (some 12) (ah (pc-d+i)))) (fun i=>i<=d+1) (fun i=>d+1-i) 0 (Nat.zero_le _) ?_
  rintro i L1 hi
  refine bf ?_
  refine aC rfl ?_ ?_<;>intro uJ ow
  ·have dA:i<d+1:=by omega
   have gr:=azm (k:=k) (d:=d) (pc:=pc) (t:=t) dA
   have fB:(((ie k d pc t).take i).map ae).take i=((ie k d pc t).take i).map ae:=List.take_of_length_le wI
   refine bo ?_
   refine cp am5 (ajZ k pc t J J (fun x hx=>Nat.le_trans (jb x hx) ai) J d J (pc-d+i) J) ?_
   refine ar ?_
   refine bI rfl (.ga (d:=39) (news:=[ae (eG k pc t d (pc-d+i))]) rfl rfl rfl rfl bm (.inl rfl) ai Tryz.underlying25 Tryz.underlying25 jY cJ rfl kA (.inl ⟨38,0,_,rfl,by decide,rfl,rfl,by simp,rfl,by simp [aG,ao.pure]⟩) bm bm ai) ?_
   refine ax ?_
   refine cq (aw.kill _ 38) ?_
   refine ar ?_
   refine ak rfl cB ?_
   refine aJ ?_
   exact jS
  ·obtain rfl:i=d+1:=by omega
   have hE:(ie k d pc t).take (d+1)=(ie k d pc t):=List.take_of_length_le J
   refine bq ?_
   refine ak rfl (.bin rfl rfl (wo (c:=pc-d) J J)) ?_
   refine aR ?_
   simp only [hE]
   exact zZ [39] rfl rfl (.pure rfl) rfl (eM ao rfl rfl J) rfl (.pure rfl)
namespace aob
theorem aH {p q:Prop} (k:q) (e:p=q:=by simp only [e1,e2,e3,e4,p1,p2,p3,q1,q2,q3,l1,t0,t1,r1,r2,r3,r4,Nat.zero_add,Nat.reduceMul,Nat.reduceAdd,b1,b2,b3,b4,b5,b6,i1,i2,i3,i4,i5,i6,Nat.reduceBEq,List.length_map,cy,kN,fX,oa,va,List.set_cons_zero,List.set_cons_succ,Nat.reduceEqDiff,reduceIte,if_true,if_false,dU,eo,aP bg,aP bw,aP ao,cH,dO,LV.kill,bN];exact rfl):p:=e.mpr k
end aob
open aob in
theorem auf (d:Nat) (k:List Rat) (pc:Nat) (t:Rat) (hI:ivK d k pc t) (po:List aF) (R:Nat) (hR:R<=40000) (hl:po.length+d+1=k.length) (eQ:∀ q∈po,oF R q):av Tryz.prog 65 [.agg [ah d,.list 3 (k.map ae),.list 12 (po.map aT)],ae t] (.agg [ae (fj k d pc t po 0 (d+1)),ae (fj k d pc t po 1 (d+1)),ae (fj k d pc t po 2 (d+1)),ae (fj k d pc t po 3 (d+1))]):=by
 have pz:=hI
 obtain⟨hd,fY,hk9,jb,ht,h1,h2,iM,pj,hle,zS⟩:=hI
 have pS:∀ i,rl (k.getD i 0)<=100:=fR ai jb
 have kN:=ah5 k d pc t
 have aoA:=eQ
 have fX:∀ j,fj k d pc t po j 0=0:=fun j=>rfl
 have hnr:=akT pz
 have fG:LV.pure (.agg [ah d,.list 3 (k.map ae),.list 12 (po.map aT)])=true:=by simp [LV.pure,aG,aW ao,aW bw]
 refine aN Tryz.func65 (ht:=(fun g=>LV.cP g _ pu)) ?_
 have va:True:=trivial
 refine dj ?_
 refine cp fJ (aAi d k pc t pz) ?_
 refine xT ?_
 refine dG (fun(i:Nat) L=>(((((((St.mk L.slot (hp [(2,⟨3,[.agg [ah d,.list 3 (k.map ae),.list 12 (po.map aT)]],true⟩),(3,⟨3,[ae t],true⟩),(4,⟨12,[.agg [ae 0,ae 0,ae 0,ae 0]],true⟩),(8,⟨12,[.agg [ae (fj k d pc t po 0 i),ae (fj k d pc t po 1 i),ae (fj k d pc t po 2 i),ae (fj k d pc t po 3 i)]],true⟩)])).put (some 2) (.aA 2 3 0 0)).put (some 4) (.aA 4 12 0 0)).put (some 5) (ah (pc-d))).put (some 6) (.list 3 ((ie k d pc t).map ae))).put (some 8) (.aA 8 12 0 0)).put (some 9) (ah i))) (fun i=>i<=d+1) (fun i=>d+1-i) 0 (Nat.zero_le _) ?_
 rintro i L1 hi
 refine bq ?_
 refine aC rfl ?_ ?_<;>intro af0 x9
 ·have dA:pc-d+i<po.length:=by omega
  have eQ:=eQ _ (qM dA)
  have hng:=fR ai hnr i
  have fg:=aq4 (k:=k) (d:=d) (pc:=pc) (t:=t) (po:=po) hd hR aoA hnr i J
  have cQ:=at3 (k:=k) (d:=d) (pc:=pc) (t:=t) (po:=po) dA
  obtain⟨⟨ok1,ok2,ok3⟩,ok4,_⟩:=eQ
  have va:(((pc-d:Nat):Int)+(i:Int)).toNat=pc-d+i:=by omega
  have eQ:=aoA _ (qM dA)
  have bb0:=fg 0
  have bb1:=fg 1
  have bb2:=fg 2
  have bb3:=fg 3
  have m0:=cO ((ie k d pc t).getD i 0) ((po.getD (pc-d+i) default).w*(po.getD (pc-d+i) default).p.x)
  have m1:=cO ((ie k d pc t).getD i 0) ((po.getD (pc-d+i) default).w*(po.getD (pc-d+i) default).p.y)
  have m2:=cO ((ie k d pc t).getD i 0) ((po.getD (pc-d+i) default).w*(po.getD (pc-d+i) default).p.z)
  have m3:=cO ((ie k d pc t).getD i 0) (po.getD (pc-d+i) default).w
  have n0:=cO (po.getD (pc-d+i) default).w (po.getD (pc-d+i) default).p.x
  have n1:=cO (po.getD (pc-d+i) default).w (po.getD (pc-d+i) default).p.y
  have n2:=cO (po.getD (pc-d+i) default).w (po.getD (pc-d+i) default).p.z
  have hA0:av Tryz.prog 59 [ae (fj k d pc t po 0 i),ae ((ie k d pc t).getD i 0*((po.getD (pc-d+i) default).w*(po.getD (pc-d+i) default).p.x))] (ae (fj k d pc t po 0 (i+1))):=by
   rw [<-cQ.1];exact nz _ _ J
  have hA1:av Tryz.prog 59 [ae (fj k d pc t po 1 i),ae ((ie k d pc t).getD i 0*((po.getD (pc-d+i) default).w*(po.getD (pc-d+i) default).p.y))] (ae (fj k d pc t po 1 (i+1))):=by
   rw [<-cQ.2.1];exact nz _ _ J
  have hA2:av Tryz.prog 59 [ae (fj k d pc t po 2 i),ae ((ie k d pc t).getD i 0*((po.getD (pc-d+i) default).w*(po.getD (pc-d+i) default).p.z))] (ae (fj k d pc t po 2 (i+1))):=by
   rw [<-cQ.2.2.1];exact nz _ _ J
  have hA3:av Tryz.prog 59 [ae (fj k d pc t po 3 i),ae ((ie k d pc t).getD i 0*(po.getD (pc-d+i) default).w)] (ae (fj k d pc t po 3 (i+1))):=by
   rw [<-cQ.2.2.2];exact nz _ _ J
  refine bB ?_
  refine ak rfl wK ?_
  refine aL ?_
  try simp only [t1,va]
  refine cp aK (aAy (po.getD (pc-d+i) default) R J eQ) ?_
  refine bB ?_
  refine bF ?_
  refine aR ?_
  refine bY (b:=_) rfl ai ?_
  refine ax ?_
  refine aY 14 an ?_
  refine bo ?_
  try simp only [t1,cy]
  refine cp aq (rE ((ie k d pc t).getD i 0) ((po.getD (pc-d+i) default).w*(po.getD (pc-d+i) default).p.x) J) ?_
  refine cp aq (hA0) ?_
  refine bo ?_
  refine bF ?_
  refine aR ?_
  refine bY (b:=_) rfl ai ?_
  refine ax ?_
  refine aY 14 an ?_
  refine bo ?_
  try simp only [t1,cy]
  refine cp aq (rE ((ie k d pc t).getD i 0) ((po.getD (pc-d+i) default).w*(po.getD (pc-d+i) default).p.y) J) ?_
  refine cp aq (hA1) ?_
  refine bo ?_
  refine bF ?_
  refine aR ?_
  refine bY (b:=_) rfl ai ?_
  refine ax ?_
  refine aY 14 an ?_
  refine bo ?_
  try simp only [t1,cy]
  refine cp aq (rE ((ie k d pc t).getD i 0) ((po.getD (pc-d+i) default).w*(po.getD (pc-d+i) default).p.z) J) ?_
  refine cp aq (hA2) ?_
  refine bo ?_
  refine bF ?_
  refine aR ?_
  refine bY (b:=_) rfl ai ?_
  refine ax ?_
  refine aY 14 an ?_
  refine bo ?_
  try simp only [t1,cy]
  refine cp aq (rE ((ie k d pc t).getD i 0) (po.getD (pc-d+i) default).w J) ?_
  refine cp aq (hA3) ?_
  refine bo ?_
  refine bF ?_
  refine aR ?_
  refine eE (b:=_) rfl ai ?_
  refine az ?_
  refine cq (aw.kill _ 10) ?_
  refine ar ?_
  refine ak rfl cB ?_
  refine aJ ?_
  exact jS
 ·obtain rfl:i=d+1:=by omega
  refine bu ?_
  exact fW [] rfl rfl rfl cs (dJ cs rfl) agW (.pure pu)
open fN in
theorem avl (d:Nat) (k:List Rat) (pc:Nat) (t:Rat) (hI:ivK d k pc t) (po:List aF) (R:Nat) (hR:R<=40000) (hl:po.length+d+1=k.length) (eQ:∀ q∈po,oF R q) (hs:∀ i j,i<=pc->pc<j->j<=pc+d->k.getD i 0≠k.getD j 0):av Tryz.prog 19 [.agg [ah d,.list 3 (k.map ae),.list 12 (po.map aT)],ae t] (.a7 [aS (vo k d pc po t),iL 0]):=by
 have hb:=aq4 (k:=k) (d:=d) (pc:=pc) (t:=t) (po:=po) hI.d6 hR eQ (akT hI) (d+1) (Nat.le_refl _)
 have he:=ay3 (t:=t) hI.p1 (show pc+1<=po.length by have:=hI.p2;omega) hs
 have hDr:av Tryz.prog 64 [.agg [ae (fj k d pc t po 0 (d+1)),ae (fj k d pc t po 1 (d+1)),ae (fj k d pc t po 2 (d+1)),ae (fj k d pc t po 3 (d+1))]] (aT ⟨vo k d pc po t,da k d pc (aX po) (List.replicate d t)⟩):=by
  have:=atS _ _ _ _ 6000000 ai (hb 0) (hb 1) (hb 2) (hb 3)
  rw [he.1 0 ai,he.1 1 ai,he.1 2 ai,he.2] at this ⊢
  exact this
 have agS:LV.pure (.agg [ae (fj k d pc t po 0 (d+1)),ae (fj k d pc t po 1 (d+1)),ae (fj k d pc t po 2 (d+1)),ae (fj k d pc t po 3 (d+1))])=true:=by simp [LV.pure,aG,ao.pure]
 have fG:LV.pure (.agg [ah d,.list 3 (k.map ae),.list 12 (po.map aT)])=true:=by simp [LV.pure,aG,aW ao,aW bw]
 refine aN Tryz.func19 (ht:=(jh (bg.pure _) rfl)) ?_
 refine mH ?_
 refine cp fJ (aqk d k pc t hI) ?_
 refine dp ?_
 refine aC rfl ?_ ?_<;>intro rz rp
 ·first | exact rp.elim | cases rz
 ·refine az ?_
  refine cp aq (auf d k pc t hI po R hR hl eQ) ?_
  refine cp aK (hDr) ?_
  refine az ?_
  exact sN [] rfl rfl rfl cs (dJ cs rfl) ij (.pure pu) rfl (.pure rfl)
theorem ck.mono {D N M:Nat} {x:Rat} (h:ck D N x) (hN:N<=M):ck D M x:=by
 obtain⟨z,e,g⟩:=h
 exact⟨z,e,J⟩
theorem aao {z:Int} {N:Nat} (h:z.natAbs<=N):ck 1 N (z:Rat):=⟨z,by rw [show (((1:Nat):Int):Rat)=1 from rfl,Rat.mul_one],h⟩
theorem ck.ajY {D N E M:Nat} {x y:Rat} (h:ck D N x) (g:ck E M y):ck (D*E) (N*M) (x*y):=by
 obtain⟨z,e,hz⟩:=h
 obtain⟨u,f,hu⟩:=g
 refine⟨z*u,?_,?_⟩
 ·rw [yz,Rat.intCast_mul,<-e,<-f];grind
 ·rw [Int.natAbs_mul];exact Nat.mul_le_mul hz hu
theorem ck.af9 {D N M:Nat} {x y:Rat} (h:ck D N x) (g:ck D M y):ck D (N+M) (x+y):=by
 obtain⟨z,e,hz⟩:=h
 obtain⟨u,f,hu⟩:=g
 refine⟨z+u,?_,?_⟩
 ·rw [Rat.intCast_add,<-e,<-f];grind
 ·have:=Int.natAbs_add_le z u;omega
theorem ck.alV {D N M:Nat} {x y:Rat} (h:ck D N x) (g:ck D M y):ck D (N+M) (x-y):=by
 obtain⟨z,e,hz⟩:=h
 obtain⟨u,f,hu⟩:=g
 refine⟨z-u,?_,?_⟩
 ·rw [Rat.intCast_sub,<-e,<-f];grind
 ·have:=Int.natAbs_sub_le z u;omega
theorem ay4 {D N:Nat} {w:Rat} (h:ck D N w) (h0:0<w) (hD:0<D):∃ M:Nat,0<M/\M<=N/\w*((D:Int):Rat)=((M:Int):Rat):=by
 obtain⟨z,e,g⟩:=h
 have hz:0<z:=Rat.intCast_pos.1 (by rw [<-e];exact Rat.mul_pos h0 (ab6 hD))
 exact⟨z.toNat,J,J,by rw [e,Int.toNat_of_nonneg J]⟩
theorem ai0 {D N M:Nat} {n w:Rat} (h:ck D N n) (hM:w*((D:Int):Rat)=((M:Int):Rat)) (hw:w≠0):ck M N (1/w*n):=by
 obtain⟨z,e,g⟩:=h
 refine⟨z,?_,g⟩
 rw [<-hM,<-e]
 have:1/w*w=1:=Rat.div_mul_cancel hw
 have e2:1/w*n*(w*((D:Int):Rat))=(1/w*w)*(n*((D:Int):Rat)):=by grind
 rw [e2,this,Rat.one_mul]
theorem ahD {M Z:Nat} {x p q:Rat} (hM:0<M) (hx:ck M Z x) (hp:ck M Z p) (hq:ck M Z q) (h1:p<=x) (h2:x<=q) (hpq:p<q):∃ E,0<E/\E<=2*Z/\uQ E ((x-p)/(q-p)):=by
 obtain⟨X,ex,_⟩:=hx
 obtain⟨P,ep,gp⟩:=hp
 obtain⟨Q,eq_,gq⟩:=hq
 have bE:0<Q-P:=by
  have e:((Q-P:Int):Rat)=(q-p)*((M:Int):Rat):=by rw [Rat.intCast_sub,<-ep,<-eq_];grind
  exact Rat.intCast_pos.1 (by rw [e];exact Rat.mul_pos cA (ab6 hM))
 exact⟨(Q-P).toNat,J,J,az6 hM ex ep eq_ h1 h2 hpq⟩
theorem azG {po:List aF} {d D N E:Nat} (h:jQ po D N) (hl:po.length=d+1) {x:Rat} (hx:uQ E x) (hE:0<E) (h0:0<=x) (h1:x<=1):∃ M,0<M/\M<=N*E ^ d/\∀ k,k<3->ck M (N*E ^ d) ((mS po x).at k):=by
 have l1:(aX po).length=d+1:=by rw [me,hl]
 have l2:∀ k,(bj po k).length=d+1:=fun k=>by rw [n8,hl]
 have ew:cL (aX po) x=fE (1-x) x d (fun i=>(aX po).getD i 0):=by rw [s6 J,l1,Nat.add_sub_cancel]
 have en:∀ k,cL (bj po k) x=fE (1-x) x d (fun i=>(bj po k).getD i 0):=fun k=>by rw [s6 (by rw [l2];omega),l2,Nat.add_sub_cancel]
 have cw:ck (D*E ^ d) (N*E ^ d) (cL (aX po) x):=by rw [ew];exact adq hx d _ fun i hi=>h.w _ (dg J)
 have cn:∀ k,ck (D*E ^ d) (N*E ^ d) (cL (bj po k) x):=fun k=>by rw [en];exact adq hx d _ fun i hi=>h.n k _ (dg (by rw [l2];omega))
 have hp:0<cL (aX po) x:=by
  rw [ew]
  refine abE cA h0 cA d _ fun i hi=>?_
  rw [abc J]
  exact h.p _ (qM J)
 obtain⟨M,m0,m1,m2⟩:=ay4 cw hp (Nat.mul_pos h.D0 (Nat.pow_pos hE))
 refine⟨M,m0,m1,fun k hk=>?_⟩
 match k,hk with
 | 0,_=>exact ai0 (cn 0) m2 cA
 | 1,_=>exact ai0 (cn 1) m2 cA
 | 2,_=>exact ai0 (cn 2) m2 cA
structure nX (d:Nat) (k:List Rat) (po:List aF) (a b:Rat):Prop where
 d1:1<=d
 d3:d<=3
 ab:a<b
 ca:ck 2 20 a
 cb:ck 2 20 b
 kn:k=bl d a b/\po.length=d+1\/∃ t,a<t/\t<b/\ck 2 20 t/\k=bO d a t b/\po.length=d+2
theorem qg {x:Rat} (h:ck 2 20 x):rl x<=1:=h.rl ai ai ai ai
def lW (d:Nat) (k:List Rat) (po:List aF):List gJ :=
 if po.length=d+1 then [⟨d,k.getD 0 0,k.getD (d+1) 0,po⟩]
 else [⟨d,k.getD 0 0,k.getD (d+1) 0,(kh d (k.getD 0 0) (k.getD (d+1) 0) (k.getD (d+2) 0) (po.map cS)).map dX⟩,⟨d,k.getD (d+1) 0,k.getD (d+2) 0,(ka d (k.getD 0 0) (k.getD (d+1) 0) (k.getD (d+2) 0) (po.map cS)).map dX⟩]
theorem abD {d:Nat} {a b:Rat} {po:List aF} (h:po.length=d+1):lW d (bl d a b) po=[⟨d,a,b,po⟩]:=by
 unfold lW
 rw [if_pos h,fV _ _ _ _ J,fV _ _ _ _ J,if_pos J,if_neg J]
theorem aiZ {d:Nat} {a t b:Rat} {po:List aF} (h:po.length=d+2):lW d (bO d a t b) po=[⟨d,a,t,(kh d a t b (po.map cS)).map dX⟩,⟨d,t,b,(ka d a t b (po.map cS)).map dX⟩]:=by
 unfold lW
 have e0:(bO d a t b).getD 0 0=a:=by rw [dS _ _ _ _ _ J,if_pos J]
 have e1:(bO d a t b).getD (d+1) 0=t:=by rw [dS _ _ _ _ _ J,if_neg J,if_pos J]
 have e2:(bO d a t b).getD (d+2) 0=b:=by rw [dS _ _ _ _ _ J,if_neg J,if_neg J]
 rw [if_neg J,e0,e1,e2]
structure pcC (d D N:Nat) (q:gJ):Prop where
 dd:q.d=d
 c:jQ q.po D N
 l:q.po.length=d+1
 ab:q.a<q.b
 ca:ck 2 20 q.a
 cb:ck 2 20 q.b
theorem ag2 {E F d:Nat} (h:E<=F) (hF:0<F) (hd:d<=3):E ^ d<=F ^ 3:=Nat.le_trans (Nat.pow_le_pow_left h d) (Nat.pow_le_pow_right hF hd)
theorem nX.pcs {d:Nat} {k:List Rat} {po:List aF} {a b:Rat} {D N:Nat} (h:nX d k po a b) (c:jQ po D N):∃ E,0<E/\E<=40/\∀ q∈lW d k po,pcC d (D*E ^ d) (N*E ^ d) q:=by
 rcases h.kn with⟨rfl,hl⟩ | ⟨t,h1,h2,ht,rfl,hl⟩
 ·refine⟨1,by decide,by decide,fun q hq=>?_⟩
  rw [abD hl] at hq
  rw [List.mem_singleton.1 hq,Nat.one_pow,Nat.mul_one,Nat.mul_one]
  exact⟨rfl,c,hl,h.ab,h.ca,h.cb⟩
 ·obtain⟨E,e0,e1,e2⟩:=ahD ai ht h.ca h.cb (Rat.le_of_lt h1) (Rat.le_of_lt h2) h.ab
  refine⟨E,e0,e1,fun q hq=>?_⟩
  rw [aiZ hl] at hq
  simp only [List.mem_cons,List.not_mem_nil,or_false] at hq
  rcases hq with rfl | rfl
  ·exact⟨rfl,anX h1 h2 hl c e0 e2,by simp [kh],h1,h.ca,ht⟩
  ·exact⟨rfl,anu h1 h2 hl c e0 e2,by simp [ka],h2,ht,h.cb⟩
def xy (T:V3) (q:aF):aF:=⟨pV q.p T,q.w⟩
theorem aAt {po:List aF} {D N M Z:Nat} {T:V3} (h:jQ po D N) (hM:0<M) (hT:∀ k,k<3->ck M Z (T.at k)):jQ (po.map (xy T)) (D*M) (N*M+N*Z):=by
 have at_:∀ (p q:V3) (k:Nat),(pV p q).at k=p.at k+q.at k:=fun p q k=>by
  match k with
  | 0=>rfl
  | 1=>rfl
  | k+2=>rfl
 have hT':∀ k,ck M Z (T.at k):=fun k=>by
  match k with
  | 0=>exact hT 0 ai
  | 1=>exact hT 1 ai
  | k+2=>exact hT 2 ai
 refine⟨Nat.mul_pos h.D0 hM,fun k x hx=>?_,fun x hx=>?_,fun q hq=>?_⟩
 ·obtain⟨q,hq,rfl⟩:=List.mem_map.1 hx
  obtain⟨y,hy,rfl⟩:=List.mem_map.1 hq
  show ck _ _ (y.w*(pV y.p T).at k)
  rw [at_,Rat.mul_add]
  exact(h.n k _ (List.mem_map.2 ⟨y,hy,rfl⟩)).scale.af9 ((h.w _ (List.mem_map.2 ⟨y,hy,rfl⟩)).ajY (hT' k))
 ·obtain⟨q,hq,rfl⟩:=List.mem_map.1 hx
  obtain⟨y,hy,rfl⟩:=List.mem_map.1 hq
  exact(h.w _ (List.mem_map.2 ⟨y,hy,rfl⟩)).scale.mono (Nat.le_add_right _ _)
 ·obtain⟨y,hy,rfl⟩:=List.mem_map.1 hq
  exact h.p y hy
def xN (l:List Int) (k m:Nat):Nat:=uG l (bz l k) m
def xK (l:List Int) (k n m:Nat):List Rat:=knX l (cD l k n) (bz l k) m
def xJ (l:List Int) (k n m:Nat):Nat:=(we l (cD l k n) (bz l k) m).2.2
def xE (l:List Int) (k n m:Nat):Nat:=dqK l (xJ l k n m) (cD l k n+1+xN l k m)
theorem aq5 (l:List Int) (k:Nat) {n m:Nat} (hl:l.length<=500) (hk:k<=500) (hn:0<n) (hn6:n<=6) (hm:m<=2):yr (xK l k n m) (cD l k n)/\(xK l k n m).length=2*(cD l k n+1)+xN l k m/\xJ l k n m<=500/\∀ x∈xK l k n m,rl x<=64:=by
 obtain⟨ks,tD,hd3⟩:=aiX l k hn
 obtain⟨hN1,hN2⟩:=aeA l (bz l k) m
 obtain⟨hT,hT1⟩:=apZ l (bz l k)
 have ib:rl 1=1:=rfl
 obtain⟨dM,t,j',e,hil,sV,hrt,bE⟩:=aAV l (d:=cD l k n) (n:=uG l (bz l k) m) (T:=kS l (bz l k)) ks J hT (bz l (bz l (bz l k)))
 have ht1:=jx t 1
 have eK:xK l k n m=kx (cD l k n) (kS l (bz l k)) dM (t+1):=by
  unfold xK knX we kx
  rw [e,List.append_assoc]
 have eQ:yr (xK l k n m) (cD l k n):=by rw [eK];exact aoo ks J J J bE sV
 refine⟨eQ,?_,?_,eQ.sz⟩
 ·rw [eK,ajC,hil];rfl
 ·have k1:=l6 (l:=l) hl hk
  have k2:=l6 (l:=l) hl k1
  have k3:=l6 (l:=l) hl k2
  have gen:∀ (c:Nat) (K:List Rat) (t:Rat) (j:Nat),j<=500->(mT l (cD l k n) c K t j).2.2<=500:=by
   intro c
   induction c with
   | zero=>intro K t j hj;exact hj
   | succ c ih =>
    intro K t j hj
    rw [mT]
    split
    ·exact ih _ _ _ (l6 hl (l6 hl (acH hl hj)))
    ·exact ih _ _ _ (acH hl hj)
  exact gen _ _ _ _ k3
def dpF (l:List Int) (k:Nat):aF:=⟨⟨(tW l k).x,(tW l k).y,0⟩,dwV l (rJ l k)⟩
def wk (l:List Int):Nat->Nat->List aF
 | _,0=>[]
 | k,c+1=>dpF l k :: wk l (dpK l k) c
theorem anK (l:List Int):∀ k c,(wk l k c).length=c
 | _,0=>rfl
 | k,c+1=>by simp [wk,anK l]
def xF (l:List Int) (k n m:Nat):List aF:=wk l (xJ l k n m) (cD l k n+1+xN l k m)
theorem an6 (l:List Int) (k n m:Nat):(xF l k n m).length=cD l k n+1+xN l k m:=anK _ _ _
def xQ (q:aF):Prop:=(∀ j,ck 12 72 (q.p.at j))/\ck 1 3 q.w/\0<q.w/\q.p.z=0
theorem aqG (l:List Int) (k:Nat):ck 12 72 (my l k).1:=by
 have h1:=mZ (l:=l) (k:=k) (n:=13) ai
 have h2:=mZ (l:=l) (k:=bz l (bz l k)) (n:=4) ai
 unfold my;split
 ·show ck 12 72 (((dQ l k 13-6:Int):Rat)/((1+dQ l (bz l (bz l k)) 4:Int):Rat))
  generalize dQ l k 13=u at *
  generalize dQ l (bz l (bz l k)) 4=v at *
  have hv:v=0\/v=1\/v=2\/v=3:=by omega
  rcases hv with rfl | rfl | rfl | rfl
  ·refine⟨(u-6)*12,?_,J⟩
   rw [Rat.intCast_mul,show ((1+0:Int):Rat)=1 by decide +kernel,show (((12:Nat):Int):Rat)=12 by decide +kernel,show ((12:Int):Rat)=12 by decide +kernel]
   generalize ((u-6:Int):Rat)=x
   grind
  ·refine⟨(u-6)*6,?_,J⟩
   rw [Rat.intCast_mul,show ((1+1:Int):Rat)=2 by decide +kernel,show (((12:Nat):Int):Rat)=12 by decide +kernel,show ((6:Int):Rat)=6 by decide +kernel]
   generalize ((u-6:Int):Rat)=x
   grind
  ·refine⟨(u-6)*4,?_,J⟩
   rw [Rat.intCast_mul,show ((1+2:Int):Rat)=3 by decide +kernel,show (((12:Nat):Int):Rat)=12 by decide +kernel,show ((4:Int):Rat)=4 by decide +kernel]
   generalize ((u-6:Int):Rat)=x
   grind
  ·refine⟨(u-6)*3,?_,J⟩
   rw [Rat.intCast_mul,show ((1+3:Int):Rat)=4 by decide +kernel,show (((12:Nat):Int):Rat)=12 by decide +kernel,show ((3:Int):Rat)=3 by decide +kernel]
   generalize ((u-6:Int):Rat)=x
   grind
 ·exact((aao (N:=6) (show (dQ l k 13-6).natAbs<=6 by omega)).scale (E:=12)).mono ai
theorem ayw (l:List Int) (k:Nat):ck 1 3 (dwV l k):=by
 have:=aiO l k
 exact aao J
theorem ajL (D N:Nat):ck D N 0:=⟨0,by rw [Rat.zero_mul];rfl,Nat.zero_le _⟩
theorem ahv (l:List Int):∀ k c,∀ q∈wk l k c,xQ q
 | _,0,q,h=>by simp [wk] at h
 | k,c+1,q,h=>by
  simp only [wk,List.mem_cons] at h
  rcases h with rfl | h
  ·refine⟨fun j=>?_,ayw _ _,ay9 _ _,rfl⟩
   match j with
   | 0=>exact aqG _ _
   | 1=>exact aqG _ _
   | j+2=>exact ajL _ _
  ·exact ahv l _ c q h
theorem abz {po:List aF} (h:∀ q∈po,xQ q):jQ po 12 216:=by
 refine⟨by decide,fun k x hx=>?_,fun x hx=>?_,fun q hq=>(h q hq).2.2.1⟩
 ·obtain⟨q,hq,rfl⟩:=List.mem_map.1 hx
  exact(h q hq).2.1.ajY ((h q hq).1 k)
 ·obtain⟨q,hq,rfl⟩:=List.mem_map.1 hx
  exact((h q hq).2.1.scale (E:=12)).mono ai
theorem au5 (l:List Int) (k:Nat):ck 2 4 (kS l k):=by
 have h:=mZ (l:=l) (k:=k) (n:=4) ai
 exact(aao (N:=2) (show (dQ l k 4-2).natAbs<=2 by omega)).scale (E:=2)
theorem avc (l:List Int) (j:Nat):ck 2 6 (jy l j):=by
 have h1:=mZ (l:=l) (k:=j) (n:=3) ai
 have h2:=mZ (l:=l) (k:=bz l j) (n:=2) ai
 unfold jy
 generalize dQ l j 3=u at *
 generalize dQ l (bz l j) 2=v at *
 have hv:v=0\/v=1:=by omega
 rcases hv with rfl | rfl
 ·refine⟨(1+u)*2,?_,J⟩
  rw [Rat.intCast_mul,show ((1+0:Int):Rat)=1 by decide +kernel,show (((2:Nat):Int):Rat)=2 by decide +kernel,show ((2:Int):Rat)=2 by decide +kernel]
  generalize ((1+u:Int):Rat)=x
  grind
 ·refine⟨1+u,?_,J⟩
  rw [show ((1+1:Int):Rat)=2 by decide +kernel,show (((2:Nat):Int):Rat)=2 by decide +kernel]
  generalize ((1+u:Int):Rat)=x
  grind
theorem apa:ck 2 2 1:=(aao (z:=1) (N:=1) ai).scale (E:=2)
def xA (l:List Int) (k:Nat):Rat:=kS l (bz l k)
def xB (l:List Int) (k n:Nat):Rat:=(we l (cD l k n) (bz l k) 1).2.1+1
theorem ap4 (l:List Int) (k n:Nat) (hn:0<n) (h3:n<=3) (po:List aF) (hl:po.length=cD l k n+1+xN l k 1):nX (cD l k n) (xK l k n 1) po (xA l k) (xB l k n):=by
 obtain⟨d1,d2,_⟩:=aiX l k hn
 have hN:=(aeA l (bz l k) 1).2
 have ca:=au5 l (bz l k)
 have lP:∀ x:Rat,ck 2 10 x->ck 2 20 (x+1):=fun x h=>(h.af9 apa).mono ai
 unfold xK xB xA knX we
 unfold xN at hl
 rcases(show uG l (bz l k) 1=0\/uG l (bz l k) 1=1 by omega) with e | e
 ·rw [e] at hl ⊢
  rw [mT]
  exact⟨d1,J,by grind,ca.mono ai,lP _ (ca.mono ai),.inl ⟨rfl,J⟩⟩
 ·rw [e] at hl ⊢
  have hb:pK l (cD l k n) (List.replicate (cD l k n+1) (kS l (bz l k))) (kS l (bz l k)) (bz l (bz l (bz l k))):=.inl aO
  rw [mT,if_pos hb,mT]
  have hF:=(aaK l (dH l (cD l k n) (List.replicate (cD l k n+1) (kS l (bz l k))) (bz l (bz l (bz l k))))).1
  have hc:=avc l (dH l (cD l k n) (List.replicate (cD l k n+1) (kS l (bz l k))) (bz l (bz l (bz l k))))
  generalize jy l _=f at *
  have ct:ck 2 10 (kS l (bz l k)+f):=ca.af9 hc
  refine⟨d1,J,by grind,ca.mono ai,lP _ ct,.inr ⟨kS l (bz l k)+f,by grind,by grind,ct.mono ai,?_,J⟩⟩
  unfold bO kq
  simp
open air in
theorem aaX (l:List Int) (k:Nat) (hl:l.length<=500) (hk:k<=500):lH Tryz.prog 77 ⟨2,[ik l k],true⟩ [.aA 0 2 0 0,bL true] (aT (dpF l k)) ⟨2,[ik l (dpK l k)],true⟩:=by
 have k1:=anO (l:=l) hl hk
 have hb:=mZ (l:=l) (k:=rJ l k) (n:=3) ai
 have hd:=aiO l (rJ l k)
 refine ud Tryz.func77 ?_
 refine bf ?_
 refine kj 0 rfl rfl rfl (cY l _) (.cons .ptr .nil) .ptr (awl l k J J) rfl (cY l _) (bg.pure _) ?_
 refine bB ?_
 refine aC rfl ?_ ?_<;>intro mX h8
 ·refine ar ?_
  refine ak rfl nQ ?_
  refine aZ ?_
  refine aap ?_
  refine iR 0 1 _ _ an rfl rfl ?_ ?_
  ·refine ar ?_
   refine aE ?_
   refine aV 1 _ an rfl ?_
   refine ar ?_
   refine aE ?_
   refine aV 2 _ an rfl ?_
   refine kj 0 rfl rfl rfl (cY l _) (.cons .ptr (.cons (.cf (.pure rfl)) .nil)) .ptr (oy l (rJ l k) 3 J J J J) rfl (cY l _) rfl ?_
   refine aE ?_
   refine gu 3 rfl rfl an (.pure (.bin rfl rfl (aeP ai))) jq gv ?_
   refine gu 4 rfl rfl an (.pure (.bin rfl rfl (py J J))) jq gv ?_
   refine aV 5 _ an rfl ?_
   refine cp aK (oQ (1+(dQ l (rJ l k) 3).tmod 3) J J) ?_
   refine aE ?_
   refine aV 6 _ an rfl ?_
   refine pH (yT (p:=⟨(tW l k).x,(tW l k).y,0⟩) rfl rfl) ?_
   refine aE ?_
   refine aV 7 _ an rfl ?_
   refine ar ?_
   refine aE ?_
   refine eO an ?_
   refine aL ?_
   exact aeL
  ·refine ar ?_
   refine aE ?_
   refine iR 0 2 _ _ an rfl rfl ?_ ?_
   ·refine ar ?_
    refine aE ?_
    refine aV 2 _ an rfl ?_
    refine kj 0 rfl rfl rfl (cY l _) (.cons .ptr (.cons (.cf (.pure rfl)) .nil)) .ptr (oy l (rJ l k) 3 J J J J) rfl (cY l _) rfl ?_
    refine aE ?_
    refine gu 3 rfl rfl an (.pure (.bin rfl rfl (aeP ai))) jq gv ?_
    refine gu 4 rfl rfl an (.pure (.bin rfl rfl (py J J))) jq gv ?_
    refine aV 5 _ an rfl ?_
    refine cp aK (oQ (1+(dQ l (rJ l k) 3).tmod 3) J J) ?_
    refine aE ?_
    refine aV 6 _ an rfl ?_
    refine pH (yT (p:=⟨(tW l k).x,(tW l k).y,0⟩) rfl rfl) ?_
    refine aE ?_
    refine aV 7 _ an rfl ?_
    refine ar ?_
    refine aE ?_
    refine eO an ?_
    refine aL ?_
    exact aeL
   ·refine kj 0 rfl rfl rfl (cY l _) (.cons .ptr (.cons (.cf (.pure rfl)) .nil)) .ptr (oy l (rJ l k) 3 J J J J) rfl (cY l _) rfl ?_
    refine aE ?_
    refine gu 3 rfl rfl an (.pure (.bin rfl rfl (aeP ai))) jq gv ?_
    refine gu 4 rfl rfl an (.pure (.bin rfl rfl (py J J))) jq gv ?_
    refine iR 0 5 _ _ an rfl rfl ?_ ?_
    ·refine ar ?_
     refine aE ?_
     refine aV 5 _ an rfl ?_
     refine cp aK (oQ (1+(dQ l (rJ l k) 3).tmod 3) J J) ?_
     refine aE ?_
     refine aV 6 _ an rfl ?_
     refine pH (yT (p:=⟨(tW l k).x,(tW l k).y,0⟩) rfl rfl) ?_
     refine aE ?_
     refine aV 7 _ an rfl ?_
     refine ar ?_
     refine aE ?_
     refine eO an ?_
     refine aL ?_
     exact aeL
    ·refine cp aK (oQ (1+(dQ l (rJ l k) 3).tmod 3) J J) ?_
     refine aE ?_
     refine aV 0 _ an rfl ?_
     refine ar ?_
     refine aE ?_
     refine aV 6 _ an rfl ?_
     refine pH (yT (p:=⟨(tW l k).x,(tW l k).y,0⟩) rfl rfl) ?_
     refine aE ?_
     refine aV 7 _ an rfl ?_
     refine ar ?_
     refine aE ?_
     refine eO an ?_
     refine aL ?_
     exact aeL
 ·first | exact absurd mX ai | cases mX | exact absurd rfl h8
namespace ao9
theorem aH {p q:Prop} (k:q) (e:p=q:=by simp only [e1,e2,e3,e4,p1,p2,p3,q1,q2,q3,l1,t0,t1,r1,r2,r3,r4,Nat.zero_add,Nat.reduceMul,Nat.reduceAdd,b1,b2,b3,b4,b5,b6,i1,i2,i3,i4,i5,i6,Nat.reduceBEq,l1,abA,fY,List.length_map,kW,kJ,iA,List.length_cons,List.length_nil,List.length_map,List.set_cons_zero,List.set_cons_succ,Nat.reduceEqDiff,reduceIte,if_true,if_false,dU,eo,aP bw,aP ao,cH,dO,LV.kill,bN,acB];exact rfl):p:=e.mpr k
end ao9
open ao9 in
theorem aqa (l:List Int) (k:Nat) (hl:l.length<=500) (n:Nat) (hn:0<n) (hn6:n<=6) (m:Nat) (hm:m<=2) (hk:k<=500):lH Tryz.prog 32 ⟨2,[ik l k],true⟩ [.aA 0 2 0 0,ah n,ah m,bL true] (.agg [ah (cD l k n),.list 3 ((xK l k n m).map ae),.list 12 ((xF l k n m).map aT)]) ⟨2,[ik l (xE l k n m)],true⟩:=by
 have k1:=l6 (l:=l) hl hk
 have k2:=l6 (l:=l) hl k1
 obtain⟨ks,tD,hd3⟩:=aiX l k hn
 have hb:=mZ (l:=l) (k:=k) (n:=(n:Int)) J
 have gD:1+dQ l k (n:Int)=(((cD l k n):Nat):Int):=hd3.symm
 have hA:dk .add .i64 1 (dQ l k (n:Int))=some (.int .i64 (((cD l k n):Nat):Int)):=by rw [<-gD];exact py J J
 obtain⟨eQ,fY,k3,aD9⟩:=aq5 l k (n:=n) (m:=m) hl hk hn hn6 hm
 obtain⟨hN1,hN2⟩:=aeA l (bz l k) m
 have hxN:xN l k m<=2:=by unfold xN;omega
 have hkp:=eB ao 3 (xK l k n m)
 refine ud Tryz.func32 ?_
 refine bq ?_
 refine kj 0 rfl rfl rfl (cY l _) (.cons .ptr (.cons (.cf (.pure rfl)) .nil)) .ptr (oy l k n J J J J) rfl (cY l _) rfl ?_
 refine ak rfl (.bin rfl rfl (hA)) ?_
 refine bo ?_
 refine kj 0 rfl rfl rfl (cY l _) (.cons .ptr (.cons (.cf (.pure rfl)) (.cons (.cf (.pure rfl)) .nil))) .ptr (aCL l (bz l k) J (cD l k n) J J m hm J) rfl (cY l _) hkp ?_
 refine bo ?_
 refine ju ((aw.cell 9 rfl (fun Z μ w cs h=>ab8 39 12 _ _ Z μ w cs h)).trans (aw.tH _ 39 12 rfl)) ?_
 refine rf (fun(c j:Nat) (o:List aF) L=>((((((St.mk L.slot (hp [(0,⟨2,[ik l j],true⟩),(8,⟨3,[.agg [.v (.int .i64 0),.v (.slice none 0 0),.v (.slice none 0 0)]],true⟩),(9,⟨3,[.agg [ah (cD l k n),.list 3 ((xK l k n m).map ae),.ref 39 12 0 o.length]],true⟩),(39,⟨12,o.map aT,true⟩)])).put (some 0) (.aA 0 2 0 0)).put (some 3) (bL true)).put (some 8) (.aA 8 3 0 0)).put (some 9) (.aA 9 3 0 0)).put (some 10) (ah o.length))) (fun c j o=>j<=500/\o.length+c=(cD l k n)+1+xN l k m/\o++wk l j c=xF l k n m/\dqK l j c=xE l k n m) (fun c j o=>c) ((cD l k n)+1+xN l k m) (xJ l k n m) ([]) ⟨k3,by simp,rfl,rfl⟩ ?_
 rintro c j o L1 ⟨hj,ho,hV,hK⟩
 refine bq ?_
 refine ak rfl te ?_
 refine ak rfl te ?_
 refine aJ ?_
 refine aC rfl ?_ ?_<;>intro abB yb
 ·obtain⟨e,rfl⟩:∃ e,c=e+1:=⟨c-1,J⟩
  refine ax ?_
  refine fZ (fun L=>∃  (L1:St),(True)/\L=((((((St.mk L1.slot (hp [(0,⟨2,[ik l (dpK l j)],true⟩),(8,⟨3,[.agg [.v (.int .i64 0),.v (.slice none 0 0),.v (.slice none 0 0)]],true⟩),(9,⟨3,[.agg [ah (cD l k n),.list 3 ((xK l k n m).map ae),.ref 39 12 0 (o.length+1)]],true⟩),(38,⟨12,[dpF l j].map aT,true⟩),(39,⟨12,(o++[dpF l j]).map aT,true⟩)])).put (some 0) (.aA 0 2 0 0)).put (some 3) (bL true)).put (some 8) (.aA 8 3 0 0)).put (some 9) (.aA 9 3 0 0)).put (some 10) (ah o.length))) ?_ ?_
  ·refine aap ?_
   refine gu 3 rfl rfl an (.pure (.move _)) jq gv ?_
   refine iR 0 2 _ _ an rfl rfl ?_ ?_
   ·refine ar ?_
    refine aE ?_
    refine iR 1 2 _ _ an rfl rfl ?_ ?_
    ·refine ar ?_
     refine aE ?_
     refine aV 2 _ an rfl ?_
     refine ar ?_
     refine aE ?_
     refine aV 4 _ an rfl ?_
     refine kj 0 rfl rfl rfl (cY l _) (.cons .ptr (.cons (.cf (.pure rfl)) .nil)) .ptr (aaX l j J J) rfl (cY l _) (bw.pure _) ?_
     refine aE ?_
     refine aV 5 _ an rfl ?_
     refine ar ?_
     refine aE ?_
     refine aV 6 _ an rfl ?_
     refine bI rfl vz ?_
     refine aE ?_
     refine aV 7 _ an rfl ?_
     refine ar ?_
     refine aE ?_
     refine aV 8 _ an rfl ?_
     refine ar ?_
     refine aE ?_
     refine eO an ?_
     refine ar ?_
     exact qH
    ·refine ar ?_
     refine aE ?_
     refine iR 1 4 _ _ an rfl rfl ?_ ?_
     ·refine ar ?_
      refine aE ?_
      refine aV 4 _ an rfl ?_
      refine kj 0 rfl rfl rfl (cY l _) (.cons .ptr (.cons (.cf (.pure rfl)) .nil)) .ptr (aaX l j J J) rfl (cY l _) (bw.pure _) ?_
      refine aE ?_
      refine aV 5 _ an rfl ?_
      refine ar ?_
      refine aE ?_
      refine aV 6 _ an rfl ?_
      refine bI rfl vz ?_
      refine aE ?_
      refine aV 7 _ an rfl ?_
      refine ar ?_
      refine aE ?_
      refine aV 8 _ an rfl ?_
      refine ar ?_
      refine aE ?_
      refine eO an ?_
      refine ar ?_
      exact qH
     ·refine kj 0 rfl rfl rfl (cY l _) (.cons .ptr (.cons (.cf (.pure rfl)) .nil)) .ptr (aaX l j J J) rfl (cY l _) (bw.pure _) ?_
      refine aE ?_
      refine iR 1 5 _ _ an rfl rfl ?_ ?_
      ·refine ar ?_
       refine aE ?_
       refine aV 5 _ an rfl ?_
       refine ar ?_
       refine aE ?_
       refine aV 6 _ an rfl ?_
       refine bI rfl vz ?_
       refine aE ?_
       refine aV 7 _ an rfl ?_
       refine ar ?_
       refine aE ?_
       refine aV 8 _ an rfl ?_
       refine ar ?_
       refine aE ?_
       refine eO an ?_
       refine ar ?_
       exact qH
      ·refine ar ?_
       refine aE ?_
       refine aV 1 _ an rfl ?_
       refine ar ?_
       refine aE ?_
       refine aV 6 _ an rfl ?_
       refine bI rfl vz ?_
       refine aE ?_
       refine aV 7 _ an rfl ?_
       refine ar ?_
       refine aE ?_
       refine aV 8 _ an rfl ?_
       refine ar ?_
       refine aE ?_
       refine eO an ?_
       refine ar ?_
       exact qH
   ·refine ar ?_
    refine aE ?_
    refine iR 0 4 _ _ an rfl rfl ?_ ?_
    ·refine ar ?_
     refine aE ?_
     refine iR 1 4 _ _ an rfl rfl ?_ ?_
     ·refine ar ?_
      refine aE ?_
      refine aV 4 _ an rfl ?_
      refine kj 0 rfl rfl rfl (cY l _) (.cons .ptr (.cons (.cf (.pure rfl)) .nil)) .ptr (aaX l j J J) rfl (cY l _) (bw.pure _) ?_
      refine aE ?_
      refine aV 5 _ an rfl ?_
      refine ar ?_
      refine aE ?_
      refine aV 6 _ an rfl ?_
      refine bI rfl vz ?_
      refine aE ?_
      refine aV 7 _ an rfl ?_
      refine ar ?_
      refine aE ?_
      refine aV 8 _ an rfl ?_
      refine ar ?_
      refine aE ?_
      refine eO an ?_
      refine ar ?_
      exact qH
     ·refine kj 0 rfl rfl rfl (cY l _) (.cons .ptr (.cons (.cf (.pure rfl)) .nil)) .ptr (aaX l j J J) rfl (cY l _) (bw.pure _) ?_
      refine aE ?_
      refine iR 1 5 _ _ an rfl rfl ?_ ?_
      ·refine ar ?_
       refine aE ?_
       refine aV 5 _ an rfl ?_
       refine ar ?_
       refine aE ?_
       refine aV 6 _ an rfl ?_
       refine bI rfl vz ?_
       refine aE ?_
       refine aV 7 _ an rfl ?_
       refine ar ?_
       refine aE ?_
       refine aV 8 _ an rfl ?_
       refine ar ?_
       refine aE ?_
       refine eO an ?_
       refine ar ?_
       exact qH
      ·refine ar ?_
       refine aE ?_
       refine aV 1 _ an rfl ?_
       refine ar ?_
       refine aE ?_
       refine aV 6 _ an rfl ?_
       refine bI rfl vz ?_
       refine aE ?_
       refine aV 7 _ an rfl ?_
       refine ar ?_
       refine aE ?_
       refine aV 8 _ an rfl ?_
       refine ar ?_
       refine aE ?_
       refine eO an ?_
       refine ar ?_
       exact qH
    ·refine kj 0 rfl rfl rfl (cY l _) (.cons .ptr (.cons (.cf (.pure rfl)) .nil)) .ptr (aaX l j J J) rfl (cY l _) (bw.pure _) ?_
     refine aE ?_
     refine iR 0 5 _ _ an rfl rfl ?_ ?_
     ·refine ar ?_
      refine aE ?_
      refine iR 1 5 _ _ an rfl rfl ?_ ?_
      ·refine ar ?_
       refine aE ?_
       refine aV 5 _ an rfl ?_
       refine ar ?_
       refine aE ?_
       refine aV 6 _ an rfl ?_
       refine bI rfl vz ?_
       refine aE ?_
       refine aV 7 _ an rfl ?_
       refine ar ?_
       refine aE ?_
       refine aV 8 _ an rfl ?_
       refine ar ?_
       refine aE ?_
       refine eO an ?_
       refine ar ?_
       exact qH
      ·refine ar ?_
       refine aE ?_
       refine aV 1 _ an rfl ?_
       refine ar ?_
       refine aE ?_
       refine aV 6 _ an rfl ?_
       refine bI rfl vz ?_
       refine aE ?_
       refine aV 7 _ an rfl ?_
       refine ar ?_
       refine aE ?_
       refine aV 8 _ an rfl ?_
       refine ar ?_
       refine aE ?_
       refine eO an ?_
       refine ar ?_
       exact qH
     ·refine ar ?_
      refine aE ?_
      refine aV 0 _ an rfl ?_
      refine ar ?_
      refine aE ?_
      refine aV 1 _ an rfl ?_
      refine ar ?_
      refine aE ?_
      refine aV 6 _ an rfl ?_
      refine bI rfl vz ?_
      refine aE ?_
      refine aV 7 _ an rfl ?_
      refine ar ?_
      refine aE ?_
      refine aV 8 _ an rfl ?_
      refine ar ?_
      refine aE ?_
      refine eO an ?_
      refine ar ?_
      exact qH
  ·rintro _ ⟨LR6,-,rfl⟩
   refine aL ?_
   refine cq (aw.kill _ 38) ?_
   refine ar ?_
   refine ak rfl cB ?_
   refine aJ ?_
   exact qc e (dpK l j) (o++[dpF l j]) ⟨aj2 hl hj,by simp;omega,by rw [List.append_assoc];exact hV,hK⟩
 ·obtain rfl:c=0:=by omega
  rw [wk,List.append_nil] at hV
  rw [dqK] at hK
  refine bu ?_
  rw [<-hV,<-hK]
  exact atz [39] rfl rfl rfl rfl rfl jI (.agg (.cons (.pure rfl) (.cons (.pure hkp) (.cons (eM bw rfl rfl rfl) .nil)))) rfl rfl (cY l _)
theorem axR {α β:Type} [Inhabited α] (f:α->β) (l:List α) (d:α) {i:Nat} (h:i<l.length):(l.map f).take i++[f (l.getD i d)]=(l.map f).take (i+1):=by
 rw [List.take_add_one,List.getElem?_map,List.getD_eq_getElem?_getD,List.getElem?_eq_getElem h];rfl
open fN in
theorem azB (m:M3) (p:V3) (R:Nat) (hR:R<=210000000) (hm:qq R m) (hp:cj R p):av Tryz.prog 234 [dV m,aS p] (aS (zW m p)):=by
 obtain⟨iI,dY,n6,mn⟩:=hm
 refine aN Tryz.func234 (ht:=(fun r=>LV.cP r _ (bg.pure _))) ?_
 refine bf ?_
 refine aY 16 an ?_
 refine aL ?_
 refine ak rfl (.fu rfl rfl rfl rfl (dN.au m) (adH m) ij) ?_
 refine ar ?_
 refine cp aq (ah3 m.a p R J iI hp) ?_
 refine aL ?_
 refine ak rfl (.fu rfl rfl rfl rfl (dN.au m) (adQ m) ij) ?_
 refine ar ?_
 refine cp aq (ah3 m.b p R J dY hp) ?_
 refine aL ?_
 refine ak rfl (.fu rfl rfl rfl rfl (dN.au m) (ad5 m) ij) ?_
 refine ar ?_
 refine cp aq (ah3 m.c p R J n6 hp) ?_
 refine aZ ?_
 exact qo
open fN in
theorem aya (m:M3) (p:V3) (R:Nat) (hR:R<=210000000) (hm:qq R m) (hp:cj R p) (hR2:R<=1000000):av Tryz.prog 144 [dV m,aS p] (aS (m3p m p)):=by
 have mn:=hm.2.2.2
 have ht:=akZ hm hp
 have hmp:LV.pure (dV m)=true:=dN.pure m
 refine aN Tryz.func144 (ht:=(fun r=>LV.cP r _ (bg.pure _))) ?_
 refine bf ?_
 refine aY 6 an ?_
 refine ak rfl afq ?_
 refine ar ?_
 refine cp aq (azB m p R hR hm hp) ?_
 refine ar ?_
 refine ak rfl (.fu rfl rfl rfl rfl (dN.au m) (arC m) ij) ?_
 refine cp aq (as2 (zW m p) m.t (6*R+4) J (ht.le J) (mn.le J)) ?_
 refine ax ?_
 exact qo
namespace alv
theorem aH {p q:Prop} (k:q) (e:p=q:=by simp only [e1,e2,e3,e4,p1,p2,p3,q1,q2,q3,l1,t0,t1,r1,r2,r3,r4,Nat.zero_add,Nat.reduceMul,Nat.reduceAdd,b1,b2,b3,b4,b5,b6,i1,i2,i3,i4,i5,i6,Nat.reduceBEq,fB,egr,acf,aP bw,List.length_map,cy,kW,kJ,iA,List.length_cons,List.length_nil,List.nil_append,List.map_nil,List.take_nil,List.append_nil,List.set_cons_zero,List.set_cons_succ,Nat.reduceEqDiff,reduceIte,if_true,if_false,dU,eo,aP bg,aP bw,aP ao,cH,dO,LV.kill,bN];exact rfl):p:=e.mpr k
end alv
open alv in
theorem awE (m:M3) (po:List aF) (R:Nat) (hR:R<=1000000) (hm:qq R m) (hl:po.length<=100) (eQ:∀ q∈po,oF R q):av Tryz.prog 74 [.list 12 (po.map aT),dV m] (.list 12 ((po.map (qG m)).map aT)):=by
 have hmp:LV.pure (dV m)=true:=dN.pure m
 refine aN Tryz.func74 (ht:=(fun g=>LV.cP g _ (eB bw 12 _))) ?_
 have fB:True:=trivial
 have egr:True:=trivial
 refine mQ ?_
 refine ju (aw.own (t:=5) 95 12 rfl rfl) ?_
 refine dG (fun(i:Nat) L=>(((((St.mk L.slot (hp [(3,⟨36,[dV m],true⟩),(95,⟨12,((po.map (qG m)).take i).map aT,true⟩)])).put (some 0) (.list 12 (po.map aT))).put (some 3) (.aA 3 36 0 0)).put (some 5) (.ref 95 12 0 i)).put (some 6) (ah i))) (fun i=>i<=po.length) (fun i=>po.length-i) 0 (Nat.zero_le _) ?_
 rintro i L1 hi
 refine bq ?_
 refine aC rfl ?_ ?_<;>intro l8 rC
 ·have dA:i<po.length:=by omega
  have hq:=eQ _ (qM dA)
  have fB:(((po.map (qG m)).take i).map aT).take i=((po.map (qG m)).take i).map aT:=List.take_of_length_le bm
  have egr:=axR (qG m) po default dA
  refine ax ?_
  refine aY 15 an ?_
  refine ar ?_
  refine ak rfl afq ?_
  refine aZ ?_
  refine cp aq (aya m (po.getD i default).p R J hm hq.1 hR) ?_
  refine aZ ?_
  refine pH (yT rfl rfl) ?_
  refine ar ?_
  refine bI rfl (.ga (d:=95) (news:=[aT (qG m (po.getD i default))]) rfl rfl rfl rfl bm (.inl rfl) ai Tryz.underlying26 Tryz.underlying26 zq rT cs B42 (.inl ⟨27,0,_,rfl,by decide,rfl,rfl,by simp,rfl,by simp [aG,bw.pure]⟩) bm bm ai) ?_
  refine ax ?_
  refine cq (aw.kill _ 27) ?_
  refine ar ?_
  refine ak rfl cB ?_
  refine aJ ?_
  exact jS
 ·obtain rfl:i=po.length:=by omega
  rw [(List.take_of_length_le ky:(po.map (qG m)).take po.length=po.map (qG m))]
  refine bu ?_
  exact mL [95] rfl rfl (eM bw rfl rfl aO)
def p9 (T:V3):M3:=⟨⟨1,0,0⟩,⟨0,1,0⟩,⟨0,0,1⟩,T⟩
theorem aAM {R:Nat} {T:V3} (h1:1<=R) (h:cj R T):qq R (p9 T):=by
 have e0:rl 0=1:=rfl
 have e1:rl 1=1:=rfl
 exact⟨⟨by show rl 1<=_;omega,by show rl 0<=_;omega,by show rl 0<=_;omega⟩,⟨by show rl 0<=_;omega,by show rl 1<=_;omega,by show rl 0<=_;omega⟩,⟨by show rl 0<=_;omega,by show rl 0<=_;omega,by show rl 1<=_;omega⟩,h⟩
open fN in
theorem azW :av Tryz.prog 73 [iL 2] (aS ⟨0,0,1⟩):=by
 have pC:av Tryz.prog 13 [iL 1] (ae 1):=oQ 1 ai ai
 refine aN Tryz.func73 (ht:=(fun r=>LV.cP r _ (bg.pure _))) ?_
 refine dp ?_
 refine cp aK (pC) ?_
 refine bo ?_
 exact qo
open fN in
theorem aCv :av Tryz.prog 26 [] (dV (⟨⟨1,0,0⟩,⟨0,1,0⟩,⟨0,0,1⟩,⟨0,0,0⟩⟩:M3)):=by
 refine aN Tryz.func26 (ht:=(fun r=>LV.cP r _ (dN.pure _))) ?_
 refine aR ?_
 refine cp aK (aAn) ?_
 refine cp aK (avw) ?_
 refine cp aK (azW) ?_
 refine ak rfl (agY rfl rfl rfl) ?_
 refine ak rfl (agF (a:=⟨1,0,0⟩) (b:=⟨0,1,0⟩) (c:=⟨0,0,1⟩) rfl) ?_
 refine bI rfl (.yQ (e:=dV) (l:=[⟨⟨0,0,0⟩,⟨0,0,0⟩,⟨0,0,0⟩,⟨0,0,0⟩⟩]) (a:=(⟨⟨1,0,0⟩,⟨0,1,0⟩,⟨0,0,1⟩,⟨0,0,0⟩⟩:M3)) rfl rfl rfl aO) ?_
 refine aJ ?_
 exact fW [] rfl rfl rfl (dN.au _) (dJ (dN.au _) rfl) uM (.pure (dN.pure _))
open aiN in
theorem asj (p q:V3) (R:Nat) (hR:R<=100000000) (hp:cj R p) (hq:cj R q):av Tryz.prog 34 [aS p,aS q] (dV (p9 (fy q p))):=by
 refine aN Tryz.func34 (ht:=(fun r=>LV.cP r _ (dN.pure _))) ?_
 refine bq ?_
 refine cp am0 (aCv) ?_
 refine ar ?_
 refine bI rfl (.yQ (e:=dV) (l:=[⟨⟨0,0,0⟩,⟨0,0,0⟩,⟨0,0,0⟩,⟨0,0,0⟩⟩]) (a:=(⟨⟨1,0,0⟩,⟨0,1,0⟩,⟨0,0,1⟩,⟨0,0,0⟩⟩:M3)) rfl rfl rfl aO) ?_
 refine az ?_
 refine cp aq (au9 q p R J hq hp) ?_
 refine ar ?_
 refine bI rfl (.store (y:=dV (⟨⟨1,0,0⟩,⟨0,1,0⟩,⟨0,0,1⟩,⟨0,0,0⟩⟩:M3)) (y':=dV (p9 (fy q p))) rfl rfl rfl rfl rfl (dN.au _) (apr (⟨⟨1,0,0⟩,⟨0,1,0⟩,⟨0,0,1⟩,⟨0,0,0⟩⟩:M3) _) (by show bp _ _ (LV.au (aS _)) (LV.isAgg (aS _));rw [bg.au,bg.isAgg];exact ij) ⟨LV.eF (bg.pure _),LV.dZ (bg.pure _)⟩) ?_
 refine ax ?_
 refine ak rfl (.fu rfl rfl rfl rfl (dN.au (p9 (fy q p))) (dJ (dN.au (p9 (fy q p))) rfl) uM) ?_
 refine bI rfl (.yQ (e:=dV) (l:=[⟨⟨0,0,0⟩,⟨0,0,0⟩,⟨0,0,0⟩,⟨0,0,0⟩⟩]) (a:=(p9 (fy q p))) rfl rfl rfl aO) ?_
 refine aJ ?_
 exact fW [] rfl rfl rfl (dN.au _) (dJ (dN.au _) rfl) uM (.pure (dN.pure _))
namespace ams
theorem aH {p q:Prop} (k:q) (e:p=q:=by simp only [e1,e2,e3,e4,p1,p2,p3,q1,q2,q3,l1,t0,t1,r1,r2,r3,r4,Nat.zero_add,Nat.reduceMul,Nat.reduceAdd,b1,b2,b3,b4,b5,b6,i1,i2,i3,i4,i5,i6,Nat.reduceBEq,acf,aP ao,aP bw,cy,kW,kJ,iA,List.length_cons,List.length_nil,List.nil_append,List.map_nil,List.take_nil,List.append_nil,List.set_cons_zero,List.set_cons_succ,Nat.reduceEqDiff,reduceIte,if_true,if_false,dU,eo,aP bg,aP bw,aP ao,cH,dO,LV.kill,bN];exact rfl):p:=e.mpr k
end ams
open ams in
theorem atw (d:Nat) (kV:List Rat) (m:M3) (po:List aF) (R:Nat) (hR:R<=1000000) (hm:qq R m) (hl:po.length<=100) (hkv:kV.length<=100) (eQ:∀ q∈po,oF R q):av Tryz.prog 28 [.agg [ah d,.list 3 (kV.map ae),.list 12 (po.map aT)],dV m] (.agg [ah d,.list 3 (kV.map ae),.list 12 ((po.map (qG m)).map aT)]):=by
 have hmp:LV.pure (dV m)=true:=dN.pure m
 have fG:LV.pure (.agg [ah d,.list 3 (kV.map ae),.list 12 (po.map aT)])=true:=by simp [LV.pure,aG,aW ao,aW bw]
 have qZ:=aW ao kV
 have wJ:=aW bw po
 refine aN Tryz.func28 (ht:=(fun g=>LV.cP g _ agc)) ?_
 refine bf ?_
 refine agt ((aw.bV (t:=3) (b:=3) rfl rfl (dN.au m) rfl hmp).trans (aw.bV (t:=2) (b:=2) rfl rfl cs rfl fG)) ?_
 refine gu 0 rfl rfl an (.pure lZ) jq gv ?_
 refine gu 1 rfl rfl an (.pure il) jq gv ?_
 refine gu 3 rfl rfl an (.pure lZ) jq gv ?_
 refine gu 4 rfl rfl an (.pure (.qA rfl qZ rfl rfl)) jq gv ?_
 refine gu 6 rfl rfl an (.pure lZ) jq gv ?_
 refine gu 7 rfl rfl an (.pure (.qA rfl wJ rfl rfl)) jq gv ?_
 refine gu 8 rfl rfl an (.pure (.qA rfl hmp (dN.au m) rfl)) (fun b=>LV.kt b _ hmp) gv ?_
 refine aV 2 _ an rfl ?_
 refine ar ?_
 refine aE ?_
 refine aV 5 _ an rfl ?_
 refine bI rfl (.ga (d:=7) (news:=kV.map ae) rfl rfl rfl rfl aO (.inl rfl) ai Tryz.underlying25 Tryz.underlying25 jY cJ rfl kA (.inr (.inl rfl)) bm bm ai) ?_
 refine aE ?_
 refine aV 9 _ an rfl ?_
 refine aH ?_
 refine gL rfl (.cons (.pure (eB bw 12 po)) (.cons (.pure hmp) .nil)) (awE m po R hR hm hl eQ) ?_
 refine aE ?_
 refine aV 10 _ an rfl ?_
 refine ar ?_
 refine aE ?_
 refine aV 11 _ an rfl ?_
 refine ar ?_
 refine aE ?_
 refine eO an ?_
 refine aL ?_
 exact fW [7] rfl rfl rfl cs (dJ cs rfl) jI (.agg (.cons (.pure rfl) (.cons (eM ao rfl rfl aO) (.cons (.pure (eB bw 12 _)) .nil))))
def iB (d:Nat) (k:List Rat) (s:Rat):Nat:=if k.length=2*d+2 then d else if s<k.getD (d+1) 0 then d else d+1
def iC (d:Nat) (k:List Rat) (po:List aF) (s:Rat):V3:=vo k d (iB d k s) po s
theorem nX.iv {d:Nat} {k:List Rat} {po:List aF} {a b s:Rat} (h:nX d k po a b) (h1:a<=s) (h2:s<=b) (hr:rl s<=1000):ivK d k (iB d k s) s/\(∀ i j,i<=iB d k s->iB d k s<j->j<=iB d k s+d->k.getD i 0≠k.getD j 0)/\po.length+d+1=k.length:=by
 have hd:=h.d1
 have h3:=h.d3
 have ra:=qg h.ca
 have rb:=qg h.cb
 have cu:=h.ab
 rcases h.kn with⟨rfl,hl⟩ | ⟨t,g1,g2,ht,rfl,hl⟩
 ·have hk:=jT d a b
  have e:iB d (bl d a b) s=d:=by unfold iB;rw [if_pos J]
  rw [e]
  refine⟨⟨J,J,J,fun x hx=>Nat.le_trans (aaR (R:=1) ra rb x hx) ai,hr,by rw [fV _ _ _ _ J,if_pos J];exact h1,by rw [hk,fV _ _ _ _ J,if_neg J];exact h2,Nat.le_refl _,J,by rw [fV _ _ _ _ J,if_pos J];exact h1,fun i j1 j2=>by omega⟩,fun i j j1 j2 j3=>?_,J⟩
  rw [fV _ _ _ _ J,fV _ _ _ _ J,if_pos J,if_neg J];grind
 ·have hk:=nN d a t b
  have rt:=qg ht
  have jb:∀ x∈bO d a t b,rl x<=100:=fun x hx=>Nat.le_trans (abl J J J x hx) ai
  have e1:(bO d a t b).getD 0 0=a:=by rw [dS _ _ _ _ _ J,if_pos J]
  have e2:(bO d a t b).getD (d+1) 0=t:=by rw [dS _ _ _ _ _ J,if_neg J,if_pos J]
  have e3:(bO d a t b).getD ((bO d a t b).length-1) 0=b:=by rw [hk,dS _ _ _ _ _ J,if_neg J,if_neg J]
  have e4:(bO d a t b).getD d 0=a:=by rw [dS _ _ _ _ _ J,if_pos J]
  unfold iB
  rw [if_neg J,e2]
  by_cases c:s<t
  ·rw [if_pos c]
   refine⟨⟨J,J,J,jb,hr,by rw [e1];exact h1,by rw [e3];exact h2,Nat.le_refl _,J,by rw [e4];exact h1,fun i j1 j2=>by rw [show i=d+1 by omega,e2];exact c⟩,fun i j j1 j2 j3=>?_,J⟩
   rw [dS _ _ _ _ _ J,dS _ _ _ _ _ J,if_pos J,if_neg J]
   split<;>grind
  ·rw [if_neg c]
   refine⟨⟨J,J,J,jb,hr,by rw [e1];exact h1,by rw [e3];exact h2,J,J,by rw [e2];grind,fun i j1 j2=>by omega⟩,fun i j j1 j2 j3=>?_,J⟩
   rw [dS _ _ _ _ _ J,dS _ _ _ _ (j) J,if_neg (show ¬j<d+1 by omega),if_neg (show ¬j<d+2 by omega)]
   split
   ·grind
   ·split<;>grind
theorem nX.pp {d:Nat} {k:List Rat} {po:List aF} {a b s:Rat} {D N:Nat} (h:nX d k po a b) (c:jQ po D N) (h1:a<=s) (h2:s<=b):(∃ q∈lW d k po,qm (q.a,q.b) s/\zJ q s=iC d k po s)/\0<da k d (iB d k s) (aX po) (List.replicate d s):=by
 have hwp:∀ x∈aX po,0<x:=fun x hx=>by obtain⟨z,hz,rfl⟩:=List.mem_map.1 hx;exact c.p z hz
 rcases h.kn with⟨rfl,hl⟩ | ⟨t,g1,g2,ht,rfl,hl⟩
 ·have hk:=jT d a b
  have e:iB d (bl d a b) s=d:=by unfold iB;rw [if_pos J]
  unfold iC
  rw [abD hl,e]
  refine⟨⟨⟨d,a,b,po⟩,List.mem_singleton.2 rfl,⟨h1,h2⟩,(atZ h.d1 h.d3 h.ab hl).symm⟩,?_⟩
  have ho:=acI h.ab h1 h2
  rw [ab3 h.d1 h.d3 h.ab (by rw [me,hl]),s6 (by rw [me];omega)]
  exact abE cA ho.1 cA _ _ fun i hi=>hwp _ (dg (by rw [me] at *;omega))
 ·have hk:=nN d a t b
  have hC:(po.map cS).length=d+2:=by rw [List.length_map,hl]
  have hw:∀ q∈po.map cS,0<q.w:=fun q hq=>by obtain⟨z,hz,rfl⟩:=List.mem_map.1 hq;exact c.p z hz
  have e2:(bO d a t b).getD (d+1) 0=t:=by rw [dS _ _ _ _ _ J,if_neg J,if_pos J]
  unfold iC
  rw [aiZ hl]
  by_cases g:s<t
  ·have e:iB d (bO d a t b) s=d:=by unfold iB;rw [if_neg J,e2,if_pos g]
   rw [e]
   refine⟨⟨⟨d,a,t,(kh d a t b (po.map cS)).map dX⟩,List.mem_cons_self,⟨h1,Rat.le_of_lt g⟩,awM h.d1 h.d3 g1 h.ab hl (ah8 g1 g2 hC hw)⟩,?_⟩
   exact adP hwp (by rw [me];omega) (Nat.le_refl _) fun r j j1 j2 j3=>agU g1 g2 (fun r hr=>by rw [xt hr];exact⟨h1,Rat.le_of_lt g⟩) j1 j2 j3
  ·have e:iB d (bO d a t b) s=d+1:=by unfold iB;rw [if_neg J,e2,if_neg g]
   have g:t<=s:=by grind
   rw [e]
   refine⟨⟨⟨d,t,b,(ka d a t b (po.map cS)).map dX⟩,List.mem_cons_of_mem _ List.mem_cons_self,⟨g,h2⟩,asW h.d1 h.d3 g1 g2 hl (agT g1 g2 hC hw)⟩,?_⟩
   exact adP hwp (by rw [me];omega) J fun r j j1 j2 j3=>are g1 g2 (fun r hr=>by rw [xt hr];exact⟨g,h2⟩) j1 j2 j3
theorem auv {a b:Rat} (ca:ck 2 20 a) (cb:ck 2 20 b) (n:Int):∃ m,0<m/\ck (2*m) 720 (km (a,b) n)/\∀ x,ck 2 20 x->ck (2*m) 720 x:=by
 have hd:=aeo n
 have h1:=Int.emod_nonneg n (show g8 n+1≠0 by omega)
 have h2:=Int.emod_lt_of_pos n (show (0:Int)<g8 n+1 by omega)
 have hp:ck (g8 n).toNat 12 (nx n):=by
  refine⟨n % (g8 n+1),?_,J⟩
  unfold nx
  rw [Int.toNat_of_nonneg J]
  exact Rat.div_mul_cancel (by have:(0:Rat)<((g8 n:Int):Rat):=Rat.intCast_pos.2 J;grind)
 have hs:∀ x,ck 2 20 x->ck (2*(g8 n).toNat) 240 x:=fun x hx=>(hx.scale (E:=(g8 n).toNat)).mono J
 refine⟨(g8 n).toNat,J,?_,fun x hx=>(hs x hx).mono ai⟩
 have hm:=hp.ajY (cb.alV ca)
 rw [Nat.mul_comm (g8 n).toNat 2] at hm
 exact(hs a ca).af9 hm
theorem acp {a b:Rat} (h:a<b) (n:Int):a<=km (a,b) n/\km (a,b) n<=b:=by
 have hp:=ayc n
 have m1:=Rat.mul_nonneg hp.1 (show 0<=b-a by grind)
 have m2:=Rat.mul_nonneg (show 0<=1-nx n by grind) (show 0<=b-a by grind)
 show a<=a+nx n*(b-a)/\a+nx n*(b-a)<=b
 generalize nx n=p at *
 constructor<;>grind
theorem aem {a b:Rat} (ca:ck 2 20 a) (cb:ck 2 20 b) (n:Int):rl (km (a,b) n)<=10:=by
 have h1:=qg ca
 have h2:=qg cb
 have h3:=aqo n
 have m1:=iq b a
 have m2:=cO (nx n) (b-a)
 have m3:=jx a (nx n*(b-a))
 show rl (a+nx n*(b-a))<=_
 omega
theorem nX.pt {d:Nat} {k:List Rat} {po:List aF} {a b:Rat} {D N:Nat} (h:nX d k po a b) (c:jQ po D N) (n:Int):∃ M,0<M/\M<=N*40 ^ 3*1440 ^ 3/\∀ j,j<3->ck M (N*40 ^ 3*1440 ^ 3) ((iC d k po (km (a,b) n)).at j):=by
 have sV:=acp h.ab n
 obtain⟨⟨q,hq,vX,he⟩,_⟩:=h.pp c sV.1 sV.2
 obtain⟨E,e0,e1,hP⟩:=h.pcs c
 have hp:=hP q hq
 obtain⟨m,m0,m1,m2⟩:=auv h.ca h.cb n
 obtain⟨F,f0,f1,f2⟩:=ahD J m1 (m2 _ hp.ca) (m2 _ hp.cb) vX.1 vX.2 hp.ab
 have ho:=acI hp.ab vX.1 vX.2
 obtain⟨M,g0,g1,g2⟩:=azG hp.c hp.l f2 f0 ho.1 ho.2
 have hle:N*E ^ d*F ^ d<=N*40 ^ 3*1440 ^ 3:=Nat.mul_le_mul (Nat.mul_le_mul_left _ (ag2 e1 ai h.d3)) (ag2 f1 ai h.d3)
 refine⟨M,g0,Nat.le_trans g1 hle,fun j hj=>?_⟩
 rw [<-he]
 exact(g2 j hj).mono hle
structure kv (d:Nat) (k:List Rat) (po:List aF) (a b:Rat):Prop where
 dr:nX d k po a b
 c:∃ D N,jQ po D N/\D<=2 ^ 200/\N<=2 ^ 200
 z:∀ q∈po,q.p.z=0
theorem kv.of {d:Nat} {k:List Rat} {po:List aF} {a b:Rat} (h:nX d k po a b) (hs:∀ q∈po,xQ q):kv d k po a b:=⟨h,⟨12,216,abz hs,by decide,by decide⟩,fun q hq=>(hs q hq).2.2.2⟩
theorem aA9 (p q:V3) (k:Nat):(fy p q).at k=p.at k-q.at k:=by
 match k with
 | 0=>rfl
 | 1=>rfl
 | k+2=>rfl
theorem atb (p q:V3) (k:Nat):(pV p q).at k=p.at k+q.at k:=by
 match k with
 | 0=>rfl
 | 1=>rfl
 | k+2=>rfl
theorem aCR {k:List Rat} {d pc:Nat} {v:List Rat} {t:Rat} (hv:pc+1<=v.length) (hp:d<=pc) (hs:∀ i j,i<=pc->pc<j->j<=pc+d->k.getD i 0≠k.getD j 0) (h0:∀ x∈v,x=0):da k d pc v (List.replicate d t)=0:=by
 rw [<-abr hv hp hs]
 refine aCj _ _ fun i hi=>?_
 rw [h0 _ (dg J),Rat.mul_zero]
theorem aqb {d:Nat} {k:List Rat} {po:List aF} {a b s:Rat} (h:nX d k po a b) (hz:∀ q∈po,q.p.z=0) (h1:a<=s) (h2:s<=b) (hr:rl s<=1000):(iC d k po s).z=0:=by
 obtain⟨hi,hs,hl⟩:=h.iv h1 h2 hr
 have pj:=hi.p2
 have e:da k d (iB d k s) (bj po 2) (List.replicate d s)=0:=aCR (by rw [n8];omega) hi.p1 hs fun x hx=>by
  obtain⟨q,hq,rfl⟩:=List.mem_map.1 hx
  show q.w*q.p.z=0
  rw [hz q hq,Rat.mul_zero]
 show 1/_*da k d (iB d k s) (bj po 2) (List.replicate d s)=0
 rw [e,Rat.mul_zero]
theorem as3 {d:Nat} {k:List Rat} {po:List aF} {a b s:Rat} {D N:Nat} {T:V3} (h:nX d k po a b) (c:jQ po D N) (h1:a<=s) (h2:s<=b) (hr:rl s<=1000):iC d k (po.map (xy T)) s=pV (iC d k po s) T:=by
 obtain⟨hi,hs,hl⟩:=h.iv h1 h2 hr
 have pj:=hi.p2
 have hW:=(h.pp c h1 h2).2
 have ew:aX (po.map (xy T))=aX po:=by unfold aX;rw [List.map_map];rfl
 have g:∀ j,da k d (iB d k s) (bj (po.map (xy T)) j) (List.replicate d s)=da k d (iB d k s) (bj po j) (List.replicate d s)+T.at j*da k d (iB d k s) (aX po) (List.replicate d s):=fun j=>by
  rw [<-abr (by rw [n8,List.length_map];omega) hi.p1 hs,<-abr (by rw [n8];omega) hi.p1 hs,<-abr (v:=aX po) (by rw [me];omega) hi.p1 hs,<-alK,<-afj]
  refine wS _ _ _ fun i lT=>?_
  have hx:iB d k s-d+i<po.length:=by have:=hi.p1;omega
  rw [aaj (by rw [List.length_map];exact hx),aaj hx,abc hx]
  have em:(po.map (xy T)).getD (iB d k s-d+i) default=xy T (po.getD (iB d k s-d+i) default):=by
   rw [List.getD_eq_getElem?_getD,List.getElem?_map,List.getElem?_eq_getElem hx,List.getD_eq_getElem?_getD,List.getElem?_eq_getElem hx];rfl
  rw [em]
  show _*((po.getD (iB d k s-d+i) default).w*(pV (po.getD (iB d k s-d+i) default).p T).at j)=_
  rw [atb]
  grind
 unfold iC vo
 rw [ew,g 0,g 1,g 2]
 have ib:1/da k d (iB d k s) (aX po) (List.replicate d s)*da k d (iB d k s) (aX po) (List.replicate d s)=1:=Rat.div_mul_cancel cA
 have q:∀ n t:Rat,1/da k d (iB d k s) (aX po) (List.replicate d s)*(n+t*da k d (iB d k s) (aX po) (List.replicate d s))=1/da k d (iB d k s) (aX po) (List.replicate d s)*n+t:=fun n t=>by
  generalize 1/da k d (iB d k s) (aX po) (List.replicate d s)=r at *
  generalize da k d (iB d k s) (aX po) (List.replicate d s)=w at *
  have:r*(n+t*w)=r*n+t*(r*w):=by grind
  rw [this,ib,Rat.mul_one]
 unfold iZ pV
 simp only [q]
 rfl
theorem kv.sh {d e:Nat} {k m:List Rat} {po pq:List aF} {a b a' b':Rat} (hc:nX d k po a b) (hx:nX e m pq a' b') (sc:∀ q∈po,xQ q) (sx:∀ q∈pq,xQ q) (i j:Int) :
  kv e m (pq.map (xy (fy (iC d k po (km (a,b) i)) (iC e m pq (km (a',b') j))))) a' b'/\cj 10 (fy (iC d k po (km (a,b) i)) (iC e m pq (km (a',b') j)))/\cj 10 (iC d k po (km (a,b) i))/\cj 10 (iC e m pq (km (a',b') j)):=by
 obtain⟨M,m0,m1,m2⟩:=hc.pt (abz sc) i
 obtain⟨L,l0,l1,l2⟩:=hx.pt (abz sx) j
 obtain⟨B,hB⟩:∃ B,216*40 ^ 3*1440 ^ 3=B:=⟨_,rfl⟩
 rw [hB] at m1 m2 l1 l2
 have hT:∀ k',k'<3->ck (M*L) (B*L+B*M) ((fy (iC d k po (km (a,b) i)) (iC e m pq (km (a',b') j))).at k'):=fun k' hk=>by
  rw [aA9]
  have h2:=(l2 k' hk).scale (E:=M)
  rw [Nat.mul_comm L M] at h2
  exact((m2 k' hk).scale (E:=L)).alV h2
 have p1:M*L<=B*B:=Nat.mul_le_mul m1 l1
 have p2:B*L+B*M<=B*B+B*B:=Nat.add_le_add (Nat.mul_le_mul_left _ l1) (Nat.mul_le_mul_left _ m1)
 have hML:0<M*L:=Nat.mul_pos m0 l0
 have hsm:B*B+B*B<4294967296 ^ 10:=by rw [<-hB];decide +kernel
 have bnd:∀ (x:V3) (D' N':Nat),0<D'->D'<=B*B->N'<=B*B+B*B->(∀ k',k'<3->ck D' N' (x.at k'))->cj 10 x:=fun x D' N' h0 h1 h2 h=>⟨(h 0 ai).rl h0 J J ai,(h 1 ai).rl h0 J J ai,(h 2 ai).rl h0 J J ai⟩
 have hBB:B<=B*B:=Nat.le_mul_of_pos_left _ J
 refine⟨⟨⟨hx.d1,hx.d3,hx.ab,hx.ca,hx.cb,?_⟩,⟨_,_,aAt (abz sx) hML hT,?_,?_⟩,fun q hq=>?_⟩,bnd _ _ _ hML p1 p2 hT,bnd _ _ _ m0 J J m2,bnd _ _ _ l0 J J l2⟩
 ·rw [List.length_map];exact hx.kn
 ·exact Nat.le_trans (Nat.mul_le_mul_left _ p1) (by rw [<-hB];decide +kernel)
 ·exact Nat.le_trans (Nat.add_le_add (Nat.mul_le_mul_left _ p1) (Nat.mul_le_mul_left _ p2)) (by rw [<-hB];decide +kernel)
 ·obtain⟨y,hy,rfl⟩:=List.mem_map.1 hq
  have hi:=acp hc.ab i
  have hj:=acp hx.ab j
  have z1:=aqb hc (fun q hq=>(sc q hq).2.2.2) hi.1 hi.2 (Nat.le_trans (aem hc.ca hc.cb i) ai)
  have z2:=aqb hx (fun q hq=>(sx q hq).2.2.2) hj.1 hj.2 (Nat.le_trans (aem hx.ca hx.cb j) ai)
  show y.p.z+((iC d k po (km (a,b) i)).z-(iC e m pq (km (a',b') j)).z)=0
  rw [z1,z2,(sx y hy).2.2.2];decide +kernel
theorem amE (T:V3):qG (p9 T)=xy T:=by
 funext q
 show (⟨⟨0+1*q.p.x+0*q.p.y+0*q.p.z+T.x,0+0*q.p.x+1*q.p.y+0*q.p.z+T.y,0+0*q.p.x+0*q.p.y+1*q.p.z+T.z⟩,q.w⟩:aF)=⟨⟨q.p.x+T.x,q.p.y+T.y,q.p.z+T.z⟩,q.w⟩
 congr 2<;>grind
theorem asx {D W:Nat} {wd:Rat} {lk:iV} {I:ez->Prop} {Q:gX->Prop} (hH:∀ x,I x->x.2.1<D->I (lU x)/\I (lQ x)) (hC:∀ x v,I x->v=(false,0,0)\/v=lk (x.1.take 1) (x.1.drop 1)->Q (mr 1 x v)) {s:RunT} (h0:∀ x∈s.1,I x) (h:∀ c∈s.2.2,Q c):∀ c∈(rQ D W 1 wd lk s).2.2,Q c:=by
 have:=abF (D:=D) (W:=W) (na:=1) (wd:=wd) (lk:=lk) (fun s=>(∀ x∈s.1,I x)/\∀ c∈s.2.2,Q c) (fun x st n cs yF=>by
  obtain⟨hA,hI⟩:=yF
  have fx:=hA x aO
  have cQ:∀ y∈st,I y:=fun y hy=>hA y (by simp [hy])
  have hq:∀ v,v=(false,0,0)\/v=lk (x.1.take 1) (x.1.drop 1)->∀ c∈cs++[mr 1 x v],Q c:=fun v hv c hc=>by
   rcases List.mem_append.1 hc with g | g
   ·exact hI c g
   ·rw [List.mem_singleton.1 g];exact hC x v fx hv
  rw [lR]
  split
  ·exact⟨cQ,hq _ (.inl rfl)⟩
  ·split
   ·exact⟨cQ,hI⟩
   ·split
    ·exact⟨cQ,hq _ (.inr rfl)⟩
    ·rename_i jC
     have bE:x.2.1<D:=by
      rcases Nat.lt_or_ge x.2.1 D with g | g
      ·exact g
      ·exact absurd (agp (x:=x) (wd:=wd) g) jC
     have hh:=hH x fx bE
     refine⟨fun y hy=>?_,hI⟩
     simp only [List.mem_cons] at hy
     rcases hy with rfl | rfl | hy
     ·exact hh.1
     ·exact hh.2
     ·exact cQ y hy) (fh D s.1) (Nat.le_refl _) ⟨h0,h⟩ (abw D W 1 wd lk s)
 exact this.1.2
section
variable {d w:Nat} {wd:Rat} {lk:cI->cI->iV} {dm:cI->Sp} {Q:gX->Prop}
theorem aqD {c:cI}:∀ (l:List cI) {s:ll},(∀ e∈l,∀ s:ll,(∀ x∈s.2,Q x)->∀ x∈(pg d w wd lk dm c e s).2,Q x)->(∀ x∈s.2,Q x)->∀ x∈(ny d w wd lk dm c l s).2,Q x
 | [],_,_,h=>h
 | e :: l,s,hp,h=>aqD l (s:=pg d w wd lk dm c e s) (fun e he=>hp e (by simp [he])) (hp e aO s h)
theorem akE {m:List cI}:∀ (l:List cI) {s:ll},(∀ c∈l,∀ e∈m,∀ s:ll,(∀ x∈s.2,Q x)->∀ x∈(pg d w wd lk dm c e s).2,Q x)->(∀ x∈s.2,Q x)->∀ x∈(pG d w wd lk dm l m s).2,Q x
 | [],_,_,h=>h
 | c :: l,s,hp,h=>akE l (s:=ny d w wd lk dm c m s) (fun c hc=>hp c (by simp [hc])) (aqD m (hp c aO) h)
theorem aqL (hd:d<=10) (hW:w<=4096) {c:cI}:∀ (l:List cI) {s:ll} {n:Nat},s.1<=4096->s.2.length<=n->(ny d w wd lk dm c l s).1<=4096/\(ny d w wd lk dm c l s).2.length<=n+2048*l.length
 | [],s,n,h1,h2=>⟨h1,h2⟩
 | e :: l,s,n,h1,h2=>by
  obtain⟨g1,g2⟩:=aqH (wd:=wd) (lk:=lk) (dm:=dm) (c:=c) (e:=e) hd hW h1 h2
  obtain⟨k1,k2⟩:=aqL hd hW (c:=c) l (s:=pg d w wd lk dm c e s) (n:=n+2048) g1 g2
  refine⟨k1,Nat.le_trans k2 ?_⟩
  simp only [List.length_cons];omega
theorem ap2 (hd:d<=10) (hW:w<=4096) {m:List cI} (hm:m.length<=10):∀ (l:List cI) {s:ll} {n:Nat},s.1<=4096->s.2.length<=n->(pG d w wd lk dm l m s).1<=4096/\(pG d w wd lk dm l m s).2.length<=n+20480*l.length
 | [],s,n,h1,h2=>⟨h1,h2⟩
 | c :: l,s,n,h1,h2=>by
  obtain⟨g1,g2⟩:=aqL (wd:=wd) (lk:=lk) (dm:=dm) hd hW (c:=c) m h1 h2
  obtain⟨k1,k2⟩:=ap2 hd hW hm l (s:=ny d w wd lk dm c m s) (n:=n+20480) g1 J
  refine⟨k1,Nat.le_trans k2 ?_⟩
  simp only [List.length_cons];omega
end
theorem atI {d w:Nat} {wd:Rat} {lA lB:List gJ} {Q:gX->Prop} (h:∀ p∈lA,∀ q∈lB,∀ x v,qt d p.a p.b q.a q.b x->v=(false,0,0)\/v=tb p q (x.1.take 1) (x.1.drop 1)->Q (mr 1 x v)):∀ c∈(ov d w wd lA lB).2,Q c:=by
 refine akE _ (fun c hc e he s hs=>?_) (fun x hx=>by cases hx)
 obtain⟨p,hp,rfl⟩:=List.mem_map.1 hc
 obtain⟨q,hq,rfl⟩:=List.mem_map.1 he
 refine asx (I:=qt d (gi (hY p)).a (gi (hY p)).b (gi (hY q)).a (gi (hY q)).b) (fun x=>aix) (fun x v hx hv=>?_) (fun x hx=>?_) hs
 ·rw [wN,wN] at hx
  have hv:v=(false,0,0)\/v=tb (gi (hY p)) (gi (hY q)) (x.1.take 1) (x.1.drop 1):=hv
  rw [wN,wN] at hv
  exact h p hp q hq x v hx hv
 ·rw [List.mem_singleton.1 hx]
  exact agN ..
theorem aBJ {d w:Nat} {wd:Rat} {lA lB:List gJ} (hd:d<=10) (hw:w<=4096) (hA:lA.length<=10) (hB:lB.length<=10):(ov d w wd lA lB).2.length<=204800:=by
 have:=(ap2 (wd:=wd) (lk:=fun c e=>tb (gi c) (gi e)) (dm:=fun c=>((gi c).a,(gi c).b)) hd hw (m:=lB.map hY) (by rw [List.length_map];exact hB) (lA.map hY) (s:=(0,[])) (n:=0) (Nat.zero_le _) (Nat.le_refl _)).2
 rw [List.length_map] at this
 unfold ov
 omega
def aoR (c:gX):Prop:=∃ s r:Sp,c.1=[s]/\c.2.1=[r]/\rl s.1<=100/\rl s.2<=100/\rl r.1<=100/\rl r.2<=100/\s.1<s.2/\r.1<r.2
theorem awe {d:Nat} {a b a' b':Rat} (hd:d<=24) (cu:a<b) (aBg:a'<b') (h1:rl a<=30) (h2:rl b<=30) (h3:rl a'<=30) (h4:rl b'<=30) {x:ez} {v:Bool × Nat × Nat} (h:qt d a b a' b' x):aoR (mr 1 x v):=by
 obtain⟨s,r,i,j,e,f,qI,hle,hs,hr⟩:=h
 have g1:=hs.rl J
 have g2:=hr.rl J
 refine⟨cK a b s,cK a' b' r,by unfold mr;rw [e];rfl,by unfold mr;rw [e];rfl,?_,?_,?_,?_,aaz cu hs.2.2.2.1,aaz aBg hr.2.2.2.1⟩
 ·have:=ub h1 h2 g1.1;show rl (a+(b-a)*s.1)<=_;omega
 ·have:=ub h1 h2 g1.2;show rl (a+(b-a)*s.2)<=_;omega
 ·have:=ub h3 h4 g2.1;show rl (a'+(b'-a')*r.1)<=_;omega
 ·have:=ub h3 h4 g2.2;show rl (a'+(b'-a')*r.2)<=_;omega
theorem jQ.b4 {C:List Q4} {D N k:Nat} (c:jQ (C.map dX) D N) (hw:∀ q∈C,0<q.w) (hN:N<4294967296 ^ k) (hD:D<4294967296 ^ k) (hk:1<=k):∀ q∈C,n5 k q:=fun q hq=>by
 obtain⟨n0,n1,n2,n3⟩:=acR hw
 exact⟨(c.n 0 _ (by rw [n0];exact List.mem_map.2 ⟨q,hq,rfl⟩)).rl c.D0 hN hD hk,(c.n 1 _ (by rw [n1];exact List.mem_map.2 ⟨q,hq,rfl⟩)).rl c.D0 hN hD hk,(c.n 2 _ (by rw [n2];exact List.mem_map.2 ⟨q,hq,rfl⟩)).rl c.D0 hN hD hk,(c.w _ (by rw [n3];exact List.mem_map.2 ⟨q,hq,rfl⟩)).rl c.D0 hN hD hk⟩
theorem ac6 {po:List aF} {D N k:Nat} (c:jQ po D N) (hN:N<4294967296 ^ k) (hD:D<4294967296 ^ k) (hk:1<=k):∀ q∈po.map cS,n5 k q:=fun q hq=>by
 obtain⟨z,hz,rfl⟩:=List.mem_map.1 hq
 exact⟨(c.n 0 _ (List.mem_map.2 ⟨z,hz,rfl⟩)).rl c.D0 hN hD hk,(c.n 1 _ (List.mem_map.2 ⟨z,hz,rfl⟩)).rl c.D0 hN hD hk,(c.n 2 _ (List.mem_map.2 ⟨z,hz,rfl⟩)).rl c.D0 hN hD hk,(c.w _ (List.mem_map.2 ⟨z,hz,rfl⟩)).rl c.D0 hN hD hk⟩
theorem og {n:Nat} (h:n<=2 ^ 200):n<4294967296 ^ 7:=Nat.lt_of_le_of_lt h an
theorem abJ {n E d:Nat} (h:n<=2 ^ 200) (hE:E<=40) (hd:d<=3):n*E ^ d<4294967296 ^ 7:=Nat.lt_of_le_of_lt (Nat.mul_le_mul h (ag2 hE ai hd)) an
theorem apc {d:Nat} {k:List Rat} {po:List aF} {a b s:Rat} (h:kv d k po a b) (h1:a<=s) (h2:s<=b) (hr:rl s<=1000):av Tryz.prog 19 [.agg [ah d,.list 3 (k.map ae),.list 12 (po.map aT)],ae s] (.a7 [aS (iC d k po s),iL 0]):=by
 obtain⟨hi,hs,hl⟩:=h.dr.iv h1 h2 hr
 obtain⟨D,N,c,hD,hN⟩:=h.c
 exact avl d k _ s hi po 7 ai hl (c.okR (og hN) (og hD) ai) hs
theorem aeY (d:Nat) (k:List Rat) (po:List aF):(lW d k po).length<=2:=by unfold lW;split<;>simp
theorem avK {q:aF} (h:0<q.w):dX (cS q)=q:=by
 obtain⟨⟨x,y,z⟩,w⟩:=q
 have h:(0:Rat)<w:=h
 have e:∀ x:Rat,w*x/w=x:=fun x=>by rw [Rat.mul_comm,Rat.mul_div_cancel cA]
 show (⟨⟨w*x/w,w*y/w,w*z/w⟩,w⟩:aF)=_
 rw [e,e,e]
theorem asD {d:Nat} {a b:Rat} {C:List Q4} (cu:a<b) (hC:C.length=d+1):adh d a b C a b=C:=by
 unfold adh
 refine List.ext_getElem (by simp [hC]) fun i g1 g2=>?_
 have hi:i<d+1:=by simpa using g1
 have e:∀ f:Q4->Rat,wV d a b (C.map f) (List.replicate (d-i) a++List.replicate i b)=f C[i]:=fun f=>by
  rw [<-arU J,asM cu (by rw [List.length_map];exact hC) J,List.getD_eq_getElem?_getD,List.getElem?_map,List.getElem?_eq_getElem g2];rfl
 simp only [List.getElem_map,List.getElem_range,pol,e]
theorem awB (d:Nat) (a b:Rat) (po:List aF) (h1:1<=d) (h6:d<=6) (cu:a<b) (ha:rl a<=64) (hb:rl b<=64) (hl:po.length=d+1) (wJ:∀ q∈po,oF 7 q) (hQ:∀ q∈po.map cS,n5 7 q):av Tryz.prog 39 [.agg [ah d,.list 3 ((bl d a b).map ae),.list 12 (po.map aT)]] (.list 3 [dv (d,bl d a b,po)]):=by
 have hk:=aBV h1 h6 cu ha hb
 have fY:=jT d a b
 have jb:=aaR (d:=d) ha hb
 have hC:(po.map cS).length=d+1:=by rw [List.length_map,hl]
 have hw:∀ q∈po.map cS,0<q.w:=fun q hq=>by obtain⟨z,hz,rfl⟩:=List.mem_map.1 hq;exact(wJ z hz).2.2
 have e:(po.map cS).map dX=po:=by
  rw [List.map_map]
  exact(List.map_congr_left fun q hq=>avK (wJ q hq).2.2).trans (List.map_id _)
 have main:=arh d (bl d a b) [a,b] po (fun _=>po.map cS) 1 rfl ai J J jb (axc cu) (apD d (bl d a b) po hk J) (ak6 d (bl d a b) po 7 ai ai J J (fun x hx=>Nat.le_trans (jb x hx) ai) J wJ)
  (fun i hi=>by
   obtain rfl:i=0:=by omega
   have:=aAY d a b a b (po.map cS) 7 h1 h6 Rat.le_refl cu Rat.le_refl ha hb ha hb hC ai ai hQ
   rw [asD cu hC] at this
   exact this)
  (fun i hi=>by
   obtain rfl:i=0:=by omega
   exact aiB d (bl d a b) _ 7 ai J J (fun x hx=>Nat.le_trans (jb x hx) ai) J fun q hq=>⟨hQ q hq,hw q hq⟩)
 have e2:((List.range 1).map fun i=>((d,bl d ([a,b].getD i 0) ([a,b].getD (i+1) 0),((fun _=>po.map cS) i).map dX):cI))=[(d,bl d a b,po)]:=by
  show [((d,bl d a b,(po.map cS).map dX):cI)]=_
  rw [e]
 rw [e2] at main
 exact main
theorem arO {d:Nat} {k:List Rat} {po:List aF} {a b:Rat} (h:kv d k po a b):av Tryz.prog 39 [.agg [ah d,.list 3 (k.map ae),.list 12 (po.map aT)]] (.list 3 (((lW d k po).map hY).map dv)):=by
 obtain⟨D,N,c,hD,hN⟩:=h.c
 have hd:=h.dr.d1
 have h3:=h.dr.d3
 have ra:=qg h.dr.ca
 have rb:=qg h.dr.cb
 rcases h.dr.kn with⟨rfl,hl⟩ | ⟨t,g1,g2,ht,rfl,hl⟩
 ·rw [abD hl]
  exact awB d a b po hd J h.dr.ab J J hl (c.okR (og hN) (og hD) ai) (ac6 c (og hN) (og hD) ai)
 ·rw [aiZ hl]
  have rt:=qg ht
  have hC:(po.map cS).length=d+2:=by rw [List.length_map,hl]
  have hw:∀ q∈po.map cS,0<q.w:=fun q hq=>by obtain⟨z,hz,rfl⟩:=List.mem_map.1 hq;exact c.p z hz
  obtain⟨E,e0,e1,e2⟩:=ahD ai ht h.dr.ca h.dr.cb (Rat.le_of_lt g1) (Rat.le_of_lt g2) h.dr.ab
  have wA:=ah8 g1 g2 hC hw
  have wZ:=agT g1 g2 hC hw
  have bA:=(anX g1 g2 hl c e0 e2).b4 wA (abJ hN e1 h3) (abJ hD e1 h3) ai
  have bZ:=(anu g1 g2 hl c e0 e2).b4 wZ (abJ hN e1 h3) (abJ hD e1 h3) ai
  exact awK d a t b po 7 7 hd J g1 g2 J J J hl ai ai (c.okR (og hN) (og hD) ai) (fun q hq=>⟨Nat.le_trans (ac6 c (og hN) (og hD) ai q hq).1 ai,Nat.le_trans (ac6 c (og hN) (og hD) ai q hq).2.1 ai,Nat.le_trans (ac6 c (og hN) (og hD) ai q hq).2.2.1 ai,Nat.le_trans (ac6 c (og hN) (og hD) ai q hq).2.2.2 ai⟩) (awD hd J g1 g2 J J J) (auN g1 g2) ai (fun q hq=>⟨bA q hq,wA q hq⟩) (fun q hq=>⟨bZ q hq,wZ q hq⟩) (by simp [kh];omega) (by simp [ka];omega)
theorem kv.pk {d:Nat} {k:List Rat} {po:List aF} {a b:Rat} (h:kv d k po a b) {Dp:Nat} (hDp:Dp<=24):∀ q∈lW d k po,∃ D N,yR q Dp D N:=fun q hq=>by
 obtain⟨D,N,c,hD,hN⟩:=h.c
 obtain⟨E,e0,e1,hP⟩:=h.dr.pcs c
 have hp:=hP q hq
 have h7:(4294967296:Nat) ^ 7<=4294967296 ^ 80:=Nat.pow_le_pow_right ai ai
 have ra:=qg hp.ca
 have rb:=qg hp.cb
 obtain⟨qd,qa,qb,qp⟩:=q
 obtain rfl:qd=d:=hp.dd
 exact⟨_,_,aww h.dr.d1 h.dr.d3 hp.ab (by show rl qa<=30;exact Nat.le_trans ra ai) (by show rl qb<=30;exact Nat.le_trans rb ai) hp.l hp.c (Nat.lt_of_lt_of_le (abJ hN e1 h.dr.d3) h7) (Nat.lt_of_lt_of_le (abJ hD e1 h.dr.d3) h7) hDp⟩
theorem ajH {d e:Nat} {k m:List Rat} {po pq:List aF} {a b a' b':Rat} (h:kv d k po a b) (g:kv e m pq a' b') (dn w:Nat) (wd:Rat) (hd:dn<=10) (hw:w<=4096) (hwd:rl wd<=100) (hVa:av Tryz.prog 37 [.agg [ah dn,ah w,ae wd]] (bL true)) :
  av Tryz.prog 14 [.agg [ah d,.list 3 (k.map ae),.list 12 (po.map aT)],.agg [ah e,.list 3 (m.map ae),.list 12 (pq.map aT)],.agg [ah dn,ah w,ae wd]] (.a7 [.list 4 ((ov dn w wd (lW d k po) (lW e m pq)).2.map eY),iL 0]):=by
 have h3:=h.dr.d3
 have g3:=g.dr.d3
 have hl:po.length<=d+2:=by rcases h.dr.kn with⟨_,e⟩ | ⟨_,_,_,_,_,e⟩<;>omega
 have gl:pq.length<=e+2:=by rcases g.dr.kn with⟨_,e⟩ | ⟨_,_,_,_,_,e⟩<;>omega
 have l1:=aeY d k po
 have l2:=aeY e m pq
 exact azg d e k m po pq J J h.z g.z _ _ J J dn w wd hd hw hwd hVa (arO h) (arO g) (h.pk J) (g.pk J)
theorem kv.cells {d e:Nat} {k m:List Rat} {po pq:List aF} {a b a' b':Rat} (h:kv d k po a b) (g:kv e m pq a' b') {dn w:Nat} {wd:Rat} (hd:dn<=24):∀ c∈(ov dn w wd (lW d k po) (lW e m pq)).2,aoR c:=atI fun p hp q hq x v hx _=>by
 obtain⟨_,_,kp⟩:=h.pk hd p hp
 obtain⟨_,_,kq⟩:=g.pk hd q hq
 exact awe hd kp.ab kq.ab kp.ra kp.rb kq.ra kq.rb hx
theorem kv.aBc {d e:Nat} {k m:List Rat} {po pq:List aF} {a b a' b':Rat} (h:kv d k po a b) (g:kv e m pq a' b') {dn w:Nat} {wd:Rat} {t u:Rat} (t1:a<=t) (t2:t<=b) (u1:a'<=u) (u2:u<=b') (he:iC d k po t=iC e m pq u):∃ c∈(ov dn w wd (lW d k po) (lW e m pq)).2,iz c t u:=by
 obtain⟨D,N,c,hD,hN⟩:=h.c
 obtain⟨D',N',c',hD',hN'⟩:=g.c
 obtain⟨⟨p,hp,hpt,hpe⟩,_⟩:=h.dr.pp c t1 t2
 obtain⟨⟨q,hq,hqu,hqe⟩,_⟩:=g.dr.pp c' u1 u2
 obtain⟨_,_,kp⟩:=h.pk (Dp:=0) ai p hp
 obtain⟨_,_,kq⟩:=g.pk (Dp:=0) ai q hq
 exact ay1 hp hq kp.c kq.c kp.ab kq.ab hpt hqu (by rw [hpe,hqe,he])
theorem awi {x y z u v:LV} (h1:x.pure=true) (h2:y.pure=true) (h3:z.pure=true) (h4:u.pure=true) (h5:v.pure=true):∀ g,(LV.a7 [x,y,z,u,v]).bJ g=.a7 [x,y,z,u,v]:=fun g=>by
 simp only [LV.bJ,cW,LV.cP g x h1,LV.cP g y h2,LV.cP g z h3,LV.cP g u h4,LV.cP g v h5]
theorem avL {P:Program} {L:St} {a1 a2 a3 a4 t:Nat} {T1 T2 T3 T4:TypeId} {b1 b2 b3 b4 s1 s2 s3 s4:Nat} {x1 x2 x3 x4 x5:LV} {m1 m2 m3 m4:Bool} {n1 n2 n3 n4:Nat} {g1 g2 g3 g4:Bool}
  (h1:L.slot a1=.aA b1 s1 0 0) (k1:L.heap b1=some ⟨s1,[x1],m1⟩) (z1:x1.au=s1) (c1:x1.at 0 n1 g1=some x1) (y1:bp P T1 n1 g1) (w1:x1.pure=true)
  (h2:L.slot a2=.aA b2 s2 0 0) (k2:L.heap b2=some ⟨s2,[x2],m2⟩) (z2:x2.au=s2) (c2:x2.at 0 n2 g2=some x2) (y2:bp P T2 n2 g2) (w2:x2.pure=true)
  (h3:L.slot a3=.aA b3 s3 0 0) (k3:L.heap b3=some ⟨s3,[x3],m3⟩) (z3:x3.au=s3) (c3:x3.at 0 n3 g3=some x3) (y3:bp P T3 n3 g3) (w3:x3.pure=true)
  (h4:L.slot a4=.aA b4 s4 0 0) (k4:L.heap b4=some ⟨s4,[x4],m4⟩) (z4:x4.au=s4) (c4:x4.at 0 n4 g4=some x4) (y4:bp P T4 n4 g4) (w4:x4.pure=true)
  (h5:L.slot t=x5) (w5:x5.pure=true):nt P [.cell a1 T1,.cell a2 T2,.cell a3 T3,.cell a4 T4,.tmp t] L (.a7 [x1,x2,x3,x4,x5]) [] :=
 ⟨[x1,x2,x3,x4,x5],[x1,x2,x3,x4,x5],(L.bR []).heap,[],.cons ⟨b1,s1,0,0,_,x1,n1,g1,h1,k1,rfl,rfl,z1,c1,y1⟩ (.cons ⟨b2,s2,0,0,_,x2,n2,g2,h2,k2,rfl,rfl,z2,c2,y2⟩ (.cons ⟨b3,s3,0,0,_,x3,n3,g3,h3,k3,rfl,rfl,z3,c3,y3⟩ (.cons ⟨b4,s4,0,0,_,x4,n4,g4,h4,k4,rfl,rfl,z4,c4,y4⟩ (.cons h5 .nil)))),pv [] rfl,.cons (.cf (.pure w1)) (.cons (.cf (.pure w2)) (.cons (.cf (.pure w3)) (.cons (.cf (.pure w4)) (.cons (.cf (.pure w5)) .nil)))),List.nodup_nil,rfl,fun k b h=>by simp at h,rfl⟩
namespace alp
theorem aH {p q:Prop} (k:q) (e:p=q:=by simp only [e1,e2,e3,e4,p1,p2,p3,q1,q2,q3,l1,t0,t1,r1,r2,r3,r4,Nat.zero_add,Nat.reduceMul,Nat.reduceAdd,b1,b2,b3,b4,b5,b6,i1,i2,i3,i4,i5,i6,Nat.reduceBEq,h0,h1,rW,List.length_map,cy,List.set_cons_zero,List.set_cons_succ,Nat.reduceEqDiff,reduceIte,if_true,if_false,dU,eo,aP bg,aP bw,aP ao,cH,dO,LV.kill,bN];exact rfl):p:=e.mpr k
end alp
open alp in
theorem aqu (d:Nat) (k:List Rat) (po:List aF) (a b:Rat) (fY:0<k.length) (hk9:k.length<=1000) (h0:k.getD 0 0=a) (h1:k.getD (k.length-1) 0=b):av Tryz.prog 33 [.agg [ah d,.list 3 (k.map ae),.list 12 (po.map aT)]] (aD (a,b)):=by
 have fG:LV.pure (.agg [ah d,.list 3 (k.map ae),.list 12 (po.map aT)])=true:=by simp [LV.pure,aG,aW ao,aW bw]
 have rW:((k.length:Nat):Int).toNat-1=k.length-1:=by omega
 refine aN Tryz.func33 (ht:=(fun g=>LV.cP g _ (bS.pure _))) ?_
 refine aR ?_
 refine aY 13 an ?_
 refine bq ?_
 refine ak rfl jz ?_
 refine aR ?_
 exact rh
namespace arF
theorem aH {p q:Prop} (k:q) (e:p=q:=by simp only [e1,e2,e3,e4,p1,p2,p3,q1,q2,q3,l1,t0,t1,r1,r2,r3,r4,Nat.zero_add,Nat.reduceMul,Nat.reduceAdd,b1,b2,b3,b4,b5,b6,i1,i2,i3,i4,i5,i6,Nat.reduceBEq,wM,acY,acf,acB,List.set_cons_zero,List.set_cons_succ,Nat.reduceEqDiff,reduceIte,if_true,if_false,dU,eo,aP bg,aP bw,aP ao,cH,dO,LV.kill,bN];exact rfl):p:=e.mpr k
end arF
open arF in
theorem awV (l:List Int) (i j v:Int) (k1 k2 k3:Nat) (d e:Nat) (k m:List Rat) (po pq pf:List aF) (a b a' b' t u:Rat) (P Q:V3) (fY:0<k.length) (hk9:k.length<=1000) (tP:0<m.length) (hm9:m.length<=1000) (ha:k.getD 0 0=a) (hb:k.getD (k.length-1) 0=b) (ha':m.getD 0 0=a') (pX:m.getD (m.length-1) 0=b') (hNx:lH Tryz.prog 31 ⟨2,[ik l 0],true⟩ [.aA 0 2 0 0,iL 5] (iL v) ⟨2,[ik l k1],true⟩) (xm:lH Tryz.prog 32 ⟨2,[ik l k1],true⟩ [.aA 0 2 0 0,iL 3,iL 1,bL true] (.agg [ah d,.list 3 (k.map ae),.list 12 (po.map aT)]) ⟨2,[ik l k2],true⟩) (xh:lH Tryz.prog 32 ⟨2,[ik l k2],true⟩ [.aA 0 2 0 0,iL 3,iL 1,bL true] (.agg [ah e,.list 3 (m.map ae),.list 12 (pq.map aT)]) ⟨2,[ik l k3],true⟩) (hW1:av Tryz.prog 18 [aD (a,b),iL i] (ae t)) (hW2:av Tryz.prog 18 [aD (a',b'),iL j] (ae u)) (zw:av Tryz.prog 19 [.agg [ah d,.list 3 (k.map ae),.list 12 (po.map aT)],ae t] (.a7 [aS P,iL 0])) (vV:av Tryz.prog 19 [.agg [ah e,.list 3 (m.map ae),.list 12 (pq.map aT)],ae u] (.a7 [aS Q,iL 0])) (hSh:av Tryz.prog 34 [aS Q,aS P] (dV (p9 (fy P Q)))) (hMv:av Tryz.prog 28 [.agg [ah e,.list 3 (m.map ae),.list 12 (pq.map aT)],dV (p9 (fy P Q))] (.agg [ah e,.list 3 (m.map ae),.list 12 ((pq.map (qG (p9 (fy P Q)))).map aT)])) (hV1:v > 0->pf=(pq.map (qG (p9 (fy P Q))))) (hV2:¬v > 0->pf=pq):av Tryz.prog 10 [.list 1 (l.map eW),iL i,iL j] (.a7 [.agg [ah d,.list 3 (k.map ae),.list 12 (po.map aT)],.agg [ah e,.list 3 (m.map ae),.list 12 (pf.map aT)],ae t,ae u,bL (decide (v > 0))]):=by
 have fG:LV.pure (.agg [ah d,.list 3 (k.map ae),.list 12 (po.map aT)])=true:=by simp [LV.pure,aG,aW ao,aW bw,-List.map_map]
 have hcq:LV.pure (.agg [ah e,.list 3 (m.map ae),.list 12 (pq.map aT)])=true:=by simp [LV.pure,aG,aW ao,aW bw,-List.map_map]
 have s8:LV.pure (.agg [ah e,.list 3 (m.map ae),.list 12 (pf.map aT)])=true:=by simp [LV.pure,aG,aW ao,aW bw,-List.map_map]
 have hcm:LV.pure (.agg [ah e,.list 3 (m.map ae),.list 12 ((pq.map (qG (p9 (fy P Q)))).map aT)])=true:=by simp [LV.pure,aG,aW ao,aW bw,-List.map_map]
 refine aN Tryz.func10 (ht:=(awi agc agc (ao.pure _) (ao.pure _) rfl)) ?_
 refine bu ?_
 refine yD [] rfl rfl (.cons eJ .nil) (aB2 l) (cY l 0) rfl ?_
 refine az ?_
 refine kj 1000353 rfl rfl rfl (cY l _) (.cons .ptr (.cons (.cf (.pure rfl)) .nil)) .ptr hNx rfl (cY l _) rfl ?_
 refine aR ?_
 refine kj 1000353 rfl rfl rfl (cY l _) (.cons .ptr (.cons (.cf (.pure rfl)) (.cons (.cf (.pure rfl)) (.cons (.cf (.pure rfl)) .nil)))) .ptr xm rfl (cY l _) fG ?_
 refine ar ?_
 refine kj 1000353 rfl rfl rfl (cY l _) (.cons .ptr (.cons (.cf (.pure rfl)) (.cons (.cf (.pure rfl)) (.cons (.cf (.pure rfl)) .nil)))) .ptr xh rfl (cY l _) hcq ?_
 refine aR ?_
 refine aY 10 an ?_
 refine ar ?_
 refine cp aK (aqu d k po a b fY hk9 ha hb) ?_
 refine ar ?_
 refine cp aq (hW1) ?_
 refine ar ?_
 refine cp aK (aqu e m pq a' b' tP hm9 ha' pX) ?_
 refine ar ?_
 refine cp aq (hW2) ?_
 refine bu ?_
 refine aC rfl ?_ ?_<;>intro agd h38
 ·obtain rfl:=hV1 h38
  refine ax ?_
  refine cp aq (zw) ?_
  refine bu ?_
  refine cp aq (vV) ?_
  refine bf ?_
  refine aY 5 an ?_
  refine aJ ?_
  refine cp aq (hSh) ?_
  refine gL rfl (.cons (.pure hcq) (.cons (.pure (dN.pure _)) .nil)) hMv ?_
  refine ax ?_
  refine agt ((((aw.bV (t:=13) (b:=13) rfl rfl cs rfl fG).trans (aw.bV (t:=14) (b:=14) rfl rfl (by rw [LV.kt _ _ s8];exact cs) (by rw [LV.kt _ _ s8];rfl) (by rw [LV.kt _ _ s8];exact s8))).trans (aw.bV (t:=15) (b:=15) rfl rfl (by simp only [cH];exact ao.au _) (by simp only [cH];exact ao.isAgg _) (by simp only [cH];exact ao.pure _))).trans (aw.bV (t:=16) (b:=16) rfl rfl (by simp only [cH];exact ao.au _) (by simp only [cH];exact ao.isAgg _) (by simp only [cH];exact ao.pure _))) ?_
  refine aH ?_
  refine gu 0 rfl rfl an (.pure (.qA rfl fG rfl rfl)) (fun b=>LV.kt b _ fG) gv ?_
  refine gu 1 rfl rfl an (.pure (.qA rfl s8 rfl rfl)) (fun b=>LV.kt b _ s8) gv ?_
  refine gu 2 rfl rfl an (.pure (.qA rfl (ao.pure _) (ao.au _) (ao.isAgg _))) (fun b=>cH _ b) gv ?_
  refine gu 3 rfl rfl an (.pure (.qA rfl (ao.pure _) (ao.au _) (ao.isAgg _))) (fun b=>cH _ b) gv ?_
  refine gu 4 rfl rfl an (.pure (.move _)) jq gv ?_
  refine aV 5 _ an rfl ?_
  refine ar ?_
  refine aE ?_
  refine aV 6 _ an rfl ?_
  refine ar ?_
  refine aE ?_
  refine aV 7 _ an rfl ?_
  refine ar ?_
  refine aE ?_
  refine aV 8 _ an rfl ?_
  refine ar ?_
  refine aE ?_
  refine aV 9 _ an rfl ?_
  refine ar ?_
  refine aE ?_
  refine eO an ?_
  refine aL ?_
  exact amL
 ·obtain rfl:=hV2 h38
  refine aJ ?_
  refine agt ((((aw.bV (t:=13) (b:=13) rfl rfl cs rfl fG).trans (aw.bV (t:=14) (b:=14) rfl rfl (by rw [LV.kt _ _ s8];exact cs) (by rw [LV.kt _ _ s8];rfl) (by rw [LV.kt _ _ s8];exact s8))).trans (aw.bV (t:=15) (b:=15) rfl rfl (by simp only [cH];exact ao.au _) (by simp only [cH];exact ao.isAgg _) (by simp only [cH];exact ao.pure _))).trans (aw.bV (t:=16) (b:=16) rfl rfl (by simp only [cH];exact ao.au _) (by simp only [cH];exact ao.isAgg _) (by simp only [cH];exact ao.pure _))) ?_
  refine aH ?_
  refine gu 0 rfl rfl an (.pure (.qA rfl fG rfl rfl)) (fun b=>LV.kt b _ fG) gv ?_
  refine gu 1 rfl rfl an (.pure (.qA rfl s8 rfl rfl)) (fun b=>LV.kt b _ s8) gv ?_
  refine gu 2 rfl rfl an (.pure (.qA rfl (ao.pure _) (ao.au _) (ao.isAgg _))) (fun b=>cH _ b) gv ?_
  refine gu 3 rfl rfl an (.pure (.qA rfl (ao.pure _) (ao.au _) (ao.isAgg _))) (fun b=>cH _ b) gv ?_
  refine gu 4 rfl rfl an (.pure (.move _)) jq gv ?_
  refine aV 5 _ an rfl ?_
  refine ar ?_
  refine aE ?_
  refine aV 6 _ an rfl ?_
  refine ar ?_
  refine aE ?_
  refine aV 7 _ an rfl ?_
  refine ar ?_
  refine aE ?_
  refine aV 8 _ an rfl ?_
  refine ar ?_
  refine aE ?_
  refine aV 9 _ an rfl ?_
  refine ar ?_
  refine aE ?_
  refine eO an ?_
  refine aL ?_
  exact amL
theorem awT {α β:Type} [Inhabited α] (f:α->β) (l:List α) (d:α) {i:Nat} (h:i<l.length):(l.map f).take i++[f (l.getD i d)]=(l.map f).take (i+1):=by
 rw [List.take_add_one,List.getElem?_map,List.getD_eq_getElem?_getD,List.getElem?_eq_getElem h];rfl
namespace akm
theorem aH {p q:Prop} (k:q) (e:p=q:=by simp only [e1,e2,e3,e4,p1,p2,p3,q1,q2,q3,l1,t0,t1,r1,r2,r3,r4,Nat.zero_add,Nat.reduceMul,Nat.reduceAdd,b1,b2,b3,b4,b5,b6,i1,i2,i3,i4,i5,i6,Nat.reduceBEq,fB,gr,List.length_map,kW,kJ,iA,List.length_cons,List.length_nil,List.nil_append,List.map_nil,List.take_nil,List.append_nil,aP ao,List.set_cons_zero,List.set_cons_succ,Nat.reduceEqDiff,reduceIte,if_true,if_false,dU,eo,aP bg,aP bw,aP ao,cH,dO,LV.kill,bN];exact rfl):p:=e.mpr k
end akm
open akm in
theorem ayB (l:List Int) (hl:l.length<=1000) (hb:∀ x∈l,-1000<=x/\x<=1000):av Tryz.prog 68 [.list 1 (l.map eW)] (.list 3 ((l.map fun x:Int=>(x:Rat)).map ae)):=by
 refine aN Tryz.func68 ?_
 have fB:True:=trivial
 have gr:True:=trivial
 refine im ?_
 refine ju (aw.own (t:=3) 18 3 rfl rfl) ?_
 refine dG (fun(k:Nat) L=>((((St.mk L.slot (hp [(18,⟨3,((l.map fun x:Int=>(x:Rat)).take k).map ae,true⟩)])).put (some 0) (.list 1 (l.map eW))).put (some 3) (.ref 18 3 0 k)).put (some 4) (ah k))) (fun k=>k<=l.length) (fun k=>l.length-k) 0 (Nat.zero_le _) ?_
 rintro k L1 hk
 refine bq ?_
 refine aC rfl ?_ ?_<;>intro mX h8
 ·have kT:k<l.length:=by omega
  have jN:=hb (l.getD k 0) (by rw [List.getD_eq_getElem?_getD,List.getElem?_eq_getElem kT];exact List.getElem_mem kT)
  have gr:=awT (fun x:Int=>(x:Rat)) l 0 kT
  have fB:(((l.map fun x:Int=>(x:Rat)).take k).map ae).take k=((l.map fun x:Int=>(x:Rat)).take k).map ae:=List.take_of_length_le wI
  have hlr:(l.map fun x:Int=>(x:Rat)).length=l.length:=List.length_map ..
  refine bB ?_
  refine cp aK (oQ (l.getD k 0) J J) ?_
  refine ar ?_
  refine bI rfl (.ga (d:=18) (news:=[ae ((l.getD k 0):Rat)]) rfl rfl rfl rfl bm (.inl rfl) ai Tryz.underlying25 Tryz.underlying25 jY cJ rfl kA (.inl ⟨17,0,_,rfl,by decide,rfl,rfl,by simp,rfl,by simp [aG,ao.pure]⟩) bm bm ai) ?_
  refine ax ?_
  refine cq (aw.kill _ 17) ?_
  refine ar ?_
  refine ak rfl cB ?_
  refine aJ ?_
  exact iJ (k+1) J
 ·obtain rfl:k=l.length:=by omega
  have hE:(l.map fun x:Int=>(x:Rat)).take l.length=(l.map fun x:Int=>(x:Rat)):=List.take_of_length_le (by rw [List.length_map];exact Nat.le_refl _)
  simp only [hE]
  refine bu ?_
  exact mL [18] rfl rfl (eM (l:=(l.map fun x:Int=>(x:Rat))) ao rfl rfl (by rw [List.length_map]))
open fN in
theorem ap8 (p:V3):av Tryz.prog 69 [aS p,iL 1] (aT ⟨p,1⟩):=by
 have pC:av Tryz.prog 13 [iL 1] (ae 1):=oQ 1 ai ai
 refine aN Tryz.func69 (ht:=(fun g=>LV.cP g _ (bw.pure _))) ?_
 refine aR ?_
 refine aY 4 an ?_
 refine aL ?_
 refine cp aK (pC) ?_
 refine pH (yT (p:=p) (r:=1) rfl rfl) ?_
 refine ax ?_
 exact fW [] rfl rfl rfl cs (dJ cs rfl) rT (.pure pu)
def mN (a b:V3):List aF:=[⟨a,1⟩,⟨b,1⟩]
open vj in
theorem afT (x y:Int) (hx:-1000<=x/\x<=1000) (hy:-1000<=y/\y<=1000):av Tryz.prog 30 [iL x,iL y] (aS ⟨(x:Rat),(y:Rat),0⟩):=by
 refine aN Tryz.func30 (ht:=(fun r=>LV.cP r _ (bg.pure _))) ?_
 refine bf ?_
 refine cp aK (oQ x J J) ?_
 refine ar ?_
 refine cp aK (oQ y J J) ?_
 refine pH (ajk rfl rfl) ?_
 refine ax ?_
 exact qo
namespace apX
theorem aH {p q:Prop} (k:q) (e:p=q:=by simp only [e1,e2,e3,e4,p1,p2,p3,q1,q2,q3,l1,t0,t1,r1,r2,r3,r4,Nat.zero_add,Nat.reduceMul,Nat.reduceAdd,b1,b2,b3,b4,b5,b6,i1,i2,i3,i4,i5,i6,Nat.reduceBEq,dU,wM,acY,List.getD_cons_zero,List.getD_cons_succ,List.set_cons_zero,List.set_cons_succ,Nat.reduceEqDiff,reduceIte,if_true,if_false,dU,eo,aP bg,aP bw,aP ao,cH,dO,LV.kill,bN];exact rfl):p:=e.mpr k
end apX
open apX in
theorem aks (a b:V3):av Tryz.prog 24 [aS a,aS b] (.agg [ah 1,.list 3 ((bl 1 0 1).map ae),.list 12 ((mN a b).map aT)]):=by
 have qZ:=eB ao 3 (bl 1 0 1)
 have hI4:av Tryz.prog 68 [.list 1 (([0,0,1,1]:List Int).map eW)] (.list 3 ((bl 1 0 1).map ae)):=by
  have:=ayB [0,0,1,1] ai ai
  rwa [show (([0,0,1,1]:List Int).map fun x:Int=>(x:Rat))=bl 1 0 1 from by decide +kernel] at this
 refine aN Tryz.func24 (ht:=(fun g=>LV.cP g _ (by simp [LV.pure,aG,aW ao,aW bw]))) ?_
 refine bf ?_
 refine aY 8 an ?_
 refine eI rfl rfl (.ak2 (a:=0) (b:=0) (c:=1) (f:=1) m8 Tryz.underlying123 (show cU _ _ (eW 0) from Z2) T2 rfl rfl rfl rfl ai ai) ?_
 refine aH ?_
 refine afv [5] rfl rfl (.cons (eM (l:=[0,0,1,1]) m8 rfl rfl rfl) .nil) (hI4) ?_
 refine ar ?_
 refine gL rfl (.cons (.pure (bg.pure a)) (.cons (.pure rfl) .nil)) (ap8 a) ?_
 refine ar ?_
 refine gL rfl (.cons (.pure (bg.pure b)) (.cons (.pure rfl) .nil)) (ap8 b) ?_
 refine eI rfl rfl (.aml (a:=⟨a,1⟩) (b:=⟨b,1⟩) (z:=⟨⟨0,0,0⟩,0⟩) bw Tryz.underlying26 (show cU _ _ (aT ⟨⟨0,0,0⟩,0⟩) from zq) rT rfl rfl ai ai) ?_
 refine aZ ?_
 exact fW [11] rfl rfl rfl cs (dJ cs rfl) jI (.agg (.cons (.pure rfl) (.cons (.pure qZ) (.cons (eM (l:=mN a b) bw rfl rfl rfl) .nil))))
theorem asQ {x:Rat} (h:0<=x):cM x>=0:=by
 unfold cM
 split
 ·decide
 ·rw [if_neg cA];decide
def qX (n:Int):Rat:=if n % 3=2 then((1:Int):Rat)/((1+n % 5:Int):Rat) else 0
open agn in
theorem aiT (d w:Nat) (wd:Rat) (hd:d<=24) (hw:w<=4096) (h0:0<=wd) (hr:rl wd<=100):av Tryz.prog 37 [.agg [ah d,ah w,ae wd]] (bL true):=by
 have hVa:=aCA wd J
 have yo:=uW wd J
 have hp:LV.pure (.agg [ah d,ah w,ae wd])=true:=by simp [LV.pure,aG,ao.pure]
 refine aN Tryz.func37 ?_
 refine bu ?_
 refine ak (a6 (v:=true) rfl rfl ((decide_eq_true J)) rfl) lZ ?_
 refine ak (a6 (v:=true) rfl rfl ((decide_eq_true J)) rfl) il ?_
 refine ak (a6 (v:=true) rfl rfl ((decide_eq_true J)) rfl) (.bin rfl rfl rfl) ?_
 refine ak rfl (.mM rfl ((decide_eq_true J))) ?_
 refine ar ?_
 refine ak (a6 (v:=true) rfl rfl ((decide_eq_true J)) rfl) lZ ?_
 refine ak (a6 (v:=true) rfl rfl ((decide_eq_true J)) rfl) il ?_
 refine ak (a6 (v:=true) rfl rfl ((decide_eq_true J)) rfl) (.bin rfl rfl rfl) ?_
 refine ak rfl (.mM rfl ((decide_eq_true J))) ?_
 refine ar ?_
 refine ak (a6 (v:=true) rfl rfl ((decide_eq_true J)) rfl) lZ ?_
 refine ak (a6 (v:=true) rfl rfl ((decide_eq_true J)) rfl) il ?_
 refine ak (a6 (v:=true) rfl rfl ((decide_eq_true J)) rfl) (.bin rfl rfl rfl) ?_
 refine ak rfl (.mM rfl ((decide_eq_true J))) ?_
 refine ar ?_
 refine ak (a6 (v:=true) rfl rfl ((decide_eq_true J)) rfl) lZ ?_
 refine ak (a6 (v:=true) rfl rfl ((decide_eq_true J)) rfl) il ?_
 refine gL (a6 (v:=true) rfl rfl ((decide_eq_true J)) rfl) (.cons eJ .nil) (hVa) ?_
 refine ak rfl (.mM rfl ((decide_eq_true J))) ?_
 refine ar ?_
 refine ak (a6 (v:=true) rfl rfl ((rfl)) rfl) lZ ?_
 refine ak (a6 (v:=true) rfl rfl ((rfl)) rfl) il ?_
 refine gL (a6 (v:=true) rfl rfl ((rfl)) rfl) (.cons eJ .nil) (yo) ?_
 refine ak (a6 (v:=true) rfl rfl ((rfl)) rfl) (.bin rfl rfl rfl) ?_
 refine ak rfl (.mM rfl ((rfl))) ?_
 refine ax ?_
 refine dB (x:=bL (decide (cM wd>=0))) rfl ?_
 rw [show decide (cM wd>=0)=true from decide_eq_true (asQ h0)]
 exact .pure rfl
open fN in
theorem axn (depth work width:Int) (dn wn:Nat) (jC:depth % 7=(dn:Int)) (hwn:work % 40=(wn:Int)):av Tryz.prog 11 [iL depth,iL work,iL width] (.agg [ah dn,ah wn,ae (qX width)]):=by
 have hM1:av Tryz.prog 12 [iL depth,iL 7] (ah dn):=by
  have:=aat depth 7 ai ai
  rwa [jC] at this
 have hM2:av Tryz.prog 12 [iL work,iL 40] (ah wn):=by
  have:=aat work 40 ai ai
  rwa [hwn] at this
 have h5a:=Int.emod_nonneg width (show (5:Int)≠0 by decide)
 have h5b:=Int.emod_lt_of_pos width (show (0:Int)<5 by decide)
 refine aN Tryz.func11 (ht:=(fun g=>LV.cP g _ (by simp [LV.pure,aG,ao.pure]))) ?_
 refine bf ?_
 refine cp aq (hM1) ?_
 refine ar ?_
 refine cp aq (hM2) ?_
 refine ak rfl (show aB _ _ _ _ (.agg [ah dn,ah wn,ae 0]) from .build (zs:=[.v (.int .i64 0),.v (.int .i64 0),ae 0]) (by simpa [lay,LV.au,cF,aaD,ao.au,ao.isAgg] using afd) Z35 (by simp only [List.forall_mem_cons];exact⟨⟨_,rfl,rfl,kH⟩,⟨_,rfl,rfl,kH⟩,fun _ h=>by cases h⟩)) ?_
 refine bf ?_
 refine cp aq (aat width 3 ai ai) ?_
 refine aJ ?_
 refine aC rfl ?_ ?_<;>intro nH lJ
 ·have hV:qX width=((1:Int):Rat)/((1+width % 5:Int):Rat):=if_pos (by simpa using lJ)
  refine aL ?_
  refine cp aq (aat width 5 ai ai) ?_
  refine ak rfl v8 ?_
  refine cp aq (zf 1 (1+width % 5) J J J J J) ?_
  refine bo ?_
  rw [hV]
  exact fW [] rfl rfl rfl cs (dJ cs rfl) T35 (.pure (by simp [LV.pure,aG,ao.pure]))
 ·have hV:qX width=0:=if_neg (by simpa using lJ)
  refine bq ?_
  rw [hV]
  exact fW [] rfl rfl rfl cs (dJ cs rfl) T35 (.pure (by simp [LV.pure,aG,ao.pure]))
theorem azw (a b:V3):pV a (fy b a)=b:=by
 show (⟨_,_,_⟩:V3)=_
 simp only [fy]
 congr 1<;>grind
theorem au4 (n:Int):0<=qX n/\rl (qX n)<=1:=by
 have h1:=Int.emod_nonneg n (show (5:Int)≠0 by decide)
 have h2:=Int.emod_lt_of_pos n (show (0:Int)<5 by decide)
 unfold qX
 split
 ·exact⟨ajP ai J,aa1 ai J⟩
 ·exact⟨Rat.le_refl,by decide +kernel⟩
theorem nX.ends {d:Nat} {k:List Rat} {po:List aF} {a b:Rat} (h:nX d k po a b):0<k.length/\k.length<=1000/\k.getD 0 0=a/\k.getD (k.length-1) 0=b:=by
 have h3:=h.d3
 rcases h.kn with⟨rfl,hl⟩ | ⟨t,g1,g2,ht,rfl,hl⟩
 ·have hk:=jT d a b
  exact⟨J,J,by rw [fV _ _ _ _ J,if_pos J],by rw [hk,fV _ _ _ _ J,if_neg J]⟩
 ·have hk:=nN d a t b
  exact⟨J,J,by rw [dS _ _ _ _ _ J,if_pos J],by rw [hk,dS _ _ _ _ _ J,if_neg J,if_neg J]⟩
theorem alM (x y z w:Int) (hx:x.natAbs<=6) (hy:y.natAbs<=6) (hz:z.natAbs<=6) (hw:w.natAbs<=6):kv 1 (bl 1 0 1) (mN ⟨(x:Rat),(y:Rat),0⟩ ⟨(z:Rat),(w:Rat),0⟩) 0 1:=by
 have g:∀ u v:Int,u.natAbs<=6->v.natAbs<=6->xQ ⟨⟨(u:Rat),(v:Rat),0⟩,1⟩:=fun u v hu hv=>by
  refine⟨fun j=>?_,aao (z:=1) ai,(by show (0:Rat)<1;decide +kernel),rfl⟩
  match j with
  | 0=>exact((aao hu).scale (E:=12)).mono ai
  | 1=>exact((aao hv).scale (E:=12)).mono ai
  | j+2=>exact ajL _ _
 refine kv.of ⟨by decide,by decide,by decide +kernel,ajL _ _,apa.mono ai,.inl ⟨rfl,rfl⟩⟩ fun q hq=>?_
 unfold mN at hq
 simp only [List.mem_cons,List.not_mem_nil,or_false] at hq
 rcases hq with rfl | rfl
 ·exact g _ _ hx hy
 ·exact g _ _ hz hw
theorem aw1:(ov 0 9 0 [(⟨1,0,1,mN (⟨((0:Int):Rat),((0:Int):Rat),0⟩:V3) (⟨((2:Int):Rat),((2:Int):Rat),0⟩:V3)⟩:gJ)] [(⟨1,0,1,mN (⟨((0:Int):Rat),((2:Int):Rat),0⟩:V3) (⟨((2:Int):Rat),((0:Int):Rat),0⟩:V3)⟩:gJ)]).2=[(([pJ],[pJ],3,0):gX)]:=by decide +kernel
theorem aw2:∃ x r,(ov 2 100 0 [(⟨1,0,1,mN (⟨((0:Int):Rat),((0:Int):Rat),0⟩:V3) (⟨((2:Int):Rat),((2:Int):Rat),0⟩:V3)⟩:gJ)] [(⟨1,0,1,mN (⟨((0:Int):Rat),((0:Int):Rat),0⟩:V3) (⟨((2:Int):Rat),((2:Int):Rat),0⟩:V3)⟩:gJ)]).2=x :: r/\x.2.2.1=1:=by
 have h:0<((ov 2 100 0 [(⟨1,0,1,mN (⟨((0:Int):Rat),((0:Int):Rat),0⟩:V3) (⟨((2:Int):Rat),((2:Int):Rat),0⟩:V3)⟩:gJ)] [(⟨1,0,1,mN (⟨((0:Int):Rat),((0:Int):Rat),0⟩:V3) (⟨((2:Int):Rat),((2:Int):Rat),0⟩:V3)⟩:gJ)]).2).length/\(((ov 2 100 0 [(⟨1,0,1,mN (⟨((0:Int):Rat),((0:Int):Rat),0⟩:V3) (⟨((2:Int):Rat),((2:Int):Rat),0⟩:V3)⟩:gJ)] [(⟨1,0,1,mN (⟨((0:Int):Rat),((0:Int):Rat),0⟩:V3) (⟨((2:Int):Rat),((2:Int):Rat),0⟩:V3)⟩:gJ)]).2).getD 0 default).2.2.1=1:=by decide +kernel
 generalize (ov 2 100 0 [(⟨1,0,1,mN (⟨((0:Int):Rat),((0:Int):Rat),0⟩:V3) (⟨((2:Int):Rat),((2:Int):Rat),0⟩:V3)⟩:gJ)] [(⟨1,0,1,mN (⟨((0:Int):Rat),((0:Int):Rat),0⟩:V3) (⟨((2:Int):Rat),((2:Int):Rat),0⟩:V3)⟩:gJ)]).2=l at h
 match l,h with
 | x :: r,h=>exact⟨x,r,rfl,h.2⟩
theorem axB (l:List Int) (i j:Int) (yS:l.length<=500) (hi:-9223372036854775808<=i/\i<=9223372036854775807) (hj:-9223372036854775808<=j/\j<=9223372036854775807):∃ (d:Nat) (k:List Rat) (po:List aF) (a b:Rat) (e:Nat) (m:List Rat) (pf:List aF) (a2 b2 tt uu:Rat) (mt:Bool),
  kv d k po a b/\kv e m pf a2 b2/\(a<=tt/\tt<=b/\rl tt<=10)/\(a2<=uu/\uu<=b2/\rl uu<=10)/\(mt=true->iC d k po tt=iC e m pf uu) /\
  av Tryz.prog 10 [.list 1 (l.map eW),iL i,iL j] (.a7 [.agg [ah d,.list 3 (k.map ae),.list 12 (po.map aT)],.agg [ah e,.list 3 (m.map ae),.list 12 (pf.map aT)],ae tt,ae uu,bL mt]):=by
 have k1:=l6 (l:=l) yS (Nat.zero_le 500)
 have k2:xE l (bz l 0) 3 1<=500:=ak0 yS _ _ (aq5 l (bz l 0) (n:=3) (m:=1) yS k1 ai ai ai).2.2.1
 have dc:=ap4 l (bz l 0) 3 ai ai (xF l (bz l 0) 3 1) (an6 ..)
 have dx:=ap4 l (xE l (bz l 0) 3 1) 3 ai ai (xF l (xE l (bz l 0) 3 1) 3 1) (an6 ..)
 have sc:∀ q∈xF l (bz l 0) 3 1,xQ q:=ahv l _ _
 have sx:∀ q∈xF l (xE l (bz l 0) 3 1) 3 1,xQ q:=ahv l _ _
 have hN:=oy l 0 5 yS (Nat.zero_le _) ai ai
 have xm:=aqa l (bz l 0) yS 3 ai ai 1 ai k1
 have xh:=aqa l (xE l (bz l 0) 3 1) yS 3 ai ai 1 ai k2
 generalize dQ l 0 5=v at hN
 generalize xE l (xE l (bz l 0) 3 1) 3 1=k3 at xh
 generalize cD l (xE l (bz l 0) 3 1) 3=e at dx xh
 generalize xK l (xE l (bz l 0) 3 1) 3 1=m at dx xh
 generalize xF l (xE l (bz l 0) 3 1) 3 1=pq at dx sx xh
 generalize xA l (xE l (bz l 0) 3 1)=a2 at dx
 generalize xB l (xE l (bz l 0) 3 1) 3=b2 at dx
 generalize xE l (bz l 0) 3 1=k2 at xm xh
 generalize cD l (bz l 0) 3=d at dc xm
 generalize xK l (bz l 0) 3 1=k at dc xm
 generalize xF l (bz l 0) 3 1=po at dc sc xm
 generalize xA l (bz l 0)=a at dc
 generalize xB l (bz l 0) 3=b at dc
 generalize bz l 0=k1 at hN xm
 have it:=acp dc.ab i
 have iu:=acp dx.ab j
 have rt:=aem dc.ca dc.cb i
 have ru:=aem dx.ca dx.cb j
 have gc:=kv.of dc sc
 have gx:=kv.of dx sx
 obtain⟨gm,bT,bP,bQ⟩:=kv.sh dc dx sc sx i j
 obtain⟨ku,hk9,hka,qR⟩:=dc.ends
 obtain⟨fX,hm9,hma,hmb⟩:=dx.ends
 have zw:=apc gc it.1 it.2 J
 have vV:=apc gx iu.1 iu.2 J
 have hW1:=aor (a,b) i 10 ai ⟨by have:=qg dc.ca;show rl a<=10;omega,by have:=qg dc.cb;show rl b<=10;omega⟩ hi
 have hW2:=aor (a2,b2) j 10 ai ⟨by have:=qg dx.ca;show rl a2<=10;omega,by have:=qg dx.cb;show rl b2<=10;omega⟩ hj
 have wc:pq.length<=100:=by have h3:=dx.d3;rcases dx.kn with⟨_,h⟩ | ⟨_,_,_,_,_,h⟩<;>omega
 have tP:m.length<=100:=by
  have h3:=dx.d3
  rcases dx.kn with⟨h,_⟩ | ⟨_,_,_,_,h,_⟩
  ·rw [h,jT];omega
  ·rw [h,nN];omega
 have hSh:=asj (iC e m pq (km (a2,b2) j)) (iC d k po (km (a,b) i)) 10 ai bQ bP
 have hMv:=atw e m (p9 (fy (iC d k po (km (a,b) i)) (iC e m pq (km (a2,b2) j)))) pq 10 ai (aAM ai bT) wc tP (fun q hq=>by have h:=(abz sx).okR (k:=1) ai ai ai q hq;exact⟨h.1.le ai,Nat.le_trans h.2.1 ai,h.2.2⟩)
 have main:=awV l i j v k1 k2 k3 d e k m po pq (if v > 0 then pq.map (qG (p9 (fy (iC d k po (km (a,b) i)) (iC e m pq (km (a2,b2) j))))) else pq) a b a2 b2 (km (a,b) i) (km (a2,b2) j) (iC d k po (km (a,b) i)) (iC e m pq (km (a2,b2) j)) ku hk9 fX hm9 hka qR hma hmb hN xm xh hW1 hW2 zw vV hSh hMv (fun h=>if_pos h) (fun h=>if_neg h)
 refine⟨d,k,po,a,b,e,m,_,a2,b2,_,_,_,gc,?_,⟨it.1,it.2,rt⟩,⟨iu.1,iu.2,ru⟩,fun hm=>?_,main⟩
 ·split
  ·rw [amE];exact gm
  ·exact gx
 ·rw [if_pos (of_decide_eq_true hm),amE,as3 dx (abz sx) iu.1 iu.2 J,azw]
open vj in
theorem ahK :av Tryz.prog 9 [] (bL true):=by
 have oR:LV.pure (.agg [ah 1,.list 3 ((bl 1 0 1).map ae),.list 12 ((mN (⟨((0:Int):Rat),((0:Int):Rat),0⟩:V3) (⟨((2:Int):Rat),((2:Int):Rat),0⟩:V3)).map aT)])=true:=by simp [LV.pure,aG,aW ao,aW bw]
 have zr:LV.pure (.agg [ah 1,.list 3 ((bl 1 0 1).map ae),.list 12 ((mN (⟨((0:Int):Rat),((2:Int):Rat),0⟩:V3) (⟨((2:Int):Rat),((0:Int):Rat),0⟩:V3)).map aT)])=true:=by simp [LV.pure,aG,aW ao,aW bw]
 have iM:LV.pure (.agg [iL 0,iL 9,ae 0])=true:=by simp [LV.pure,aG,ao.pure]
 have pj:LV.pure (.agg [iL 2,iL 100,ae 0])=true:=by simp [LV.pure,aG,ao.pure]
 have hA1:=aw1
 obtain⟨x,r,hA2,hx⟩:=aw2
 have g1:=alM 0 0 2 2 ai ai ai ai
 have g2:=alM 0 2 2 0 ai ai ai ai
 have r0:rl 0<=100:=by decide +kernel
 have hM1:av Tryz.prog 14 [.agg [ah 1,.list 3 ((bl 1 0 1).map ae),.list 12 ((mN (⟨((0:Int):Rat),((0:Int):Rat),0⟩:V3) (⟨((2:Int):Rat),((2:Int):Rat),0⟩:V3)).map aT)],.agg [ah 1,.list 3 ((bl 1 0 1).map ae),.list 12 ((mN (⟨((0:Int):Rat),((2:Int):Rat),0⟩:V3) (⟨((2:Int):Rat),((0:Int):Rat),0⟩:V3)).map aT)],.agg [iL 0,iL 9,ae 0]] (.a7 [.list 4 [eY (([pJ],[pJ],3,0):gX)],iL 0]):=by
  have:=ajH g1 g2 0 9 0 ai ai r0 (aiT 0 9 0 ai ai Rat.le_refl r0)
  rw [abD rfl,abD rfl,hA1] at this;exact this
 have hM2:av Tryz.prog 14 [.agg [ah 1,.list 3 ((bl 1 0 1).map ae),.list 12 ((mN (⟨((0:Int):Rat),((0:Int):Rat),0⟩:V3) (⟨((2:Int):Rat),((2:Int):Rat),0⟩:V3)).map aT)],.agg [ah 1,.list 3 ((bl 1 0 1).map ae),.list 12 ((mN (⟨((0:Int):Rat),((0:Int):Rat),0⟩:V3) (⟨((2:Int):Rat),((2:Int):Rat),0⟩:V3)).map aT)],.agg [iL 2,iL 100,ae 0]] (.a7 [.list 4 ((x :: r).map eY),iL 0]):=by
  have:=ajH g1 g1 2 100 0 ai ai r0 (aiT 2 100 0 ai ai Rat.le_refl r0)
  rw [abD rfl,hA2] at this;exact this
 refine aN Tryz.func9 ?_
 refine aR ?_
 refine cp aq (afT 0 0 ai ai) ?_
 refine cp aq (afT 2 2 ai ai) ?_
 refine cp aq (aks (⟨((0:Int):Rat),((0:Int):Rat),0⟩:V3) (⟨((2:Int):Rat),((2:Int):Rat),0⟩:V3)) ?_
 refine cp aq (afT 0 2 ai ai) ?_
 refine cp aq (afT 2 0 ai ai) ?_
 refine cp aq (aks (⟨((0:Int):Rat),((2:Int):Rat),0⟩:V3) (⟨((2:Int):Rat),((0:Int):Rat),0⟩:V3)) ?_
 refine bB ?_
 refine ak rfl (show aB _ _ _ _ (.agg [iL 0,iL 9,ae 0]) from .build (zs:=[.v (.int .i64 0),.v (.int .i64 0),ae 0]) (by simpa [lay,LV.au,cF,aaD,ao.au,ao.isAgg] using afd) Z35 (by simp only [List.forall_mem_cons];exact⟨⟨_,rfl,rfl,kH⟩,fun _ h=>by cases h⟩)) ?_
 try refine aH ?_
 refine gL rfl (.cons (.pure oR) (.cons (.pure zr) (.cons (.pure iM) .nil))) (hM1) ?_
 refine bo ?_
 refine ak rfl (show aB _ _ _ _ (.agg [iL 2,iL 100,ae 0]) from .build (zs:=[.v (.int .i64 0),.v (.int .i64 0),ae 0]) (by simpa [lay,LV.au,cF,aaD,ao.au,ao.isAgg] using afd) Z35 (by simp only [List.forall_mem_cons];exact⟨⟨_,rfl,rfl,kH⟩,⟨_,rfl,rfl,kH⟩,fun _ h=>by cases h⟩)) ?_
 try refine aH ?_
 refine gL rfl (.cons (.pure oR) (.cons (.pure oR) (.cons (.pure pj) .nil))) (hM2) ?_
 refine bu ?_
 refine ak (a6 (v:=true) rfl rfl ((rfl)) rfl) (.move _) ?_
 refine ak (a6 (v:=true) rfl rfl ((rfl)) rfl) vc ?_
 refine ak (a6 (v:=true) rfl rfl ((rfl)) rfl) (.bin rfl rfl rfl) ?_
 refine ak rfl (.mM rfl ((rfl))) ?_
 refine ar ?_
 refine ak (a6 (v:=true) rfl rfl ((rfl)) rfl) (.move _) ?_
 refine ak (a6 (v:=true) rfl rfl ((rfl)) rfl) (.lV (n:=0) (r:=(.agg [.list 6 (((([pJ],[pJ],3,0):gX)).1.map aD),.list 6 (((([pJ],[pJ],3,0):gX)).2.1.map aD),ah ((([pJ],[pJ],3,0):gX)).2.2.1,ah ((([pJ],[pJ],3,0):gX)).2.2.2])) rfl Tryz.underlying43 nP rfl ai rfl (ahq _)) ?_
 refine ak (a6 (v:=true) rfl rfl ((rfl)) rfl) lZ ?_
 refine ak (a6 (v:=true) rfl rfl ((rfl)) rfl) il ?_
 refine ak (a6 (v:=true) rfl rfl ((rfl)) rfl) (.bin rfl rfl rfl) ?_
 refine ak rfl (.mM rfl ((rfl))) ?_
 refine ar ?_
 refine ak (a6 (v:=true) rfl rfl ((rfl)) rfl) (.move _) ?_
 refine ak (a6 (v:=true) rfl rfl ((rfl)) rfl) (.bin rfl rfl rfl) ?_
 refine ak rfl (.mM rfl ((rfl))) ?_
 refine ar ?_
 refine ak (a6 (v:=true) rfl rfl ((rfl)) rfl) (.move _) ?_
 refine ak (a6 (v:=true) rfl rfl ((rfl)) rfl) vc ?_
 refine ak (a6 (v:=true) rfl rfl ((rfl)) rfl) (.bin rfl rfl rfl) ?_
 refine ak rfl (.mM rfl ((rfl))) ?_
 refine ar ?_
 refine ak (a6 (v:=true) rfl rfl ((decide_eq_true aaQ)) rfl) (.move _) ?_
 refine ak (a6 (v:=true) rfl rfl ((decide_eq_true aaQ)) rfl) (.lV (n:=0) (r:=(.agg [.list 6 ((x).1.map aD),.list 6 ((x).2.1.map aD),ah (x).2.2.1,ah (x).2.2.2])) rfl Tryz.underlying43 nP rfl ai rfl (ahq _)) ?_
 refine ak (a6 (v:=true) rfl rfl ((decide_eq_true aaQ)) rfl) lZ ?_
 refine ak (a6 (v:=true) rfl rfl ((decide_eq_true aaQ)) rfl) il ?_
 refine ak (a6 (v:=true) rfl rfl ((decide_eq_true aaQ)) rfl) (.bin rfl rfl rfl) ?_
 refine ak rfl (.mM rfl ((decide_eq_true aaQ))) ?_
 refine ax ?_
 exact dB (x:=bL true) (by refine Eq.trans (b:=LV.v (Value.bool (((x.2.2.1:Nat):Int)==1))) rfl ?_;rw [hx];rfl) (.pure rfl)
theorem aBj (c:gX) (t u:Rat):(iU (c.1.getD 0 default) t && iU (c.2.1.getD 0 default) u)=true↔iz c t u:=by
 unfold iz qm iU
 simp only [Bool.and_eq_true,decide_eq_true_eq]
def inK (l:List gX) (t u:Rat):Bool:=l.any fun c=>iU (c.1.getD 0 default) t && iU (c.2.1.getD 0 default) u
theorem avN {l:List gX} {t u:Rat} {j:Nat} (h:j<l.length):inK (l.take (j+1)) t u=(inK (l.take j) t u || (iU ((l.getD j default).1.getD 0 default) t && iU ((l.getD j default).2.1.getD 0 default) u)):=by
 have e:l.getD j default=l[j]:=by rw [List.getD_eq_getElem?_getD,List.getElem?_eq_getElem h];rfl
 unfold inK
 rw [List.take_add_one,List.any_append,List.getElem?_eq_getElem h,e]
 simp
theorem aAX {l:List gX} {t u:Rat} (h:∃ c∈l,iz c t u):inK l t u=true:=by
 obtain⟨c,hc,g⟩:=h
 exact List.any_eq_true.2 ⟨c,hc,(aBj c t u).2 g⟩
namespace aoq
theorem aH {p q:Prop} (k:q) (e:p=q:=by simp only [e1,e2,e3,e4,p1,p2,p3,q1,q2,q3,l1,t0,t1,r1,r2,r3,r4,Nat.zero_add,Nat.reduceMul,Nat.reduceAdd,b1,b2,b3,b4,b5,b6,i1,i2,i3,i4,i5,i6,Nat.reduceBEq,wM,acY,dU,acB,aP aa8,List.length_map,List.getD_cons_zero,List.getD_cons_succ,List.set_cons_zero,List.set_cons_succ,Nat.reduceEqDiff,reduceIte,if_true,if_false,dU,eo,aP bg,aP bw,aP ao,cH,dO,LV.kill,bN];exact rfl):p:=e.mpr k
end aoq
open aoq in
theorem ast (l:List Int) (i j depth work width:Int) (hl:l.length<=9223372036854775807/\∀ n∈l,-9223372036854775808<=n/\n<=9223372036854775807) (hi:-9223372036854775808<=i/\i<=9223372036854775807) (hj:-9223372036854775808<=j/\j<=9223372036854775807) (hdp:-9223372036854775808<=depth/\depth<=9223372036854775807) (hwk:-9223372036854775808<=work/\work<=9223372036854775807) (hwi:-9223372036854775808<=width/\width<=9223372036854775807):av Tryz.prog 4 [.list 1 (l.map eW),iL i,iL j,iL depth,iL work,iL width] (bL true):=by
 have bE:=hl.1
 have xc:=au4 width
 obtain⟨dn,jC⟩:∃ dn:Nat,depth % 7=(dn:Int):=⟨(depth % 7).toNat,J⟩
 obtain⟨wn,hwn⟩:∃ wn:Nat,work % 40=(wn:Int):=⟨(work % 40).toNat,J⟩
 have kX:dn<=6:=by omega
 have gO:wn<=39:=by omega
 have hPr:=axn depth work width dn wn jC hwn
 have hpp:LV.pure (.agg [ah dn,ah wn,ae (qX width)])=true:=by simp [LV.pure,aG,ao.pure]
 refine aN Tryz.func4 ?_
 refine bq ?_
 refine cp aK (ayb l bE) ?_
 refine aJ ?_
 refine aC rfl ?_ ?_<;>intro o7 rv
 ·refine aL ?_
  refine cp am0 (ahK) ?_
  refine aZ ?_
  exact mF
 ·have yS:l.length<=500:=by simpa using rv
  obtain⟨d,k,po,a,b,e,m,pf,aa,bb,tt,uu,mt,hG,hH,⟨ht1,ht2,htr⟩,⟨vx,ri,hur⟩,eA,hTw⟩:=axB l i j yS hi hj
  have hM:=ajH hG hH dn wn (qX width) J J (by have:=xc.2;omega) (aiT dn wn (qX width) J J xc.1 (by have:=xc.2;omega))
  have hK:=kv.cells hG hH (dn:=dn) (w:=wn) (wd:=qX width) J
  have hLn:=aBJ (d:=dn) (w:=wn) (wd:=qX width) (lA:=lW d k po) (lB:=lW e m pf) J J (Nat.le_trans (aeY d k po) ai) (Nat.le_trans (aeY e m pf) ai)
  have hCo:mt=true->∃ c∈(ov dn wn (qX width) (lW d k po) (lW e m pf)).2,iz c tt uu:=fun h=>kv.aBc hG hH ht1 ht2 vx ri (eA h)
  generalize (ov dn wn (qX width) (lW d k po) (lW e m pf)).2=cls at hM hK hLn hCo
  have fG:LV.pure (.agg [ah d,.list 3 (k.map ae),.list 12 (po.map aT)])=true:=by simp [LV.pure,aG,aW ao,aW bw]
  have hcq:LV.pure (.agg [ah e,.list 3 (m.map ae),.list 12 (pf.map aT)])=true:=by simp [LV.pure,aG,aW ao,aW bw]
  clear hG hH eA
  refine aR ?_
  refine cp fJ (hTw) ?_
  refine mQ ?_
  refine aY 12 an ?_
  refine ak rfl (.fu rfl rfl rfl rfl cs (dJ cs rfl) jI) ?_
  refine ak rfl (.fu rfl rfl rfl rfl cs (dJ cs rfl) jI) ?_
  refine aJ ?_
  refine cp fJ (hPr) ?_
  refine gL rfl (.cons (.pure fG) (.cons (.pure hcq) (.cons (.pure hpp) .nil))) hM ?_
  refine nh ?_
  refine ju (((aw.kill _ 13).trans (aw.kill _ 14))) ?_
  refine jL (fun(jj:Nat) (dM:Bool) L=>((((((((St.mk L.slot (hp [(15,⟨3,[ae tt],true⟩),(16,⟨3,[ae uu],true⟩)])).put (some 15) (.aA 15 3 0 0)).put (some 16) (.aA 16 3 0 0)).put (some 17) (bL mt)).put (some 18) (.list 4 (cls.map eY))).put (some 19) (iL 0)).put (some 20) (bL dM)).put (some 21) (ah jj))) (fun jj dM=>jj<=cls.length/\dM=inK (cls.take jj) tt uu) (fun jj dM=>cls.length-jj) 0 false ⟨Nat.zero_le _,rfl⟩ ?_
  rintro jj dM L1 ⟨hj,hIn⟩
  refine bq ?_
  refine aC rfl ?_ ?_<;>intro ym h49
  ·have g7:jj<cls.length:=by omega
   obtain⟨s,r,es,er,rs1,rs2,rr1,rr2,_,_⟩:=hK (cls.getD jj default) (by rw [List.getD_eq_getElem?_getD,List.getElem?_eq_getElem g7];exact List.getElem_mem _)
   have est:=avN (l:=cls) (t:=tt) (u:=uu) g7
   rw [es,er] at est
   simp only [List.getD_cons_zero] at est
   have ecj:cls.getD jj default=cls[jj]:=by rw [List.getD_eq_getElem?_getD,List.getElem?_eq_getElem g7];rfl
   have hcj:(cls.map eY)[((jj:Nat):Int).toNat]?=some (.agg [.list 6 ([s].map aD),.list 6 ([r].map aD),ah (cls.getD jj default).2.2.1,ah (cls.getD jj default).2.2.2]):=by
    rw [Int.toNat_natCast,List.getElem?_map,List.getElem?_eq_getElem g7,<-ecj]
    show some (eY (cls.getD jj default))=_
    unfold eY
    rw [es,er]
   refine bq ?_
   refine ak rfl (.lV (n:=((jj:Nat):Int)) (r:=.agg [.list 6 ([s].map aD),.list 6 ([r].map aD),ah (cls.getD jj default).2.2.1,ah (cls.getD jj default).2.2.2]) rfl Tryz.underlying43 nP rfl J hcj rfl) ?_
   refine aZ ?_
   refine ak (a6 (v:=false) rfl rfl ((rfl)) rfl) (.move _) ?_
   refine ak (a6 (v:=false) rfl rfl ((rfl)) rfl) (.move _) ?_
   refine ak (a6 (v:=false) rfl rfl ((rfl)) rfl) (.lV (n:=((jj:Nat):Int)) (r:=.agg [.list 6 ([s].map aD),.list 6 ([r].map aD),ah (cls.getD jj default).2.2.1,ah (cls.getD jj default).2.2.2]) rfl Tryz.underlying43 nP rfl J hcj rfl) ?_
   refine ak (a6 (v:=false) rfl rfl ((rfl)) rfl) lZ ?_
   refine ak (a6 (v:=false) rfl rfl ((rfl)) rfl) il ?_
   refine ak (a6 (v:=false) rfl rfl ((rfl)) rfl) vc ?_
   refine ak (a6 (v:=false) rfl rfl ((rfl)) rfl) (.bin rfl rfl rfl) ?_
   refine ak rfl (.oO rfl ((rfl))) ?_
   refine aL ?_
   refine eE (b:=_) rfl (rfl) ?_
   refine aL ?_
   refine aY 24 an ?_
   refine aL ?_
   refine dy 69 rfl ?_ ?_<;>intro x8 h69
   ·refine aiA ?_
    refine ak rfl cB ?_
    refine aJ ?_
    exact fU (jj+1) true ⟨J,by rw [est,<-hIn,(x8:dM=true)];rfl⟩
   ·refine aL ?_
    refine ak (a6 (v:=false) rfl rfl (x8) rfl) (.lV (n:=((jj:Nat):Int)) (r:=.agg [.list 6 ([s].map aD),.list 6 ([r].map aD),ah (cls.getD jj default).2.2.1,ah (cls.getD jj default).2.2.2]) rfl Tryz.underlying43 nP rfl J hcj rfl) ?_
    refine aL ?_
    refine ak (a6 (v:=false) rfl rfl (x8) rfl) (.lV (n:=0) (r:=aD s) rfl Tryz.underlying49 lE rfl ai rfl (bS.au _)) ?_
    refine aL ?_
    refine cp aq (akc s tt J J) ?_
    refine ar ?_
    refine dy 79 rfl ?_ ?_<;>intro xM h79
    ·refine aL ?_
     refine ak (a6 (v:=true) rfl rfl (xM) rfl) (.lV (n:=((jj:Nat):Int)) (r:=.agg [.list 6 ([s].map aD),.list 6 ([r].map aD),ah (cls.getD jj default).2.2.1,ah (cls.getD jj default).2.2.2]) rfl Tryz.underlying43 nP rfl J hcj rfl) ?_
     refine aL ?_
     refine ak (a6 (v:=true) rfl rfl (xM) rfl) (.lV (n:=0) (r:=aD r) rfl Tryz.underlying49 lE rfl ai rfl (bS.au _)) ?_
     refine aL ?_
     refine cp aq (akc r uu J J) ?_
     refine bf ?_
     refine ak rfl cB ?_
     refine aJ ?_
     exact fU (jj+1) (iU r uu) ⟨J,by rw [est,<-hIn,(x8:dM=false),(xM:iU s tt=true)];simp⟩
    ·refine im ?_
     refine ak rfl cB ?_
     refine aJ ?_
     exact fU (jj+1) false ⟨J,by rw [est,<-hIn,(x8:dM=false),(xM:iU s tt=false)];rfl⟩
  ·obtain rfl:jj=cls.length:=by omega
   rw [List.take_length] at hIn
   refine bB ?_
   refine ak (a6 (v:=true) rfl rfl ((rfl)) rfl) (.move _) ?_
   refine ak (a6 (v:=true) rfl rfl ((rfl)) rfl) (.move _) ?_
   refine dy 95 rfl ?_ ?_<;>intro amW h95
   ·refine aL ?_
    refine ak (a6 (v:=true) rfl rfl ((rfl)) rfl) (.mM rfl (amW)) ?_
    refine ak rfl (.mM rfl ((rfl))) ?_
    refine ar ?_
    refine cp am0 (ahK) ?_
    refine aZ ?_
    exact mF
   ·refine aL ?_
    refine ak (a6 (v:=true) rfl rfl ((rfl)) rfl) (.oO rfl (amW)) ?_
    refine ak rfl (.mM rfl ((rfl))) ?_
    refine ar ?_
    refine dy 100 rfl ?_ ?_<;>intro as9 aDb
    ·refine cp am0 (ahK) ?_
     refine aZ ?_
     exact mF
    ·exfalso
     have ev:=aAX (hCo (by simpa using as9))
     rw [<-hIn] at ev
     simp_all
end Go.Proofs.YtckppbhafancnaaGreat
end
