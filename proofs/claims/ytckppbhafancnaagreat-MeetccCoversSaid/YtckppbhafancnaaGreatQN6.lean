/- Texts K21, LgX, LgC, LgD, LgF, U1, Z1, Z2, U2, U3, U4, U7, A3, Y0, K25, K26, A4 of this proof, joined. -/
import Derived.Test.YtckppbhafancnaaGreatQN5
set_option linter.unusedVariables false
set_option linter.unusedSimpArgs false
section
set_option linter.unusedVariables false
set_option linter.unusedSimpArgs false
set_option maxHeartbeats 8000000
set_option maxRecDepth 100000
attribute [local irreducible] Go.Lg.opsL Go.Lg.cx Go.Lg.nn Go.Lg.oB
namespace Go.Proofs.YtckppbhafancnaaGreat
open Go.Lg
def bl (d:Nat) (a b:Rat):List Rat:=List.replicate (d+1) a++List.replicate (d+1) b
theorem jT (d:Nat) (a b:Rat):(bl d a b).length=2*(d+1):=by simp [bl];omega
theorem fV (d:Nat) (a b:Rat) (i:Nat) (h:i<2*(d+1)):(bl d a b).getD i 0=if i<d+1 then a else b:=by
 unfold bl
 split
 ·rw [vp bm,rZ J]
 ·rw [vk bm,List.length_replicate,rZ J]
theorem xZ (d:Nat) (a b:Rat):(bl d a b).getD 0 0=a:=by rw [fV _ _ _ _ J,if_pos J]
theorem aai (d:Nat) (a b:Rat):(bl d a b).getD (2*(d+1)-1) 0=b:=by rw [fV _ _ _ _ J,if_neg J]
theorem aaR {d:Nat} {a b:Rat} {R:Nat} (ha:rl a<=R) (hb:rl b<=R):∀ x∈bl d a b,rl x<=R:=fun x hx=>by
 rcases List.mem_append.1 hx with g | g
 ·rw [(List.mem_replicate.1 g).2];exact ha
 ·rw [(List.mem_replicate.1 g).2];exact hb
theorem aBi {d m:Nat} {a b:Rat} (h:m<2*(d+1)) (h2:m<=d):(bl d a b).take m++[a]=(bl d a b).take (m+1):=by
 have e:=fV d a b m h
 rw [if_pos J] at e
 rw [<-zC (l:=bl d a b) (k:=m) (by rw [jT];exact h),e]
theorem aBM {d m:Nat} {a b:Rat} (h:m<2*(d+1)) (h2:¬m<=d):(bl d a b).take m++[b]=(bl d a b).take (m+1):=by
 have e:=fV d a b m h
 rw [if_neg J] at e
 rw [<-zC (l:=bl d a b) (k:=m) (by rw [jT];exact h),e]
theorem ash {a b:Rat} (h:a<b):gg a b=a:=by unfold gg;rw [if_neg cA]
theorem azl {a b:Rat} (h:a<b):fO a b=b:=by unfold fO;rw [if_pos h]
theorem apN {p:List Rat} {x:Rat} (hl:p.length<=7) (hp:∀ y∈p,rl y<=7000000) (hx:rl x<=100000):HS p x:=by
 have h1:=iq 1 x
 have h0:rl 1=1:=rfl
 refine⟨rl (1-x)+rl x+1,Nat.le_refl _,J,fun y hy=>?_⟩
 have h2:=hp y hy
 have h3:2 ^ p.length<=2 ^ 7:=Nat.pow_le_pow_right ai hl
 have h4:(rl y+(rl (1-x)+rl x+1))*2 ^ p.length<=8000000*2 ^ 7:=Nat.mul_le_mul J h3
 omega
theorem axg {p:List Rat} {x:Rat} {R S:Nat} (hl:p.length<=7) (hp:∀ y∈p,rl y<=R) (hR:1<=R) (hx:rl (1-x)+rl x+1<=S):∀ y∈lD p x,rl y<=(R+S)*64:=fun y hy=>by
 obtain⟨j,hj,rfl⟩:=List.mem_iff_getElem.1 hy
 have g7:j<p.length:=by rw [wh] at hj;exact hj
 have e:(lD p x)[j]=(lD p x).getD j 0:=by rw [List.getD_eq_getElem?_getD,List.getElem?_eq_getElem hj];rfl
 rw [e,afN g7]
 have h1:=agl (a:=1-x) (b:=x) (p.length-1-j) (fun i=>p.getD (j+i) 0) R (fun i=>fR hR hp _)
 have h2:2 ^ (p.length-1-j)<=64:=Nat.pow_le_pow_right (n:=2) ai (show p.length-1-j<=6 by omega)
 exact Nat.le_trans h1 (Nat.mul_le_mul J h2)
theorem auh {n:Nat} (h:2*n<=9223372036854775807):dk .mul .i64 2 (n:Nat)=some (.int .i64 ((2*n:Nat):Int)):=by
 rw [afi J J];congr 2
theorem ali (d sz:Nat) (x z:LV) (Z:Nat->Prop) (μ:Nat->Option Nat) (w:World) (cs:List Value) (h:ay Z μ w (.agg [x,.v (.slice none 0 0),z]) cs):ay Z μ w (.agg [x,.ref d sz 0 0,z]) cs:=by
 simp only [ay,b7] at h ⊢
 obtain⟨c1,c2,e1,e2,e3,c3,c4,e4,e5,e6,c5,c6,e7,e8,e9,e10⟩:=h
 exact⟨c1,c2,e1,e2,e3,c3,c4,e4,e5,.inl ⟨e6.1,trivial⟩,c5,c6,e7,e8,e9,e10⟩
namespace alD
theorem aH {p q:Prop} (k:q) (e:p=q:=by simp only [e1,e2,e3,e4,p1,p2,p3,q1,q2,q3,l1,t0,t1,r1,r2,r3,r4,Nat.zero_add,Nat.reduceMul,Nat.reduceAdd,b1,b2,b3,b4,b5,b6,i1,i2,i3,i4,i5,i6,Nat.reduceBEq,fB,gr,kW,kJ,iA,List.length_cons,List.length_nil,List.nil_append,List.map_nil,List.take_nil,List.append_nil,List.set_cons_zero,List.set_cons_succ,Nat.reduceEqDiff,reduceIte,if_true,if_false,dU,eo,aP bg,aP bw,aP ao,cH,dO,LV.kill,bN];exact rfl):p:=e.mpr k
end alD
open alD in
theorem ayA (d:Nat) (kn:List Rat) (po:List aF) (R:Nat) (hR:R<=1000000) (h:jW po d R):av Tryz.prog 99 [.agg [ah d,.list 3 (kn.map ae),.list 12 (po.map aT)]] (.list 9 ((po.map (·.p)).map aS)):=by
 have hl:=h.hl
 have hd:=h.hd
 have h6:=h.h6
 have fG:LV.pure (.agg [ah d,.list 3 (kn.map ae),.list 12 (po.map aT)])=true:=by simp [LV.pure,aG,aW ao,aW bw]
 refine aN Tryz.func99 (ht:=(fun g=>LV.cP g _ (eB bg _ _))) ?_
 have fB:True:=trivial
 have gr:True:=trivial
 refine xT ?_
 refine ju ((aw.kill _ 1).trans (aw.own (t:=3) 17 9 rfl rfl)) ?_
 refine dG (fun(i:Nat) L=>(((((St.mk L.slot (hp [(17,⟨9,((po.map (·.p)).take i).map aS,true⟩)])).put (some 3) (.ref 17 9 0 i)).put (some 7) (.list 12 (po.map aT))).put (some 8) (ah po.length)).put (some 9) (ah i))) (fun i=>i<=po.length) (fun i=>po.length-i) 0 (Nat.zero_le _) ?_
 rintro i L1 hi
 refine az ?_
 refine aC rfl ?_ ?_<;>intro l8 rC
 ·have dA:i<po.length:=by omega
  have gr:=zF (·.p) po dA
  have yY:((po.map (·.p)).take i).length=i:=by rw [List.length_take,List.length_map];omega
  have fB:(((po.map (·.p)).take i).map aS).take i=((po.map (·.p)).take i).map aS:=List.take_of_length_le ky
  refine im ?_
  refine bI rfl (.ga (d:=17) (news:=[aS (po.getD i default).p]) rfl rfl rfl rfl bm (.inl rfl) ai Tryz.underlying165 Tryz.underlying165 Z40 ij cs B40 (.inl ⟨16,0,_,rfl,by decide,rfl,rfl,by simp,rfl,by simp [aG,bg.pure]⟩) bm bm ai) ?_
  refine ax ?_
  refine cq ((aw.kill _ 5).trans (aw.kill _ 16)) ?_
  refine ak rfl cB ?_
  refine aJ ?_
  exact jS
 ·obtain rfl:i=po.length:=by omega
  have hE:(po.map (·.p)).take po.length=(po.map (·.p)):=List.take_of_length_le aO
  refine bu ?_
  simp only [hE]
  exact mL [17] rfl rfl (eM bg rfl rfl aO)
open fN in
theorem amN (q:aF) (R:Nat) (hR:R<=1000000) (h:oF R q):av Tryz.prog 153 [aT q] (.agg [ae (q.w*q.p.x),ae (q.w*q.p.y),ae (q.w*q.p.z),ae q.w]):=by
 obtain⟨⟨a1,a2,a3⟩,a4,_⟩:=h
 have hA:=iw q.w 0 (by have:rl 0=1:=rfl;omega)
 rw [Rat.add_zero] at hA
 refine aN Tryz.func153 (ht:=(fun g=>LV.cP g _ pu)) ?_
 refine nj ?_
 refine bF ?_
 refine az ?_
 refine bY (b:=_) rfl ai ?_
 refine mQ ?_
 refine cp aq (gf q.w q.p.x J) ?_
 refine aZ ?_
 refine cq (aw.kill _ 5) ?_
 refine ax ?_
 refine bF ?_
 refine az ?_
 refine bY (b:=_) rfl ai ?_
 refine mQ ?_
 refine cp aq (gf q.w q.p.y J) ?_
 refine aZ ?_
 refine cq (aw.kill _ 5) ?_
 refine ax ?_
 refine bF ?_
 refine az ?_
 refine bY (b:=_) rfl ai ?_
 refine mQ ?_
 refine cp aq (gf q.w q.p.z J) ?_
 refine aZ ?_
 refine cq (aw.kill _ 5) ?_
 refine ax ?_
 refine bF ?_
 refine az ?_
 refine eE (b:=_) rfl ai ?_
 refine bq ?_
 refine ak rfl nQ ?_
 refine cp aq (hA) ?_
 refine bo ?_
 exact fW [] rfl rfl rfl cs (dJ cs rfl) yJ (.pure pu)
namespace alN
theorem aH {p q:Prop} (k:q) (e:p=q:=by simp only [e1,e2,e3,e4,p1,p2,p3,q1,q2,q3,l1,t0,t1,r1,r2,r3,r4,Nat.zero_add,Nat.reduceMul,Nat.reduceAdd,b1,b2,b3,b4,b5,b6,i1,i2,i3,i4,i5,i6,Nat.reduceBEq,apH,alA,adC,anL,apm,amk,abW,aqd,kW,kJ,iA,List.length_cons,List.length_nil,List.nil_append,List.map_nil,List.take_nil,List.append_nil,List.set_cons_zero,List.set_cons_succ,Nat.reduceEqDiff,reduceIte,if_true,if_false,dU,eo,aP bg,aP bw,aP ao,cH,dO,LV.kill,bN];exact rfl):p:=e.mpr k
end alN
open alN in
theorem aeX (d:Nat) (kn:List Rat) (po:List aF) (R:Nat) (hR:R<=1000000) (h:jW po d R):av Tryz.prog 93 [.agg [ah d,.list 3 (kn.map ae),.list 12 (po.map aT)]] (.agg [.list 3 ((bj po 0).map ae),.list 3 ((bj po 1).map ae),.list 3 ((bj po 2).map ae),.list 3 ((aX po).map ae)]):=by
 have hl:=h.hl
 have hd:=h.hd
 have h6:=h.h6
 have fG:LV.pure (.agg [ah d,.list 3 (kn.map ae),.list 12 (po.map aT)])=true:=by simp [LV.pure,aG,aW ao,aW bw]
 have gU:=n8 po 0
 have mz:=n8 po 1
 have lI:=n8 po 2
 have wj:=me po
 refine aN Tryz.func93 (ht:=(fun g=>LV.cP g _ (by simp [LV.pure,aG,aW ao]))) ?_
 have apH:True:=trivial
 have alA:True:=trivial
 have adC:True:=trivial
 have anL:True:=trivial
 have apm:True:=trivial
 have amk:True:=trivial
 have abW:True:=trivial
 have aqd:True:=trivial
 refine xT ?_
 refine ju (((aw.kill _ 1).trans (aw.cell 3 rfl (fun Z μ w cs h=>ax7 1001 1002 1003 1004 3 Z μ w cs h))).trans ((aw.tH _ 1001 3 rfl).trans ((aw.tH _ 1002 3 rfl).trans ((aw.tH _ 1003 3 rfl).trans (aw.tH _ 1004 3 rfl))))) ?_
 refine dG (fun(j:Nat) L=>((((((St.mk L.slot (hp [(2,⟨4,[.agg [.v (.slice none 0 0),.v (.slice none 0 0),.v (.slice none 0 0),.v (.slice none 0 0)]],true⟩),(3,⟨4,[.agg [.ref 1001 3 0 j,.ref 1002 3 0 j,.ref 1003 3 0 j,.ref 1004 3 0 j]],true⟩),(1001,⟨3,((bj po 0).take j).map ae,true⟩),(1002,⟨3,((bj po 1).take j).map ae,true⟩),(1003,⟨3,((bj po 2).take j).map ae,true⟩),(1004,⟨3,((aX po).take j).map ae,true⟩)])).put (some 2) (.aA 2 4 0 0)).put (some 3) (.aA 3 4 0 0)).put (some 9) (.list 12 (po.map aT))).put (some 10) (ah po.length)).put (some 11) (ah j))) (fun j=>j<=po.length) (fun j=>po.length-j) 0 (Nat.zero_le _) ?_
 rintro j L1 hj
 refine az ?_
 refine aC rfl ?_ ?_<;>intro aaL h12
 ·have g7:j<po.length:=by omega
  have eQ:=h.ok _ (qM g7)
  have apm:(bj po 0).take j++[(po.getD j default).w*(po.getD j default).p.x]=(bj po 0).take (j+1):=zF (fun q:aF=>q.w*q.p.at 0) po g7
  have amk:(bj po 1).take j++[(po.getD j default).w*(po.getD j default).p.y]=(bj po 1).take (j+1):=zF (fun q:aF=>q.w*q.p.at 1) po g7
  have abW:(bj po 2).take j++[(po.getD j default).w*(po.getD j default).p.z]=(bj po 2).take (j+1):=zF (fun q:aF=>q.w*q.p.at 2) po g7
  have aqd:(aX po).take j++[(po.getD j default).w]=(aX po).take (j+1):=zF (fun q:aF=>q.w) po g7
  have apH:(((bj po 0).take j).map ae).take j=((bj po 0).take j).map ae:=List.take_of_length_le wI
  have alA:(((bj po 1).take j).map ae).take j=((bj po 1).take j).map ae:=List.take_of_length_le wI
  have adC:(((bj po 2).take j).map ae).take j=((bj po 2).take j).map ae:=List.take_of_length_le wI
  have anL:(((aX po).take j).map ae).take j=((aX po).take j).map ae:=List.take_of_length_le wI
  refine gy ?_
  refine cp aK (amN (po.getD j default) R hR eQ) ?_
  refine ax ?_
  refine bF ?_
  refine az ?_
  refine bY (b:=_) rfl ai ?_
  refine dp ?_
  refine fS 6 [0] an ?_
  refine az ?_
  refine bI rfl (.ga (d:=1001) (news:=[ae ((po.getD j default).w*(po.getD j default).p.x)]) rfl rfl rfl rfl bm (.inl rfl) ai Tryz.underlying155 Tryz.underlying155 jY cJ rfl kA (.inl ⟨26,0,_,rfl,by decide,rfl,rfl,by simp,rfl,by simp [aG,ao.pure]⟩) bm bm ai) ?_
  refine aZ ?_
  refine cq ((aw.kill _ 7).trans (aw.kill _ 26)) ?_
  refine ax ?_
  refine bF ?_
  refine az ?_
  refine bY (b:=_) rfl ai ?_
  refine dp ?_
  refine fS 6 [0] an ?_
  refine az ?_
  refine bI rfl (.ga (d:=1002) (news:=[ae ((po.getD j default).w*(po.getD j default).p.y)]) rfl rfl rfl rfl bm (.inl rfl) ai Tryz.underlying155 Tryz.underlying155 jY cJ rfl kA (.inl ⟨26,0,_,rfl,by decide,rfl,rfl,by simp,rfl,by simp [aG,ao.pure]⟩) bm bm ai) ?_
  refine aZ ?_
  refine cq ((aw.kill _ 7).trans (aw.kill _ 26)) ?_
  refine ax ?_
  refine bF ?_
  refine az ?_
  refine bY (b:=_) rfl ai ?_
  refine dp ?_
  refine fS 6 [0] an ?_
  refine az ?_
  refine bI rfl (.ga (d:=1003) (news:=[ae ((po.getD j default).w*(po.getD j default).p.z)]) rfl rfl rfl rfl bm (.inl rfl) ai Tryz.underlying155 Tryz.underlying155 jY cJ rfl kA (.inl ⟨26,0,_,rfl,by decide,rfl,rfl,by simp,rfl,by simp [aG,ao.pure]⟩) bm bm ai) ?_
  refine aZ ?_
  refine cq ((aw.kill _ 7).trans (aw.kill _ 26)) ?_
  refine ax ?_
  refine bF ?_
  refine az ?_
  refine bY (b:=_) rfl ai ?_
  refine dp ?_
  refine fS 6 [0] an ?_
  refine az ?_
  refine bI rfl (.ga (d:=1004) (news:=[ae ((po.getD j default).w)]) rfl rfl rfl rfl bm (.inl rfl) ai Tryz.underlying155 Tryz.underlying155 jY cJ rfl kA (.inl ⟨26,0,_,rfl,by decide,rfl,rfl,by simp,rfl,by simp [aG,ao.pure]⟩) bm bm ai) ?_
  refine aZ ?_
  refine cq ((aw.kill _ 7).trans (aw.kill _ 26)) ?_
  refine ax ?_
  refine bF ?_
  refine az ?_
  refine eE (b:=_) rfl ai ?_
  refine az ?_
  refine cq (aw.kill _ 5) ?_
  refine ak rfl cB ?_
  refine aJ ?_
  exact vF
 ·obtain rfl:j=po.length:=by omega
  have zt:(bj po 0).take po.length=(bj po 0):=List.take_of_length_le J
  have zw:(bj po 1).take po.length=(bj po 1):=List.take_of_length_le J
  have vV:(bj po 2).take po.length=(bj po 2):=List.take_of_length_le J
  have hE3:(aX po).take po.length=(aX po):=List.take_of_length_le J
  refine bu ?_
  simp only [zt,zw,vV,hE3]
  exact fW [1001,1002,1003,1004] rfl rfl rfl cs (dJ cs rfl) arz (.agg (.cons (eM ao rfl rfl gU.symm) (.cons (eM ao rfl rfl mz.symm) (.cons (eM ao rfl rfl lI.symm) (.cons (eM ao rfl rfl wj.symm) .nil)))))
namespace apv
theorem aH {p q:Prop} (k:q) (e:p=q:=by simp only [e1,e2,e3,e4,p1,p2,p3,q1,q2,q3,l1,t0,t1,r1,r2,r3,r4,Nat.zero_add,Nat.reduceMul,Nat.reduceAdd,b1,b2,b3,b4,b5,b6,i1,i2,i3,i4,i5,i6,Nat.reduceBEq,cy,fY,bX,gj,List.length_map,List.set_cons_zero,List.set_cons_succ,Nat.reduceEqDiff,reduceIte,if_true,if_false,dU,eo,aP bg,aP bw,aP ao,cH,dO,LV.kill,bN];exact rfl):p:=e.mpr k
end apv
open apv in
theorem af2 (d:Nat) (a b:Rat) (po:List aF) (ha:rl a<=100) (hb:rl b<=100) (cu:a<b) (h9:d<=6):av Tryz.prog 41 [.agg [ah d,.list 3 ((bl d a b).map ae),.list 12 (po.map aT)]] (aD (a,b)):=by
 have fY:=jT d a b
 have bX:=xZ d a b
 have gj:=aai d a b
 have fG:LV.pure (.agg [ah d,.list 3 ((bl d a b).map ae),.list 12 (po.map aT)])=true:=by simp [LV.pure,aG,aW ao,aW bw]
 have hS:=zo a b J
 rw [ash cu,azl cu] at hS
 refine aN Tryz.func41 ?_
 refine gy ?_
 refine aC rfl ?_ ?_<;>intro tE h6
 ·omega
 ·refine aJ ?_
  refine aY 13 an ?_
  refine bq ?_
  refine ak rfl jz ?_
  refine aL ?_
  try simp only [t1,cy,fY,bX,gj,List.length_map]
  refine cp aq (hS) ?_
  refine ax ?_
  exact rh
open fN in
theorem agx (d:Nat) (a b:Rat) (po:List aF) (ha:rl a<=100) (hb:rl b<=100) (cu:a<b) (h9:d<=6) (t x:Rat) (ht:rl t<=100) (h1:a<=t) (h2:t<=b) (hx:(t-a)/(b-a)=x) (mj:0<po.length):av Tryz.prog 91 [.agg [ah d,.list 3 ((bl d a b).map ae),.list 12 (po.map aT)],ae t] (.a7 [ae x,ae (b-a),bL true]):=by
 have fY:=jT d a b
 have bX:=xZ d a b
 have gj:=aai d a b
 have fG:LV.pure (.agg [ah d,.list 3 ((bl d a b).map ae),.list 12 (po.map aT)])=true:=by simp [LV.pure,aG,aW ao,aW bw]
 have uz:=iq t a
 have yi:=iq b a
 have hD:=af2 d a b po ha hb cu h9
 have hW:av Tryz.prog 164 [aD (a,b)] (ae (b-a)):=agR (a,b) (by show rl b+rl a<=_;omega)
 have hQ:av Tryz.prog 169 [ae (t-a),ae (b-a)] (.a7 [ae x,iL 0]):=by
  have:=td (t-a) (b-a) J
  rw [if_neg cA,hx] at this
  exact this
 have hH:av Tryz.prog 103 [aD (a,b),ae t] (bL true):=by
  have:=aee (a,b) t (by show rl a+rl t<=_;omega) (by show rl t+rl b<=_;omega)
  unfold iU at this
  rw [decide_eq_true h1,decide_eq_true h2] at this
  exact this
 refine aN Tryz.func91 (ht:=(afL (ao.pure _) (ao.pure _) rfl)) ?_
 refine bu ?_
 refine cp aK (hD) ?_
 refine bu ?_
 refine dy 15 rfl ?_ ?_<;>intro nH lJ
 ·omega
 ·refine aL ?_
  refine cp aq (hH) ?_
  refine ax ?_
  refine aC rfl ?_ ?_<;>intro yZ y8
  ·first | exact y8.elim | cases yZ
  ·refine aZ ?_
   refine cp aK (hW) ?_
   refine ax ?_
   refine fS 9 [8] an ?_
   refine aJ ?_
   refine cp aq (p6 t a J) ?_
   refine ar ?_
   refine cp aq (hQ) ?_
   refine bf ?_
   refine aap ?_
   refine gu 2 rfl rfl an (.pure (.move _)) jq gv ?_
   refine gu 3 rfl rfl an (.pure biA) jq gv ?_
   refine iR 0 1 _ _ an rfl rfl ?_ ?_
   ·refine ar ?_
    refine aE ?_
    refine iR 1 4 _ _ an rfl rfl ?_ ?_
    ·refine ar ?_
     refine aE ?_
     refine aV 4 _ an rfl ?_
     refine ar ?_
     refine aE ?_
     refine aV 5 _ an rfl ?_
     refine ar ?_
     refine aE ?_
     refine aV 6 _ an rfl ?_
     refine ar ?_
     refine aE ?_
     refine eO an ?_
     refine aL ?_
     exact aih
    ·refine ar ?_
     refine aE ?_
     refine aV 1 _ an rfl ?_
     refine ar ?_
     refine aE ?_
     refine aV 5 _ an rfl ?_
     refine ar ?_
     refine aE ?_
     refine aV 6 _ an rfl ?_
     refine ar ?_
     refine aE ?_
     refine eO an ?_
     refine aL ?_
     exact aih
   ·refine ar ?_
    refine aE ?_
    refine aV 0 _ an rfl ?_
    refine ar ?_
    refine aE ?_
    refine aV 4 _ an rfl ?_
    refine ar ?_
    refine aE ?_
    refine aV 5 _ an rfl ?_
    refine ar ?_
    refine aE ?_
    refine aV 6 _ an rfl ?_
    refine ar ?_
    refine aE ?_
    refine eO an ?_
    refine aL ?_
    exact aih
namespace agn
theorem aH {p q:Prop} (k:q) (e:p=q:=by simp only [e1,e2,e3,e4,p1,p2,p3,q1,q2,q3,l1,t0,t1,r1,r2,r3,r4,Nat.zero_add,Nat.reduceMul,Nat.reduceAdd,b1,b2,b3,b4,b5,b6,i1,i2,i3,i4,i5,i6,Nat.reduceBEq,List.getD_cons_zero,List.set_cons_zero,List.set_cons_succ,Nat.reduceEqDiff,reduceIte,if_true,if_false,dU,eo,aP bg,aP bw,aP ao,cH,dO,LV.kill,bN];exact rfl):p:=e.mpr k
end agn
open agn in
theorem aos (n0 n1 n2 w:Rat) (R:Nat) (hR:R<=1000000000) (h0:rl n0<=R) (h1:rl n1<=R) (h2:rl n2<=R) (hw:rl w<=R) (kI:0<w):av Tryz.prog 96 [.agg [ae n0,ae n1,ae n2,ae w]] (aT ⟨⟨n0/w,n1/w,n2/w⟩,w⟩):=by
 have hA:=iw w 0 (by have:rl 0=1:=rfl;omega)
 rw [Rat.add_zero] at hA
 have aQ:w≠0:=by grind
 have hQ0:av Tryz.prog 169 [ae n0,ae w] (.a7 [ae (n0/w),iL 0]):=by
  have:=td n0 w J
  rwa [if_neg aQ] at this
 have hQ1:av Tryz.prog 169 [ae n1,ae w] (.a7 [ae (n1/w),iL 0]):=by
  have:=td n1 w J
  rwa [if_neg aQ] at this
 have hQ2:av Tryz.prog 169 [ae n2,ae w] (.a7 [ae (n2/w),iL 0]):=by
  have:=td n2 w J
  rwa [if_neg aQ] at this
 refine aN Tryz.func96 (ht:=(fun g=>LV.cP g _ (bw.pure _))) ?_
 refine bf ?_
 try simp only [List.getD_cons_zero]
 refine aL ?_
 refine ak rfl nQ ?_
 refine cp aq (hA) ?_
 refine pH (bdW rfl) ?_
 refine bo ?_
 refine bF ?_
 refine az ?_
 refine bY (b:=_) rfl ai ?_
 refine bB ?_
 refine fS 12 [9] an ?_
 refine az ?_
 refine cp aq (hQ0) ?_
 refine dj ?_
 refine bF ?_
 refine az ?_
 refine bY (b:=_) rfl ai ?_
 refine bB ?_
 refine fS 12 [9] an ?_
 refine az ?_
 refine cp aq (hQ1) ?_
 refine dj ?_
 refine bF ?_
 refine az ?_
 refine bY (b:=_) rfl ai ?_
 refine bB ?_
 refine fS 12 [9] an ?_
 refine az ?_
 refine cp aq (hQ2) ?_
 refine dj ?_
 refine bF ?_
 refine az ?_
 refine eE (b:=_) rfl ai ?_
 refine bu ?_
 exact fW [] rfl rfl rfl cs (dJ cs rfl) rT (.pure pu)
namespace akR
theorem aH {p q:Prop} (k:q) (e:p=q:=by simp only [e1,e2,e3,e4,p1,p2,p3,q1,q2,q3,l1,t0,t1,r1,r2,r3,r4,Nat.zero_add,Nat.reduceMul,Nat.reduceAdd,b1,b2,b3,b4,b5,b6,i1,i2,i3,i4,i5,i6,Nat.reduceBEq,List.take_zero,fB,aky,aqM,gr,cy,gU,mz,lI,wj,List.length_map,kW,kJ,iA,List.length_cons,List.length_nil,List.nil_append,List.map_nil,List.take_nil,List.append_nil,List.set_cons_zero,List.set_cons_succ,Nat.reduceEqDiff,reduceIte,if_true,if_false,dU,eo,aP bg,aP bw,aP ao,cH,dO,LV.kill,bN];exact rfl):p:=e.mpr k
end akR
open akR in
theorem asr (d:Nat) (a b:Rat) (po:List aF) (ha:rl a<=100) (hb:rl b<=100) (cu:a<b) (h9:d<=6) (lo hi x y:Rat) (nL:rl lo<=100) (rM:rl hi<=100) (k1:a<=lo) (k2:lo<hi) (k3:hi<=b) (hx:(lo-a)/(b-a)=x) (hy:(hi-a)/(b-a)=y) (eX:x<1) (tq:rl (1-x)+rl x+1<=20) (hyr:rl (1-y)+rl y+1<=20) (R:Nat) (hR:R<=1000000) (h:jW po d R) (hN:∀ k,∀ z∈bj po k,rl z<=100000) (hW:∀ z∈aX po,rl z<=100000) (fx:0<=x) (gW:0<=y) (jZ:y<=1):av Tryz.prog 43 [.agg [ah d,.list 3 ((bl d a b).map ae),.list 12 (po.map aT)],ae lo,ae hi] (.a7 [.agg [ah d,.list 3 ((bl d lo hi).map ae),.list 12 ((jR po x y).map aT)],iL 0]):=by
 have hl:=h.hl
 have hd:=h.hd
 have h6:=h.h6
 have fG:LV.pure (.agg [ah d,.list 3 ((bl d a b).map ae),.list 12 (po.map aT)])=true:=by simp [LV.pure,aG,aW ao,aW bw]
 have hOx:=agx d a b po ha hb cu h9 lo x nL k1 cA hx J
 have hOy:=agx d a b po ha hb cu h9 hi y rM cA k3 hy J
 have hcm:¬0<=fi lo hi:=fun e=>by have:=sG.1 e;grind
 have hrx:rl x<=20:=by omega
 have hry:rl y<=20:=by omega
 have qC:rl 0=1:=rfl
 have hAl:=iw lo 0 J
 have hAh:=iw hi 0 J
 rw [Rat.add_zero] at hAl hAh
 have fY:=jT d lo hi
 have hw3:=ac8 h
 have ni:=aa4 h 0
 have oR:=aa4 h 1
 have zr:=aa4 h 2
 have gU:(dI (bj po 0) x y).length=d+1:=by rw [u5];omega
 have mz:(dI (bj po 1) x y).length=d+1:=by rw [u5];omega
 have lI:(dI (bj po 2) x y).length=d+1:=by rw [u5];omega
 have wj:(dI (aX po) x y).length=d+1:=by rw [u5];omega
 have hsy:=iq y x
 have mo:∀ l:List Rat,aG (l.map ae)=true:=fun l=>aW ao l
 have agS:∀ q0 wg q2' q3':Rat,LV.pure (.agg [ae q0,ae wg,ae q2',ae q3'])=true:=fun _ _ _ _=>by simp [LV.pure,aG,ao.pure]
 have sM:=iq 1 x
 have hdv:=oT (y-x) (1-x)
 have aQ:1-x≠0:=by grind
 have hP:∀ p:List Rat,p.length=d+1->(∀ z∈p,rl z<=100000)->av Tryz.prog 94 [.list 3 (p.map ae),ae x,ae y] (.list 3 ((dI p x y).map ae)):=fun p hp hz=>by
  have:=aB0 p x y J J (fun z hh=>Nat.le_trans (hz z hh) ai) J (fun _=>⟨apN J (fun z hh=>Nat.le_trans (hz z hh) ai) J,apN (by rw [wh];omega) (fun z hh=>Nat.le_trans (axg J hz ai tq z hh) ai) J⟩) (fun e=>absurd e aQ)
  rwa [alg] at this
 have hP0:=hP (bj po 0) J (hN 0)
 have z9:=hP (bj po 1) J (hN 1)
 have hP2:=hP (bj po 2) J (hN 2)
 have hP3:=hP (aX po) J hW
 refine aN Tryz.func43 (ht:=(jh (by simp [LV.pure,aG,aW ao,aW bw]) rfl)) ?_
 have fB:True:=trivial
 have aky:True:=trivial
 have aqM:True:=trivial
 have gr:True:=trivial
 refine dp ?_
 refine cp aq (hOx) ?_
 refine gy ?_
 refine cp aq (hOy) ?_
 refine im ?_
 refine ak (a6 (v:=false) rfl rfl ((rfl)) rfl) (.move _) ?_
 refine ak (a6 (v:=false) rfl rfl ((rfl)) rfl) (.not rfl) ?_
 refine ak rfl (.oO rfl ((rfl))) ?_
 refine ar ?_
 refine ak (a6 (v:=false) rfl rfl ((rfl)) rfl) il ?_
 refine ak (a6 (v:=false) rfl rfl ((rfl)) rfl) il ?_
 refine gL (a6 (v:=false) rfl rfl ((rfl)) rfl) (.cons eJ (.cons eJ .nil)) (lL lo hi J) ?_
 refine ak (a6 (v:=false) rfl rfl ((rfl)) rfl) (.bin rfl rfl rfl) ?_
 refine ak rfl (.oO rfl ((rfl))) ?_
 refine aL ?_
 refine aC rfl ?_ ?_<;>intro aDo h46
 ·first | exact hcm h46 | omega
 ·refine bo ?_
  refine cp aK (aeX d (bl d a b) po R hR h) ?_
  refine ax ?_
  refine bF ?_
  refine az ?_
  refine bY (b:=_) rfl ai ?_
  refine im ?_
  refine cp fJ (hP0) ?_
  refine bB ?_
  refine bF ?_
  refine az ?_
  refine bY (b:=_) rfl ai ?_
  refine im ?_
  refine cp fJ (z9) ?_
  refine bB ?_
  refine bF ?_
  refine az ?_
  refine bY (b:=_) rfl ai ?_
  refine im ?_
  refine cp fJ (hP2) ?_
  refine bB ?_
  refine bF ?_
  refine az ?_
  refine bY (b:=_) rfl ai ?_
  refine im ?_
  refine cp fJ (hP3) ?_
  refine bB ?_
  refine bF ?_
  refine az ?_
  refine eE (b:=_) rfl ai ?_
  refine nh ?_
  refine ak rfl cB ?_
  refine ak rfl (.bin rfl rfl (auh J)) ?_
  refine ax ?_
  refine ju ((aw.cell 17 rfl (fun Z μ w cs h=>ali 83 3 _ _ Z μ w cs h)).trans (aw.tH _ 83 3 rfl)) ?_
  refine dG (fun(m:Nat) L=>(((((((((St.mk L.slot (hp [(3,⟨3,[.agg [ah d,.list 3 ((bl d a b).map ae),.list 12 (po.map aT)]],true⟩),(4,⟨3,[ae lo],true⟩),(5,⟨3,[ae hi],true⟩),(6,⟨3,[.agg [.v (.int .i64 0),.v (.slice none 0 0),.v (.slice none 0 0)]],true⟩),(8,⟨3,[ae x],true⟩),(9,⟨3,[ae (b-a)],true⟩),(11,⟨3,[ae y],true⟩),(12,⟨3,[ae (b-a)],true⟩),(14,⟨4,[.agg [.list 3 ((dI (bj po 0) x y).map ae),.list 3 ((dI (bj po 1) x y).map ae),.list 3 ((dI (bj po 2) x y).map ae),.list 3 ((dI (aX po) x y).map ae)]],true⟩),(17,⟨3,[.agg [ah d,.ref 83 3 0 m,.v (.slice none 0 0)]],true⟩),(83,⟨3,((bl d lo hi).take m).map ae,true⟩)])).put (some 3) (.aA 3 3 0 0)).put (some 4) (.aA 4 3 0 0)).put (some 5) (.aA 5 3 0 0)).put (some 6) (.aA 6 3 0 0)).put (some 14) (.aA 14 4 0 0)).put (some 17) (.aA 17 3 0 0)).put (some 67) (ah (2*(d+1)))).put (some 68) (ah m))) (fun m=>m<=2*(d+1)) (fun m=>2*(d+1)-m) 0 (Nat.zero_le _) ?_
  rintro m L2 hm
  refine az ?_
  refine aC rfl ?_ ?_<;>intro x8 h69
  ·have dY:m<2*(d+1):=by omega
   have jr:((bl d lo hi).take m).length=m:=by rw [List.length_take];omega
   have fB:(((bl d lo hi).take m).map ae).take m=((bl d lo hi).take m).map ae:=List.take_of_length_le ky
   refine asZ ?_
   refine aC rfl ?_ ?_<;>intro aEl h75
   ·have za:¬m<=d:=by omega
    have aqM:=aBM (a:=lo) (b:=hi) dY za
    refine aZ ?_
    refine aY 6 an ?_
    refine ax ?_
    first | refine cp aq hAl ?_ | refine cp aq hAh ?_
    refine ar ?_
    first | refine bI rfl (.app (news:=[ae lo]) rfl rfl rfl rfl rfl ky (.inl rfl) ai Tryz.underlying25 Tryz.underlying25 jY cJ rfl kA (.inl ⟨82,0,_,rfl,by decide,rfl,rfl,by simp,rfl,by simp [aG,ao.pure]⟩) bm bm ai) ?_ | refine bI rfl (.app (news:=[ae hi]) rfl rfl rfl rfl rfl ky (.inl rfl) ai Tryz.underlying25 Tryz.underlying25 jY cJ rfl kA (.inl ⟨82,0,_,rfl,by decide,rfl,rfl,by simp,rfl,by simp [aG,ao.pure]⟩) bm bm ai) ?_
    refine aZ ?_
    refine cq ((aw.kill _ 19).trans (aw.kill _ 82)) ?_
    refine ak rfl cB ?_
    refine aJ ?_
    exact iJ (m+1) J
   ·have za:m<=d:=by omega
    have aky:=aBi (a:=lo) (b:=hi) dY za
    refine aL ?_
    refine aY 6 an ?_
    refine ax ?_
    first | refine cp aq hAl ?_ | refine cp aq hAh ?_
    refine ar ?_
    first | refine bI rfl (.app (news:=[ae lo]) rfl rfl rfl rfl rfl ky (.inl rfl) ai Tryz.underlying25 Tryz.underlying25 jY cJ rfl kA (.inl ⟨82,0,_,rfl,by decide,rfl,rfl,by simp,rfl,by simp [aG,ao.pure]⟩) bm bm ai) ?_ | refine bI rfl (.app (news:=[ae hi]) rfl rfl rfl rfl rfl ky (.inl rfl) ai Tryz.underlying25 Tryz.underlying25 jY cJ rfl kA (.inl ⟨82,0,_,rfl,by decide,rfl,rfl,by simp,rfl,by simp [aG,ao.pure]⟩) bm bm ai) ?_
    refine aZ ?_
    refine cq ((aw.kill _ 19).trans (aw.kill _ 82)) ?_
    refine ak rfl cB ?_
    refine aJ ?_
    exact iJ (m+1) J
  ·obtain rfl:m=2*(d+1):=by omega
   have hEk:(bl d lo hi).take (2*(d+1))=(bl d lo hi):=List.take_of_length_le J
   simp only [hEk]
   refine gy ?_
   refine ju ((aw.cell 17 rfl (fun Z μ w cs h=>ab8 117 12 _ _ Z μ w cs h)).trans (aw.tH _ 117 12 rfl)) ?_
   refine dG (fun(j:Nat) L=>(((((((((St.mk L.slot (hp [(3,⟨3,[.agg [ah d,.list 3 ((bl d a b).map ae),.list 12 (po.map aT)]],true⟩),(4,⟨3,[ae lo],true⟩),(5,⟨3,[ae hi],true⟩),(6,⟨3,[.agg [.v (.int .i64 0),.v (.slice none 0 0),.v (.slice none 0 0)]],true⟩),(8,⟨3,[ae x],true⟩),(9,⟨3,[ae (b-a)],true⟩),(11,⟨3,[ae y],true⟩),(12,⟨3,[ae (b-a)],true⟩),(14,⟨4,[.agg [.list 3 ((dI (bj po 0) x y).map ae),.list 3 ((dI (bj po 1) x y).map ae),.list 3 ((dI (bj po 2) x y).map ae),.list 3 ((dI (aX po) x y).map ae)]],true⟩),(17,⟨3,[.agg [ah d,.ref 83 3 0 (2*(d+1)),.ref 117 12 0 j]],true⟩),(83,⟨3,(bl d lo hi).map ae,true⟩),(117,⟨12,((jR po x y).take j).map aT,true⟩)])).put (some 3) (.aA 3 3 0 0)).put (some 4) (.aA 4 3 0 0)).put (some 5) (.aA 5 3 0 0)).put (some 6) (.aA 6 3 0 0)).put (some 14) (.aA 14 4 0 0)).put (some 17) (.aA 17 3 0 0)).put (some 88) (ah (d+1))).put (some 89) (ah j))) (fun j=>j<=d+1) (fun j=>d+1-j) 0 (Nat.zero_le _) ?_
   rintro j L3 hj
   refine az ?_
   refine aC rfl ?_ ?_<;>intro awn h90
   ·have g7:j<d+1:=by omega
    have hpj:=af5 h fx eX gW jZ (j:=j) J
    have jr:((jR po x y).take j).length=j:=by rw [List.length_take,qy];omega
    have fB:(((jR po x y).take j).map aT).take j=((jR po x y).take j).map aT:=List.take_of_length_le ky
    have gr:(jR po x y).take j++[yn po x y j]=(jR po x y).take (j+1):=by
     rw [<-ai1 (x:=x) (y:=y) (show j<po.length by omega),List.take_add_one,List.getD_eq_getElem?_getD,List.getElem?_eq_getElem (by rw [qy];omega)];rfl
    have hcw:rl ((dI (aX po) x y).getD j 0)<=500000000:=by
     rw [adI h eX J]
     exact Nat.le_trans (aa5 (R:=100000) tq hyr h6 J fun i=>fR ai hW i) ai
    have ayW:rl ((dI (bj po 0) x y).getD j 0)<=500000000:=by
     rw [abK h eX 0 J]
     exact Nat.le_trans (aa5 (R:=100000) tq hyr h6 J fun i=>fR ai (hN 0) i) ai
    have av9:rl ((dI (bj po 1) x y).getD j 0)<=500000000:=by
     rw [abK h eX 1 J]
     exact Nat.le_trans (aa5 (R:=100000) tq hyr h6 J fun i=>fR ai (hN 1) i) ai
    have ay0:rl ((dI (bj po 2) x y).getD j 0)<=500000000:=by
     rw [abK h eX 2 J]
     exact Nat.le_trans (aa5 (R:=100000) tq hyr h6 J fun i=>fR ai (hN 2) i) ai
    have hFP:av Tryz.prog 96 [.agg [ae ((dI (bj po 0) x y).getD j 0),ae ((dI (bj po 1) x y).getD j 0),ae ((dI (bj po 2) x y).getD j 0),ae ((dI (aX po) x y).getD j 0)]] (aT (yn po x y j)):=aos _ _ _ _ 500000000 ai ayW av9 ay0 hcw hpj
    refine bB ?_
    refine aY 25 an ?_
    refine yu ?_
    have aEo:=agS ((dI (bj po 0) x y).getD j 0) ((dI (bj po 1) x y).getD j 0) ((dI (bj po 2) x y).getD j 0) ((dI (aX po) x y).getD j 0)
    refine cp aK (hFP) ?_
    refine ar ?_
    refine bI rfl (.app (news:=[aT (yn po x y j)]) rfl rfl rfl rfl rfl ky (.inl rfl) ai Tryz.underlying26 Tryz.underlying26 zq rT cs B42 (.inl ⟨116,0,_,rfl,by decide,rfl,rfl,by simp,rfl,by simp [aG,bw.pure]⟩) bm bm ai) ?_
    refine aZ ?_
    refine cq (aw.kill _ 116) ?_
    refine ak rfl cB ?_
    refine aJ ?_
    exact vF
   ·obtain rfl:j=d+1:=by omega
    have hEp:(jR po x y).take (d+1)=(jR po x y):=List.take_of_length_le (by rw [qy];omega)
    refine dp ?_
    simp only [hEp]
    exact sN [83,117] rfl rfl rfl cs (dJ cs rfl) jI (.agg (.cons (.pure rfl) (.cons (eM (l:=bl d lo hi) ao rfl rfl fY.symm) (.cons (eM (l:=jR po x y) bw rfl rfl (by rw [qy];omega)) .nil)))) rfl (.pure rfl)
end Go.Proofs.YtckppbhafancnaaGreat
end
section
set_option linter.unusedVariables false
set_option linter.unusedSimpArgs false
namespace Go.Lg
section
variable {P:Program} {W w w':World} {X:XS} {Z0 Z Zr:Nat->Prop} {μ dD:Nat->Option Nat} {H:bK} {a:Act} {L L':St} {n:Nat} {ops:Array Oper}
def acC (P:Program) (ops:Array Oper) (o:Oper) (L L':St):Prop :=
 ∀ (n:Nat) (W:World) (X:XS) (Z0:Nat->Prop) (a:Act) (w:World) (K:Act->World->Prop) (Q:Exit->Act->World->Prop),fa n W X Z0 L a w->(∀ t,o.dst=some t->t<n) ->
  (∀ a' w',fa n W X Z0 L' a' w'->K a' w')->if Region.wanted o (yielded ops a.tmps) then o.wp P a w K Q else K (a.put o.dst undef) w
variable {Q:iS->St->Prop}
end
end Go.Lg
namespace Go.Lg
section
variable {P:Program} {W w w':World} {X X0:XS} {Z0 Z Zr:Nat->Prop} {μ dD:Nat->Option Nat} {H H' Hr:bK} {a:Act} {L L':St} {n d:Nat} {ops:Array Oper} {σ:Nat->Nat}
def uf (μ dD:Nat->Option Nat) (d:Nat):Nat->Option Nat:=fun c=>if 1000000+d*16<c/\c<1000000+d*16+16 then(dD (c-(1000000+d*16))).or (μ c) else μ c
theorem Core.axL (hc:Core W X Z0 μ Z H w) (hr:Core w X0 Z dD Zr Hr w') (zg:∀ k id,dD k=some id->k≠0->k<16/\σ k=dK d k/\μ (dK d k)=none)
  (hb:∀ id,X0.x id->μ (σ 0)=some id/\¬ Z id) (hy:∀ id,X0.y id->(∀ c,μ c≠some id)/\¬ Z id/\(W.heap.size<=id\/X.y id)) (h0:∀ id,dD 0=some id->X0.x id) (hH:∀ k id blk,dD k=some id->Hr k=some blk->H' (σ k)=some ⟨blk.sz,cW σ blk.vals,blk.mt⟩)
  (hold:∀ c id,μ c=some id->¬ X0 id->H' c=H c) :
  Core W X Z0 (uf μ dD d) Zr H' w'/\(∀ c id,μ c=some id->uf μ dD d c=some id)/\Frame Z μ w w'/\(∀ k id,dD k=some id->uf μ dD d (σ k)=some id):=by
 have afW:∀ c id,μ c=some id->uf μ dD d c=some id:=fun c id h=>by
  unfold uf
  split
  ·rename_i pX
   cases hq:dD (c-(1000000+d*16)) with
   | none=>simpa using h
   | some id' =>
    have:=(zg _ _ hq J).2.2
    have e:dK d (c-(1000000+d*16))=c:=by unfold dK;omega
    rw [e,h] at this;cases this
  ·exact h
 have avv:∀ k id,dD k=some id->k≠0->uf μ dD d (dK d k)=some id:=fun k id h hk=>by
  have:=(zg _ _ h hk).1
  unfold uf dK
  rw [if_pos J]
  have e:1000000+d*16+k-(1000000+d*16)=k:=by omega
  rw [e,h];rfl
 have kB:∀ k id,dD k=some id->uf μ dD d (σ k)=some id:=fun k id h=>by
  by_cases hk:k=0
  ·subst hk;exact afW _ _ (hb id (h0 id h)).1
  ·rw [(zg _ _ h hk).2.1];exact avv k id h hk
 have hinv:∀ c id,uf μ dD d c=some id->(∃ k,k≠0/\c=dK d k/\dD k=some id)\/μ c=some id:=fun c id h=>by
  unfold uf at h
  split at h
  ·rename_i pX
   cases hq:dD (c-(1000000+d*16)) with
   | none=>rw [hq] at h;exact .inr lr
   | some id' =>
    rw [hq] at h
    simp only [Option.some_or,Option.some.injEq] at h
    subst h
    exact .inl ⟨c-(1000000+d*16),J,by unfold dK;omega,hq⟩
  ·exact .inr h
 have bX:∀ k id,dD k=some id->k≠0->w.heap.size<=id\/X0.y id:=fun k id h hk=>by
  rcases hr.own k id h with h1 | h1 | h1
  ·exact .inl h1
  ·exact absurd (hr.x0 k id h h1) hk
  ·exact .inr h1
 have ag5:∀ k id c,dD k=some id->k≠0->μ c=some id->False:=fun k id c h hk h1=>by
  rcases bX k id h hk with h2 | h2
  ·have:=hc.lt h1;omega
  ·exact(hy id h2).1 c h1
 have oH:∀ k,k<w.heap.size->¬ X0 k->w'.heap[k]?=w.heap[k]?:=fun k hk hx=>hr.cd.block k hk hx
 have dt:Frame Z μ w w':=by
  refine⟨fun id h=>oH id (hc.ke id h) (fun e=>e.elim (fun e=>(hb id e).2 h) (fun e=>(hy id e).2.1 h)),fun c id h cc T fz sH=>?_⟩
  by_cases e:X0 id
  ·exact hr.cd.sL id e cc T fz sH
  ·exact⟨cc,(oH id (hc.lt h) e).trans sH,rfl⟩
 have hX:∀ k,k<W.heap.size->¬ X k->¬ X0 k:=fun k hk hx e=>by
  rcases e with e | e
  ·rcases hc.own (σ 0) k (hb k e).1 with h | h
   ·omega
   ·exact hx h
  ·rcases(hy k e).2.2 with h | h
   ·omega
   ·exact hx (.inr h)
 refine⟨⟨?_,hr.ke,fun id h=>hr.iK id (hc.iK id h),?_,?_,?_,?_,hc.mC,fun id h=>afW 0 id (hc.x1 id h),?_,?_,?_⟩,afW,dt,kB⟩
 ·refine⟨hr.cd.os.trans hc.cd.os,hr.cd.tape.trans hc.cd.tape,hr.cd.output.trans hc.cd.output,Nat.le_trans hc.cd.size hr.cd.size,fun k hk hx=>?_,fun k hx c T fz h=>?_⟩
  ·exact(oH k (by have:=hc.cd.size;omega) (hX k hk hx)).trans (hc.cd.block k hk hx)
  ·obtain⟨c',g1,g2⟩:=hc.cd.sL k hx c T fz h
   by_cases e:X0 k
   ·obtain⟨c2,g3,g4⟩:=hr.cd.sL k e c' T fz g1
    exact⟨c2,g3,g4.trans g2⟩
   ·exact⟨c',(oH k (Array.getElem?_eq_some_iff.1 g1).1 e).trans g1,g2⟩
 ·intro id h
  rcases hr.ki id h with h | h | h
  ·exact hc.ki id h
  ·exact .inr (.inl (Nat.le_trans hc.cd.size h))
  ·exact .inr (hy id h).2.2
 ·intro c c' id h h'
  rcases hinv c id h with⟨k,k0,rfl,h1⟩ | h1<;>rcases hinv c' id h' with⟨k',k0',rfl,h2⟩ | h2
  ·rw [hr.inj k k' id h1 h2]
  ·exact(ag5 k id _ h1 k0 h2).elim
  ·exact(ag5 k' id _ h2 k0' h1).elim
  ·exact hc.inj c c' id h1 h2
 ·intro c id h
  rcases hinv c id h with⟨k,k0,rfl,h1⟩ | h1
  ·rcases bX k id h1 k0 with h2 | h2
   ·exact .inl (Nat.le_trans hc.cd.size h2)
   ·exact(hy id h2).2.2.imp (fun h=>h) .inr
  ·exact hc.own c id h1
 ·intro c id h hx
  rcases hinv c id h with⟨k,k0,rfl,h1⟩ | h1
  ·exact(ag5 k id 0 h1 k0 (hc.x1 id hx)).elim
  ·exact hc.x0 c id h1 hx
 all_goals
  have tv:∀ c id,uf μ dD d c=some id->(∃ k blk,c=σ k/\dD k=some id/\Hr k=some blk/\rn Zr dD w' blk id)\/(¬ X0 id/\μ c=some id):=fun c id h=>by
   rcases hinv c id h with⟨k,k0,rfl,h1⟩ | h1
   ·obtain⟨blk,g1,g2⟩:=hr.heap k id h1
    exact .inl ⟨k,blk,(zg k id h1 k0).2.1.symm,h1,g1,g2⟩
   ·by_cases e:X0 id
    ·have e:X0.x id:=e.resolve_right (fun e=>(hy id e).1 c h1)
     have xS:=hc.inj c (σ 0) id h1 (hb id e).1
     have h2:=hr.x1 id e
     obtain⟨blk,g1,g2⟩:=hr.heap 0 id h2
     exact .inl ⟨0,blk,xS,h2,g1,g2⟩
    ·exact .inr ⟨e,h1⟩
 ·intro c id blk h g eA hz
  rcases tv c id h with⟨k,b0,rfl,h1,g1,g2⟩ | ⟨e,h1⟩
  ·rw [hH k id b0 h1 g1] at g;cases g
   exact hr.ir k id b0 h1 g1 eA hz
  ·rw [hold c id h1 e] at g
   rcases hr.ki id hz with hz | hz | hz
   ·exact hc.ir c id blk h1 g eA hz
   ·have:=hc.lt h1;omega
   ·exact(e (.inr hz)).elim
 ·intro c id blk h g eA
  rcases tv c id h with⟨k,b0,rfl,h1,g1,g2⟩ | ⟨e,h1⟩
  ·rw [hH k id b0 h1 g1] at g;cases g
   exact hr.bR k id b0 h1 g1 eA
  ·rw [hold c id h1 e] at g
   exact hr.iK id (hc.bR c id blk h1 g eA)
 ·intro c id h
  rcases tv c id h with⟨k,b0,rfl,h1,g1,cc,T,part,rest,q1,q2,q3⟩ | ⟨e,h1⟩
  ·exact⟨_,hH k id b0 h1 g1,cc,T,part,rest,q1,q2,aM.bJ σ kB _ _ _ q3⟩
  ·obtain⟨bk,g1,g2⟩:=hc.heap c id h1
   exact⟨bk,by rw [hold c id h1 e];exact g1,g2.mono hr.iK afW dt (oH id (hc.lt h1) e)⟩
def rS (blk:a8) (bs:List a8):bK:=fun n=>if n=0 then some blk else bs[n-1]?
def qh (σ:Nat->Nat):Nat->List a8->St->St
 | _,[],L=>L
 | k,b :: bs,L=>qh σ (k+1) bs (L.bG (σ k) (some ⟨b.sz,cW σ b.vals,b.mt⟩))
theorem amn:∀ (bs:List a8) (k:Nat) (L:St),(qh σ k bs L).slot=L.slot
 | [],_,_=>rfl
 | b :: bs,k,L=>by rw [qh,amn bs];rfl
theorem agf:∀ (bs:List a8) (k:Nat) (L:St) (c:Nat),(∀ j,k<=j->j<k+bs.length->c≠σ j)->(qh σ k bs L).heap c=L.heap c
 | [],_,_,_,_=>rfl
 | b :: bs,k,L,c,h=>by
   rw [qh,agf bs (k+1) _ c (fun j h1 h2=>h j J (by simp only [List.length_cons];omega))]
   show (if c=σ k then _ else L.heap c)=_
   rw [if_neg (h k (Nat.le_refl _) (by simp only [List.length_cons];omega))]
theorem aqP:∀ (bs:List a8) (k:Nat) (L:St) (i:Nat) (b:a8),(∀ j j',k<=j->j<j'->j'<k+bs.length->σ j≠σ j')->bs[i]?=some b->(qh σ k bs L).heap (σ (k+i))=some ⟨b.sz,cW σ b.vals,b.mt⟩
 | [],_,_,i,_,_,h=>by simp at h
 | x :: xs,k,L,0,b,hi,h=>by
   simp only [List.getElem?_cons_zero,Option.some.injEq] at h;subst h
   show (qh σ k (x :: xs) L).heap (σ k)=_
   rw [qh,agf xs (k+1) _ _ (fun j h1 h2=>hi k j (Nat.le_refl _) J (by simp only [List.length_cons];omega))]
   simp [St.bG]
 | x :: xs,k,L,i+1,b,hi,h=>by
   rw [qh]
   have:=aqP xs (k+1) (L.bG (σ k) (some ⟨x.sz,cW σ x.vals,x.mt⟩)) i b (fun j j' h1 h2 h3=>hi j j' J h2 (by simp only [List.length_cons];omega)) lr
   rwa [show k+1+i=k+(i+1) by omega] at this
def kR (b d:Nat):Nat->Nat:=fun k=>if k=0 then b else dK d k
end
end Go.Lg
namespace Go.Lg
section
variable {P:Program} {W w w':World} {X X0:XS} {Z0 Z Zr:Nat->Prop} {μ dD:Nat->Option Nat} {H H' Hr:bK} {a:Act} {L L':St} {n d:Nat} {ops:Array Oper} {σ:Nat->Nat}
def pI (own:List Nat):Nat->Nat:=fun b=>if b=0 then 0 else own.idxOf b+1
def wm (μ:Nat->Option Nat) (own:List Nat):Nat->Option Nat:=fun k=>if k=0 then μ 0 else(own[k-1]?).bind μ
theorem awN {own:List Nat} {k id:Nat} (hnd:own.Nodup) (h:wm μ own k=some id):(k=0/\μ 0=some id)\/∃ b,k≠0/\own[k-1]?=some b/\μ b=some id:=by
 unfold wm at h
 split at h
 ·rename_i e;exact .inl ⟨e,h⟩
 ·rename_i e
  rw [Option.bind_eq_some_iff] at h
  obtain⟨b,g1,g2⟩:=h
  exact .inr ⟨b,e,g1,g2⟩
theorem ayD {own:List Nat} {H:bK} (hc:∀ c id,μ c=some id->H c≠none) (zx:∀ c,c≠0->H c≠none->c∈own):∀ c id,μ c=some id->wm μ own (pI own c)=some id:=fun c id h=>by
 by_cases h0:c=0
 ·subst h0;simpa [pI,wm] using h
 ·have hm:=zx c h0 (hc c id h)
  have hl:=List.idxOf_lt_length_of_mem hm
  have he:own[own.idxOf c]?=some c:=by rw [List.getElem?_eq_getElem hl,List.getElem_idxOf hl]
  simp [pI,wm,h0,he,h]
theorem akv {bc:Nat->Option Nat} (f:Nat->Nat) (hm:∀ c id,μ c=some id->bc (f c)=some id) (hc:Core W X Z0 μ Z L.heap w) (hr:∀ t,a9 Z μ w (L.slot t) (a.tmps.getD t undef)) :
  ∀ (rs:List ResultVar) (xs:List LV),wF P L rs xs->(∀ x∈xs,x≠.any/\∀ l,x≠.a7 l)->∃ us,(rs.mapM (vN a.tmps)).run P w=.ok us w/\fe Z bc w (cW f xs) us
 | _,_,.nil,_=>⟨[],rfl,rfl⟩
 | _,_,.cons (vs:=vs) (xs:=xs) h t,hx=>by
   obtain⟨u,q1,q2⟩:=ahS hc hr h (hx _ aO)
   obtain⟨us,q3,q4⟩:=akv f hm hc hr _ _ t (fun y hy=>hx y (by simp [hy]))
   refine⟨u :: us,?_,u,us,rfl,q2.bJ f hm,q4⟩
   rw [List.mapM_cons,Sem.run_bind,q1]
   simp only [Result.andThen_ok,Sem.run_bind,q3,Sem.run_pure]
theorem awf {ys:List LV} {us:List Value} (h:fe Z μ w ys us):a9 Z μ w (ad9 ys) (if h:us.toArray.size=1 then us.toArray[0] else .tuple us.toArray):=by
 have w9:=aar _ _ h
 match ys,us,h,w9 with
 | [y],[u],q2,_ =>
  obtain⟨v,iO,e,g1,g2⟩:=q2
  simp only [List.cons.injEq] at e
  obtain⟨rfl,_⟩:=e
  have hnt:∀ l,y≠.a7 l:=fun l e=>by subst e;have:=g1.2 rfl;simp [ay] at this
  exact a9.pL hnt g1
 | [],[],q2,_=>exact⟨_,rfl,by simpa using q2⟩
 | y :: y' :: ys,u :: u' :: us,q2,_=>exact⟨(u :: u' :: us).toArray,by simp,by simpa using q2⟩
theorem Core.aBT {own:List Nat} {Hr:bK} {bs:List a8} (hc:Core W X Z0 μ Z H w) (hnd:own.Nodup) (gU:0∉own) (zx:∀ c,c≠0->H c≠none->c∈own)
  (px:∀ (k b:Nat),own[k]?=some b->∃ blk:a8,H b=some blk/\bs[k]?=some ⟨blk.sz,cW (pI own) blk.vals,blk.mt⟩)
  (ib:∀ k,k≠0->Hr k=bs[k-1]?) (qC:∀ id blk,μ 0=some id->H 0=some blk->Hr 0=some ⟨blk.sz,cW (pI own) blk.vals,blk.mt⟩) :
  Core W X Z0 (wm μ own) Z Hr w/\∀ c id,μ c=some id->wm μ own (pI own c)=some id:=by
 have hhm:∀ c id,μ c=some id->H c≠none:=fun c id h e=>by obtain⟨bk,g,_⟩:=hc.heap c id h;rw [e] at g;cases g
 have hm:=ayD (μ:=μ) (own:=own) hhm zx
 have tv:∀ k id,wm μ own k=some id->∃ c blk,μ c=some id/\H c=some blk/\rn Z μ w blk id/\Hr k=some ⟨blk.sz,cW (pI own) blk.vals,blk.mt⟩/\((k=0/\c=0)\/(k≠0/\c≠0/\own[k-1]?=some c)):=fun k id h=>by
  rcases awN hnd h with⟨rfl,h0⟩ | ⟨b,k0,g1,g2⟩
  ·obtain⟨blk,q1,q2⟩:=hc.heap 0 id h0
   exact⟨0,blk,h0,q1,q2,qC id blk h0 q1,.inl ⟨rfl,rfl⟩⟩
  ·obtain⟨blk,q1,q2⟩:=hc.heap b id g2
   obtain⟨blk',j1,j2⟩:=px _ _ g1
   rw [q1] at j1;cases j1
   exact⟨b,blk,g2,q1,q2,by rw [ib k k0];exact j2,.inr ⟨k0,fun e=>gU (e ▸ List.mem_of_getElem? g1),g1⟩⟩
 refine⟨⟨hc.cd,hc.ke,hc.iK,hc.ki,?_,?_,?_,hc.mC,fun id h=>by simpa [wm] using hc.x1 id h,?_,?_,?_⟩,hm⟩
 ·intro k k' id h h'
  obtain⟨c,_,g1,_,_,_,g2⟩:=tv k id h
  obtain⟨c',_,g1',_,_,_,g2'⟩:=tv k' id h'
  have e:=hc.inj c c' id g1 g1'
  subst e
  rcases g2 with⟨rfl,c0⟩ | ⟨k0,c0,q⟩<;>rcases g2' with⟨rfl,c0'⟩ | ⟨k0',c0',q'⟩
  ·rfl
  ·exact absurd c0 c0'
  ·exact absurd c0' c0
  ·obtain⟨l1,e1⟩:=List.getElem?_eq_some_iff.1 q
   obtain⟨l2,e2⟩:=List.getElem?_eq_some_iff.1 q'
   have hp:=List.pairwise_iff_getElem.1 hnd
   rcases Nat.lt_trichotomy (k-1) (k'-1) with h | h | h
   ·exact absurd (e1.trans e2.symm) (hp _ _ l1 l2 h)
   ·omega
   ·exact absurd (e2.trans e1.symm) (hp _ _ l2 l1 h)
 ·intro k id h
  obtain⟨c,_,g1,_⟩:=tv k id h
  exact hc.own c id g1
 ·intro k id h hx
  obtain⟨c,_,g1,_,_,_,g2⟩:=tv k id h
  have:=hc.x0 c id g1 hx
  rcases g2 with⟨rfl,_⟩ | ⟨_,c0,_⟩
  ·rfl
  ·exact absurd this c0
 ·intro k id blk h g eA
  obtain⟨c,b0,g1,g2,g3,g4,_⟩:=tv k id h
  rw [g4] at g;cases g
  exact hc.ir c id b0 g1 g2 eA
 ·intro k id blk h g eA
  obtain⟨c,b0,g1,g2,g3,g4,_⟩:=tv k id h
  rw [g4] at g;cases g
  exact hc.bR c id b0 g1 g2 eA
 ·intro k id h
  obtain⟨c,b0,g1,g2,⟨cc,T,part,rest,j1,j2,j3⟩,g4,_⟩:=tv k id h
  exact⟨_,g4,cc,T,part,rest,j1,j2,aM.bJ _ hm _ _ _ j3⟩
def gR (b b':Nat):Nat->Nat:=fun k=>if k=b then b' else k
def St.move (L:St) (b b':Nat):St :=
 ⟨fun t=>(L.slot t).bJ (gR b b'),fun c=>if c=b' then(L.heap b).map fun x=>⟨x.sz,cW (gR b b') x.vals,x.mt⟩ else if c=b then none else(L.heap c).map fun x=>⟨x.sz,cW (gR b b') x.vals,x.mt⟩⟩
theorem aw.avT {L:St} {b b':Nat} (hb:b≠0) (pX:b'≠0) (aQ:b≠b') (hf:L.heap b'=none):aw L (L.move b b'):=by
 rintro n W X Z0 a w ⟨dL,bD,μ,Z,hc,hr⟩
 have qP:μ b'=none:=rP hc hf
 let bc:Nat->Option Nat:=fun c=>if c=b' then μ b else if c=b then none else μ c
 have hm:∀ c id,μ c=some id->bc (gR b b' c)=some id:=fun c id h=>by
  by_cases e:c=b
  ·subst e;simp [bc,gR,h]
  ·have e':c≠b':=by rintro rfl;rw [qP] at h;cases h
   simp [bc,gR,e,e',h]
 have hinv:∀ c id,bc c=some id->∃ c0,μ c0=some id/\c=gR b b' c0:=fun c id h=>by
  simp only [bc] at h
  split at h
  ·rename_i e;exact⟨b,h,by simp [gR,e]⟩
  ·split at h
   ·cases h
   ·rename_i e1 e2;exact⟨c,h,by simp [gR,e2]⟩
 have uF:∀ c c' id id',μ c=some id->μ c'=some id'->gR b b' c=gR b b' c'->c=c':=fun c c' id id' h h' e=>by
  have e1:c≠b':=by rintro rfl;rw [qP] at h;cases h
  have e2:c'≠b':=by rintro rfl;rw [qP] at h';cases h'
  unfold gR at e
  split at e<;>split at e<;>first | omega | (subst_vars;first | rfl | (exact absurd rfl (by assumption)) | (exfalso;apply e2;exact e.symm) | (exfalso;apply e1;exact e))
 have hH:∀ c id blk,μ c=some id->L.heap c=some blk->(L.move b b').heap (gR b b' c)=some ⟨blk.sz,cW (gR b b') blk.vals,blk.mt⟩:=fun c id blk h g=>by
  by_cases e:c=b
  ·subst e;simp [St.move,gR,g]
  ·have e':c≠b':=by rintro rfl;rw [qP] at h;cases h
   simp [St.move,gR,e,e',g]
 refine⟨dL,bD,bc,Z,⟨hc.cd,hc.ke,hc.iK,hc.ki,?_,?_,?_,hc.mC,?_,?_,?_,?_⟩,fun t=>a9.bJ _ hm (hr t)⟩
 ·intro c c' id h h'
  obtain⟨d,g1,rfl⟩:=hinv c id h
  obtain⟨d',g2,rfl⟩:=hinv c' id h'
  rw [hc.inj d d' id g1 g2]
 ·intro c id h
  obtain⟨d,g1,rfl⟩:=hinv c id h
  exact hc.own d id g1
 ·intro c id h hx
  obtain⟨d,g1,rfl⟩:=hinv c id h
  have:=hc.x0 d id g1 hx
  subst this
  simp [gR,Ne.symm hb]
 ·intro id h
  have:=hm 0 id (hc.x1 id h)
  simpa [gR,Ne.symm hb] using this
 ·intro c id blk h g eA
  obtain⟨d,g1,rfl⟩:=hinv c id h
  obtain⟨b0,j1,j2⟩:=hc.heap d id g1
  rw [hH d id b0 g1 j1] at g;cases g
  exact hc.ir d id b0 g1 j1 eA
 ·intro c id blk h g eA
  obtain⟨d,g1,rfl⟩:=hinv c id h
  obtain⟨b0,j1,j2⟩:=hc.heap d id g1
  rw [hH d id b0 g1 j1] at g;cases g
  exact hc.bR d id b0 g1 j1 eA
 ·intro c id h
  obtain⟨d,g1,rfl⟩:=hinv c id h
  obtain⟨b0,j1,cc,T,part,rest,q1,q2,q3⟩:=hc.heap d id g1
  exact⟨_,hH d id b0 g1 j1,cc,T,part,rest,q1,q2,aM.bJ _ hm _ _ _ q3⟩
theorem alu {b b':Nat} (f:a8->a8) (aQ:b≠b'):∀ (l:List (Nat × a8)),(∀ p∈l,p.1≠b')->∀ c,hp (l.map fun p=>(gR b b' p.1,f p.2)) c=if c=b' then(hp l b).map f else if c=b then none else(hp l c).map f
 | [],_,c=>by simp [hp]
 | (d,y) :: t,hl,c=>by
   have ih:=alu f aQ t (fun p hp=>hl p (by simp [hp])) c
   have hd:d≠b':=hl (d,y) aO
   have hpc:∀ (e:Nat) (z:a8) (u:List (Nat × a8)) (x:Nat),hp ((e,z) :: u) x=if x=e then some z else hp u x:=fun e z u x=>by
    simp only [hp]
    by_cases h:x=e
    ·simp [h]
    ·have:Nat.beq x e=false:=by rw [<-Bool.not_eq_true,Nat.beq_eq];exact h
     rw [this,if_neg h];rfl
   simp only [List.map_cons,hpc,ih]
   by_cases h1:d=b
   ·subst h1
    simp only [gR,if_true]
    by_cases h2:c=b'
    ·simp [h2]
    ·by_cases h3:c=d
     ·subst h3;simp [h2]
     ·simp [h2,h3]
   ·have e1:gR b b' d=d:=by simp [gR,h1]
    rw [e1]
    by_cases h2:c=b'
    ·subst h2
     have:c≠d:=fun e=>hd e.symm
     simp [this,Ne.symm h1]
    ·by_cases h3:c=b
     ·subst h3
      simp [h2,Ne.symm h1]
     ·by_cases h4:c=d
      ·subst h4;simp [h2,h3]
      ·simp [h2,h3,h4]
theorem aw.asy {L:St} {b b':Nat} {l:List (Nat × a8)} (hl:L.heap=hp l) (hb:b≠0) (pX:b'≠0) (aQ:b≠b') :
  aw L ⟨fun t=>((L.slot t).kill b').bJ (gR b b'),hp ((mR b' l).map fun p=>(gR b b' p.1,(⟨p.2.sz,cW (gR b b') p.2.vals,p.2.mt⟩:a8)))⟩:=by
 have hk:(L.kill b').heap=hp (mR b' l):=by
  funext c
  rw [af6]
  simp only [St.kill,hl]
 have hn:∀ p∈mR b' l,p.1≠b':=by
  clear hk hl
  induction l with
  | nil=>simp [mR]
  | cons q t ih =>
   obtain⟨d,y⟩:=q
   simp only [mR]
   by_cases h:d=b'
   ·subst h;simpa using ih
   ·have:Nat.beq d b'=false:=by rw [<-Bool.not_eq_true,Nat.beq_eq];exact h
    rw [this]
    simp only [cond_false,List.mem_cons]
    rintro p (rfl | hp)
    ·exact h
    ·exact ih p hp
 refine(aw.kill L b' pX).trans ((aw.avT (b:=b) (b':=b') hb pX aQ (by simp [St.kill])).trans (aw.of_eq ?_))
 simp only [St.move,St.mk.injEq]
 refine⟨rfl,?_⟩
 funext c
 rw [alu (fun x=>⟨x.sz,cW (gR b b') x.vals,x.mt⟩) aQ _ hn c,hk]
end
section
variable {Z Z':Nat->Prop} {μ bc:Nat->Option Nat} {w:World}
mutual
theorem LV.ajj (f:Nat->Nat):∀ (x:LV),(x.bJ f).pure=x.pure
 | .any=>rfl
 | .v _=>rfl
 | .list sz l=>by simp only [LV.bJ,LV.pure,aaJ f l]
 | .agg l=>by simp only [LV.bJ,LV.pure,aaJ f l]
 | .ref ..=>rfl
 | .iX ..=>rfl
 | .aA ..=>rfl
 | .bV c=>by simp only [LV.bJ,LV.pure,LV.ajj f c]
 | .cV g l=>by simp only [LV.bJ,LV.pure,aaJ f l]
 | .a7 l=>by simp [LV.bJ,LV.pure]
theorem aaJ (f:Nat->Nat):∀ (l:List LV),aG (cW f l)=aG l
 | []=>rfl
 | x :: xs=>by simp only [cW,aG,LV.ajj f x,aaJ f xs]
end
mutual
theorem ay.unren (f:Nat->Nat) (hm:∀ b id,μ (f b)=some id->bc b=some id):∀ (lv:LV) (cs:List Value),ay Z μ w (lv.bJ f) cs->ay Z bc w lv cs
 | .any,_,h=>by simpa [ay,LV.bJ] using h
 | .v x,cs,h=>by simpa [ay,LV.bJ] using h
 | .list sz l,cs,h=>by
   have h9:aG l=true:=by
    simp only [ay,LV.bJ] at h
    obtain⟨a,len,cap,h1,h2,h3,h4,h9⟩:=h
    rwa [aaJ] at h9
   rw [LV.cP f (.list sz l) (by simpa [LV.pure] using h9)] at h
   exact ay.iY (fun _ h=>h) (fun _ _=>rfl) _ _ (by simpa [LV.pure] using h9) h
 | .agg l,cs,h=>by
   simp only [ay,LV.bJ] at h ⊢
   exact b7.unren f hm l cs h
 | .ref b sz off len,cs,h=>by
   simp only [ay,LV.bJ] at h ⊢
   rcases h with h | ⟨id,cap,c,T,fz,h1,h2,h3⟩
   ·exact oe
   exact .inr ⟨id,cap,c,T,fz,h1,hm _ _ h2,h3⟩
 | .iX b sz off len cap,cs,h=>by
   simp only [ay,LV.bJ] at h ⊢
   obtain⟨id,c,T,fz,h1,h2,h3⟩:=h
   exact⟨id,c,T,fz,h1,hm _ _ h2,h3⟩
 | .aA b sz i o,cs,h=>by
   simp only [ay,LV.bJ] at h ⊢
   obtain⟨id,h1,h2⟩:=h
   exact⟨id,h1,hm _ _ h2⟩
 | .bV c,cs,h=>by
   have h9:c.pure=true:=by
    simp only [ay,LV.bJ] at h
    obtain⟨blk,off,cc,T,fz,part,rest,h1,h2,h3,h4,h5,h6,h7⟩:=h
    rwa [LV.ajj] at h7
   rw [LV.cP f (.bV c) (by simpa [LV.pure] using h9)] at h
   exact ay.iY (fun _ h=>h) (fun _ _=>rfl) _ _ (by simpa [LV.pure] using h9) h
 | .cV g cap,cs,h=>by
   have h9:aG cap=true:=by
    simp only [ay,LV.bJ] at h
    obtain⟨vs,h1,h2,h3⟩:=h
    rwa [aaJ] at h3
   rw [LV.cP f (.cV g cap) (by simpa [LV.pure] using h9)] at h
   exact ay.iY (fun _ h=>h) (fun _ _=>rfl) _ _ (by simpa [LV.pure] using h9) h
 | .a7 _,_,h=>by simp [ay,LV.bJ] at h
theorem aM.unren (f:Nat->Nat) (hm:∀ b id,μ (f b)=some id->bc b=some id) (sz:Nat):∀ (l:List LV) (cs:List Value),aM Z μ w sz (cW f l) cs->aM Z bc w sz l cs
 | [],cs,h=>by simpa [aM,cW] using h
 | x :: xs,cs,h=>by
   simp only [aM,cW] at h ⊢
   obtain⟨c1,c2,h1,h2,h3,h4⟩:=h
   exact⟨c1,c2,h1,h2,ay.unren f hm x c1 h3,aM.unren f hm sz xs c2 h4⟩
theorem b7.unren (f:Nat->Nat) (hm:∀ b id,μ (f b)=some id->bc b=some id):∀ (l:List LV) (cs:List Value),b7 Z μ w (cW f l) cs->b7 Z bc w l cs
 | [],cs,h=>by simpa [b7,cW] using h
 | x :: xs,cs,h=>by
   simp only [b7,cW] at h ⊢
   obtain⟨c1,c2,h1,h2,h3,h4⟩:=h
   exact⟨c1,c2,h1,by rw [<-LV.ad2 f];exact h2,ay.unren f hm x c1 h3,b7.unren f hm xs c2 h4⟩
end
theorem eP.unren (f:Nat->Nat) (hm:∀ b id,μ (f b)=some id->bc b=some id) {lv:LV} {v:Value} (h:eP Z μ w (lv.bJ f) v):eP Z bc w lv v :=
 ⟨fun e=>let ⟨cs,h1,h2⟩:=h.1 (by rwa [LV.afH]);⟨cs,h1,ay.unren f hm _ _ h2⟩,fun e=>ay.unren f hm _ _ (h.2 (by rwa [LV.afH]))⟩
end
def XS.two (i0:Nat) (nq:Nat->Option Nat):XS:=⟨fun k=>k=i0,fun id=>∃ k,k≠0/\nq k=some id⟩
def yM (P:Program) (f:FuncId) (blk c1:a8) (args:List LV) (r:LV) (blk':a8) (bs:List a8):Prop :=
 afY P f/\∀ (W:World) (Z0:Nat->Prop) (vs:List Value) (i0:Nat) (nq:Nat->Option Nat),(∀ id,Z0 id->id<W.heap.size)->nq 0=some i0 ->
  (∀ k id,nq k=some id->¬ Z0 id/\∃ b,rS blk [c1] k=some b/\rn Z0 nq W b id)->(∀ k k' id,nq k=some id->nq k'=some id->k=k')->fe Z0 nq W args vs ->
  Calls P f vs.toArray W fun e w'=>∃ v μ Z,e=.returned v/\Core W (XS.two i0 nq) Z0 μ Z (rS blk' bs) w'/\a9 Z μ w' r v
def aiz (P:Program) (rs:List ResultVar) (L:St) (r:LV) (blk':a8) (bs:List a8):Prop :=
 ∃ (xs:List LV) (own:List Nat) (b0:a8),L.heap 0=some b0/\blk'=⟨b0.sz,cW (pI own) b0.vals,b0.mt⟩/\wF P L rs xs/\(∀ x∈xs,x≠.any/\∀ l,x≠.a7 l)/\own.Nodup/\0∉own/\(∀ c,c≠0->L.heap c≠none->c∈own) /\
  (∀ (k b:Nat),own[k]?=some b->∃ blk:a8,L.heap b=some blk/\bs[k]?=some ⟨blk.sz,cW (pI own) blk.vals,blk.mt⟩)/\r=ad9 (cW (pI own) xs)
def ahe (P:Program) (rs:List ResultVar) (L:St) (r:LV) (blk':a8) (bs:List a8):Prop:=∃ L0,aw L L0/\aiz P rs L0 r blk' bs
section
variable {P:Program} {W w w':World} {X X0:XS} {Z0 Z Zr:Nat->Prop} {μ dD:Nat->Option Nat} {H H' Hr:bK} {a:Act} {L L':St} {n d:Nat} {ops:Array Oper} {σ:Nat->Nat}
def StC (args:List LV) (blk c1:a8):St:=⟨fun t=>args.getD t .any,rS blk [c1]⟩
theorem av4 (args:List LV) (blk c1:a8):StC args blk c1=St.mk (fun t=>args.getD t .any) (hp [(0,blk),(1,c1)]):=by
 simp only [StC,St.mk.injEq,true_and]
 funext c
 simp only [hp,rS]
 match c with
 | 0=>rfl
 | 1=>rfl
 | c+2=>rw [if_neg J,ob (show c+2≠0 by omega),ob (show c+2≠1 by omega)];simp
theorem aAH {f:FuncId} {fn:Func} {c:Code} {args:List LV} {r:LV} {blk c1 blk':a8} {bs:List a8} (gH:P.follows .mixedOrders=true) (hf:P.funcs[f]?=some fn) (hb:fn.body=some c)
  (hn:(fn.name== "runtime.NumGoroutine")=false) (hd:jF fn.ntmps c=true) (hlen:args.length<=fn.ntmps) (eA:blk.mt=true) (aip:c1.mt=true)
  (h:cx P c (fun e L=>match e with | .exit _=>False | _=>ahe P fn.results.toList L r blk' bs) (St.mk (fun t=>args.getD t .any) (hp [(0,blk),(1,c1)]))):yM P f blk c1 args r blk' bs:=by
 rw [<-av4] at h
 refine⟨⟨fn,hf,by rw [hb];rfl,hn⟩,fun W Z0 vs i0 nq hz h0 pU abd hargs=>?_⟩
 have pA:=aar _ _ hargs
 refine calls_of_wp hf hb ?_
 have arl:∀ k id,nq k=some id->id<W.heap.size:=fun k id e=>by
  obtain⟨_,bk,_,c,T,part,rest,h1,_⟩:=pU k id e
  exact(Array.getElem?_eq_some_iff.1 h1).1
 have aw4:∀ k bk,rS blk [c1] k=some bk->bk.mt=true:=fun k bk e=>by
  unfold rS at e
  split at e
  ·cases e;exact eA
  ·rename_i hk
   have:=List.mem_of_getElem? e
   simp only [List.mem_singleton] at this
   subst this;exact aip
 have ng:fa fn.ntmps W (XS.two i0 nq) Z0 (StC args blk c1) ⟨vs.toArray++Array.replicate (fn.ntmps-vs.toArray.size) undef,[]⟩ W:=by
  refine⟨rfl,by simp;omega,nq,Z0,⟨Kept.refl _ _,hz,fun _ h=>h,fun _ h=>.inl h,abd,fun b id e=>?_,fun b id e hx=>?_,fun id e=>?_,fun id e=>?_,fun b id bk e _ _=>(pU b id e).1,
   fun b id bk e g hm=>?_,fun b id e=>?_⟩,fun t=>?_⟩
  ·by_cases fo:b=0
   ·subst fo;rw [h0] at e;cases e;exact .inr (.inl rfl)
   ·exact .inr (.inr ⟨b,fo,e⟩)
  ·rw [show id=i0 from hx] at e;exact abd _ _ _ e h0
  ·rcases e with e | ⟨k,_,e⟩
   ·rw [show id=i0 from e];exact arl _ _ h0
   ·exact arl _ _ e
  ·rw [show id=i0 from e];exact h0
  ·rw [aw4 b bk g] at hm;cases hm
  ·exact(pU b id e).2
  ·have e:vs.toArray++Array.replicate (fn.ntmps-vs.toArray.size) undef=(vs++List.replicate (fn.ntmps-vs.toArray.size) undef).toArray:=by apply Array.ext';simp
   show a9 Z0 nq W ((wy args).slot t) ((vs.toArray++Array.replicate (fn.ntmps-vs.toArray.size) undef).getD t undef)
   rw [e]
   exact aeN args vs _ hargs t
 refine wp_mono (wx gH c _ _ _ _ ng h hd) fun e a w q=>?_
 have main:∀ L,ahe P fn.results.toList L r blk' bs->fa fn.ntmps W (XS.two i0 nq) Z0 L a w ->
   a.defers=[]/\∃ v,(results fn a.tmps).run P w=.ok v w/\∃ v' μ Z,Ending.returned v=.returned v'/\Core W (XS.two i0 nq) Z0 μ Z (rS blk' bs) w/\a9 Z μ w r v':=by
  rintro L ⟨L0,hwk,xs,own,b0,fo,azC,h1,hx,h2,h3,h4,h5,h6⟩ hsL
  obtain⟨dL,bD,μ,Z,hc,hr⟩:=hwk _ _ _ _ _ _ hsL
  obtain⟨k1,k2⟩:=hc.aBT (Hr:=rS blk' bs) h2 h3 h4 h5 (fun k hk=>by simp [rS,hk]) (fun id blk e g=>by rw [fo] at g;cases g;simp [rS,azC])
  obtain⟨us,q1,q2⟩:=akv (pI own) k2 hc hr _ _ h1 hx
  have nS:(fn.results.mapM (vN a.tmps)).run P w=.ok us.toArray w:=by
   rw [Array.mapM_eq_mapM_toList,Sem.run_map,q1];rfl
  refine⟨dL,(if h:us.toArray.size=1 then us.toArray[0] else .tuple us.toArray),?_,_,_,Z,rfl,k1,?_⟩
  ·rw [aiR,Sem.run_bind,nS]
   rfl
  ·subst h6;exact awf q2
 cases e with
 | normal=>obtain⟨L,q1,q2⟩:=q;exact main L q1 q2
 | ret=>obtain⟨L,q1,q2⟩:=q;exact main L q1 q2
 | exit id=>obtain⟨L,q1,q2⟩:=q;exact q1.elim
 | _=>exact q.elim
def xP (b c d:Nat):Nat->Nat:=fun k=>if k=0 then b else if k=1 then c else dK d 0
inductive ab7 (H:bK) (σ:Nat->Nat):LV->LV->Prop
 | cf {x y} (h:cG H x y):ab7 H σ x y
 | bJ {y} (h:y≠.any/\∀ l,y≠.a7 l):ab7 H σ (y.bJ σ) y
inductive adw (H:bK) (σ:Nat->Nat):List LV->List LV->Prop
 | nil:adw H σ [] []
 | cons {x y xs ys} (h:ab7 H σ x y) (t:adw H σ xs ys):adw H σ (x :: xs) (y :: ys)
theorem ab7.sound (hc:Core W X Z0 μ Z H w) {x y:LV} {v:Value} (h:ab7 H σ x y) (hr:a9 Z μ w x v):eP Z (fun k=>μ (σ k)) w y v:=by
 cases h with
 | cf h=>exact cG.zk hc h hr
 | bJ hn =>
  refine eP.unren σ (fun _ _ h=>h) ?_
  cases y with
  | any=>exact absurd rfl hn.1
  | a7 l=>exact absurd rfl (hn.2 l)
  | _=>exact hr
theorem akW (hc:Core W X Z0 μ Z H w) {ρ:Operand->LV}:∀ (xs:List Operand) (args:List LV),adw H σ (xs.map ρ) args->(∀ x∈xs,a9 Z μ w (ρ x) (a.eval x)) ->
  fe Z (fun k=>μ (σ k)) w args (xs.map a.eval)
 | [],_,h,_=>by cases h;rfl
 | x :: xs,_,h,hr=>by
   generalize hq:(x :: xs).map ρ=q at h
   cases h with
   | nil=>cases hq
   | cons h t =>
    simp only [List.map_cons,List.cons.injEq] at hq
    obtain⟨rfl,rfl⟩:=hq
    exact⟨_,_,rfl,h.sound hc (hr x aO),akW hc xs _ t (fun y hy=>hr y (by simp [hy]))⟩
theorem aqA {f:FuncId} {xs:Array Operand} {rI:Array TypeId} {args:List LV} {r:LV} {b c sz csz:Nat} {vals cvals:List LV} {blk':a8} {bs:List a8} {dst:Option Tmp} {ty:TypeId} {pos:String} {af:Array Edge} {g:Option (Nat × Bool)} (d:Nat)
  (hg:dE ops L ⟨dst,.call ⟨.value (.func f),xs,rI⟩,ty,pos,af,g⟩ true) (sT:b≠c) (xS:c≠0)
  (hb:L.heap b=some ⟨sz,cW (xP b c d) vals,true⟩) (lP:L.heap c=some ⟨csz,cW (xP b c d) cvals,true⟩)
  (ha:adw L.heap (xP b c d) (xs.toList.map L.ev) args) (hn:Names b (xs.toList.map L.ev))
  (hk:yM P f ⟨sz,vals,true⟩ ⟨csz,cvals,true⟩ args r blk' bs) (hlen:bs.length<16) (hf:∀ k,k<16->L.heap (dK d k)=none) :
  acC P ops ⟨dst,.call ⟨.value (.func f),xs,rI⟩,ty,pos,af,g⟩ L ((qh (kR b d) 1 bs ((L.kill c).bG b (some ⟨blk'.sz,cW (kR b d) blk'.vals,blk'.mt⟩))).put dst (r.bJ (kR b d))):=by
 intro n W X Z0 a w K Q ⟨dL,arj,μ,Z,hc,hr⟩ hd hK
 rw [ze hr hg]
 simp only [if_true]
 have gh:∀ t,dst=some t->t<a.tmps.size:=fun t h=>by rw [arj];exact hd t h
 obtain⟨i0,nE⟩:=Names.mu (μ:=μ) (Z:=Z) (w:=w) (a:=a) xs.toList hn (fun x _=>jX (L:=L) hr x)
 have hargs:=akW (a:=a) hc xs.toList args ha (fun x _=>jX (L:=L) hr x)
 have eu:(execOp a.eval (Oper.mk dst (.call ⟨.value (.func f),xs,rI⟩) ty pos af g)).run P w=.ok (.enter f (xs.map a.eval)) w:=by
  have:=aev (P:=P) (w:=w) (args:=xs.map a.eval) hk.1
  simp only [execOp,resolve,Act.eval,Deferred.ofValue,Sem.run_bind,Sem.run_pure,Result.andThen_ok,invoke]
  simpa using this
 unfold Oper.wp
 rw [eu,Oper.upon_enter]
 have hun:μ (dK d 0)=none:=rP hc (hf 0 J)
 have ae7:∀ k id,μ (xP b c d k)=some id->(k=0/\μ b=some id)\/(k=1/\μ c=some id):=fun k id e=>by
  unfold xP at e
  split at e
  ·exact .inl ⟨by assumption,e⟩
  ·split at e
   ·exact .inr ⟨by assumption,e⟩
   ·rw [hun] at e;cases e
 have o6:=hc.ir b i0 _ nE hb rfl
 have:=hk.2 w Z (xs.toList.map a.eval) i0 (fun k=>μ (xP b c d k)) hc.ke (by simpa [xP] using nE) (fun k id e=>by
  rcases ae7 k id e with⟨rfl,e1⟩ | ⟨rfl,e1⟩
  ·obtain⟨ae1,g1,cc,T,part,rest,q1,q2,q3⟩:=hc.heap b id e1
   rw [hb] at g1;cases g1
   exact⟨hc.ir b id _ e1 hb rfl,_,rfl,cc,T,part,rest,q1,q2,aM.unren _ (fun _ _ h=>h) _ _ _ q3⟩
  ·obtain⟨ae1,g1,cc,T,part,rest,q1,q2,q3⟩:=hc.heap c id e1
   rw [lP] at g1;cases g1
   exact⟨hc.ir c id _ e1 lP rfl,_,rfl,cc,T,part,rest,q1,q2,aM.unren _ (fun _ _ h=>h) _ _ _ q3⟩)
  (fun k k' id e e'=>by
   rcases ae7 k id e with⟨rfl,e1⟩ | ⟨rfl,e1⟩<;>rcases ae7 k' id e' with⟨rfl,e2⟩ | ⟨rfl,e2⟩
   ·rfl
   ·exact absurd (hc.inj _ _ _ e1 e2) sT
   ·exact absurd (hc.inj _ _ _ e2 e1) sT
   ·rfl) hargs
 rw [show (xs.toList.map a.eval).toArray=xs.map a.eval from by apply Array.ext';simp] at this
 refine this.mono ?_
 rintro e w' ⟨v,dD,Zr,rfl,zd,hv⟩
 have abd:∀ j j',1<=j->j<j'->j'<1+bs.length->kR b d j≠kR b d j':=fun j j' h1 h2 _ e=>by
  unfold kR at e
  rw [if_neg J,if_neg J] at e
  unfold dK at e;omega
 have an2:∀ k id,dD k=some id->k≠0->k<16/\∃ blk,bs[k-1]?=some blk:=fun k id h h0=>by
  obtain⟨bk,q1,_⟩:=zd.heap k id h
  simp only [rS,if_neg h0] at q1
  have:=(List.getElem?_eq_some_iff.1 q1).1
  exact⟨J,bk,q1⟩
 have rX:=hc.kill c xS
 have hinv:∀ e id,jf μ c e=some id->e≠c/\μ e=some id:=fun e id h=>by
  unfold jf at h;split at h
  ·cases h
  ·exact⟨by assumption,h⟩
 have qx:jf μ c b=some i0:=by unfold jf;rw [if_neg sT];exact nE
 obtain⟨h1,h2,h3,h4⟩:=rX.axL (d:=d) (σ:=kR b d) (H':=(qh (kR b d) 1 bs ((L.kill c).bG b (some ⟨blk'.sz,cW (kR b d) blk'.vals,blk'.mt⟩))).heap) zd
  (fun k id h h0=>⟨(an2 k id h h0).1,by unfold kR;rw [if_neg h0],by
   unfold jf;split
   ·rfl
   ·exact rP hc (hf k (an2 k id h h0).1)⟩)
  (fun id e=>by rw [show id=i0 from e];exact⟨qx,o6⟩)
  (fun id ⟨k,k0,e⟩=>by
   rcases ae7 k id e with⟨rfl,e1⟩ | ⟨rfl,e1⟩
   ·exact absurd rfl k0
   ·refine⟨fun e he=>(hinv e id he).1 (hc.inj _ _ _ (hinv e id he).2 e1),hc.ir c id _ e1 lP rfl,?_⟩
    rcases hc.own c id e1 with h | h | h
    ·exact oe
    ·exact absurd (hc.x0 c id e1 h) xS
    ·exact .inr h)
  (fun id h=>by have:=zd.x1 i0 rfl;rw [h] at this;cases this;rfl)
  (fun k id bk h g=>by
   by_cases h0:k=0
   ·subst h0
    simp only [rS,if_true,Option.some.injEq] at g;subst g
    rw [agf _ _ _ _ (fun j h1 h2 e=>by
     unfold kR at e
     rw [if_pos rfl,if_neg J] at e
     have:=hf j J
     rw [<-e,hb] at this;cases this)]
    simp [St.bG,kR]
   ·simp only [rS,if_neg h0] at g
    have:=aqP (σ:=kR b d) bs 1 ((L.kill c).bG b (some ⟨blk'.sz,cW (kR b d) blk'.vals,blk'.mt⟩)) (k-1) bk abd g
    rwa [show 1+(k-1)=k by omega] at this)
  (fun e id h ne=>by
   have aBf:e≠b:=by rintro rfl;rw [qx] at h;cases h;exact ne (.inl rfl)
   rw [agf _ _ _ _ (fun j h1 h2 ej=>by
    have hj:=hf j J
    unfold kR at ej
    rw [if_neg J] at ej
    subst ej
    have:=(hinv _ _ h).2
    rw [rP hc hj] at this;cases this)]
   simp [St.bG,aBf])
 refine hK _ _ ⟨by rw [put_defers];exact dL,by rw [ox];exact arj,_,Zr,by rw [jU];exact h1,?_⟩
 refine oW (L:=qh (kR b d) 1 bs ((L.kill c).bG b (some ⟨blk'.sz,cW (kR b d) blk'.vals,blk'.mt⟩))) gh (fun t=>?_) (hv.bJ _ h4)
 rw [amn]
 exact(aci c hr t).mono zd.iK h2 h3
end
end Go.Lg
namespace Go.Lg
theorem aw.ayf {L:St} {b d sz csz:Nat} {m:Bool} {vals amS:List LV} (aQ:b≠d) (hd:L.heap d=none) (hb:L.heap b=some ⟨sz,vals,m⟩)
  (hv:∀ (Z:Nat->Prop) (μ:Nat->Option Nat) (w:World) (part:List Value),aM Z μ w sz vals part->aM Z μ w sz amS part) :
  aw L ((L.bG d (some ⟨csz,[],true⟩)).bG b (some ⟨sz,amS,m⟩)):=by
 rintro n W X Z0 a w ⟨dL,bD,μ,Z,hc,hr⟩
 have jC:∀ id,μ d≠some id:=fun id e=>by rw [rP hc hd] at e;cases e
 refine⟨dL,bD,μ,Z,⟨hc.cd,hc.ke,hc.iK,hc.ki,hc.inj,hc.own,hc.x0,hc.mC,hc.x1,fun c id blk g1 g2 g3=>?_,fun c id blk g1 g2 g3=>?_,fun c id g1=>?_⟩,hr⟩
 ·simp only [St.bG] at g2
  split at g2
  ·rename_i e;subst e;cases g2;exact hc.ir c id _ g1 hb g3
  ·split at g2
   ·rename_i e;subst e;exact absurd g1 (jC id)
   ·exact hc.ir c id blk g1 g2 g3
 ·simp only [St.bG] at g2
  split at g2
  ·rename_i e;subst e;cases g2;exact hc.bR c id _ g1 hb g3
  ·split at g2
   ·rename_i e;subst e;exact absurd g1 (jC id)
   ·exact hc.bR c id blk g1 g2 g3
 ·obtain⟨bk,j1,cc,T,part,rest,j2,j3,j4⟩:=hc.heap c id g1
  simp only [St.bG]
  split
  ·rename_i e;subst e
   rw [hb] at j1;cases j1
   exact⟨_,rfl,cc,T,part,rest,j2,j3,hv _ _ _ _ j4⟩
  ·split
   ·rename_i e;subst e;exact absurd g1 (jC id)
   ·exact⟨bk,j1,cc,T,part,rest,j2,j3,j4⟩
theorem ayt {p q:LV} {d c sz:Nat} (Z:Nat->Prop) (μ:Nat->Option Nat) (w:World) (part:List Value) (h:aM Z μ w sz [.agg [p,.v (.slice none 0 0),q]] part):aM Z μ w sz [.agg [p,.ref d c 0 0,q]] part:=by
 simp only [aM,ay,b7] at h ⊢
 obtain⟨c1,c2,h1,h2,⟨d1,d2,e1,e2,e3,f1,f2,g1,g2,g3,g4⟩,h3⟩:=h
 exact⟨c1,c2,h1,h2,⟨d1,d2,e1,e2,e3,f1,f2,g1,by simpa [LV.au] using g2,.inl ⟨g3.1,trivial⟩,g4⟩,h3⟩
theorem aw.amz {L:St} {t b sz off len cp:Nat} (h:L.slot t=.iX b sz off len cp):aw L (L.put (some t) (.ref b sz off len)):=by
 rintro n W X Z0 a w ⟨dL,bD,μ,Z,hc,hr⟩
 refine⟨dL,bD,μ,Z,by rw [jU];exact hc,fun s=>?_⟩
 rw [fQ]
 split
 ·rename_i cQ
  subst cQ
  have e:=hr s
  rw [h] at e
  have e3:=e.2 rfl
  simp only [ay] at e3
  obtain⟨id,c,T,fz,q1,q2,q3,q4,q5⟩:=e3
  exact⟨by simp [LV.isAgg],fun _=>by simp only [ay];exact .inr ⟨id,cp,c,T,fz,q1,q2,q3,q4,q5⟩⟩
 ·exact hr s
theorem atO {P:Program} {f:FuncId} {blk c1 blk':a8} {sz n:Nat} {args:List LV} {r:LV} {bs:List a8} (hn:0<n) (h:∀ cp,n<=cp->yM P f blk c1 (.iX 1 sz 0 n cp :: args) r blk' bs):yM P f blk c1 (.ref 1 sz 0 n :: args) r blk' bs:=by
 refine⟨(h n (Nat.le_refl _)).1,fun W Z0 vs i0 nq hz h0 pU abd hargs=>?_⟩
 obtain⟨v,iO,rfl,hv,amP⟩:=hargs
 have h3:=hv.2 rfl
 simp only [ay] at h3
 rcases h3 with⟨_,e⟩ | ⟨id,cap,c,T,fz,q1,q2,q3,q4,q5⟩
 ·omega
 exact(h cap q3).2 W Z0 (v :: iO) i0 nq hz h0 pU abd ⟨v,iO,rfl,⟨by simp [LV.isAgg],fun _=>by simp only [ay];exact⟨id,c,T,fz,q1,q2,q3,q4,q5⟩⟩,amP⟩
theorem anY {P:Program} {L:St} {t b sz len:Nat} {b0:a8} {l:List (Nat × a8)} {v:List LV} (hs:L.slot t=.ref b sz 0 len) (hl:L.heap=hp l) (h0:hp l 0=some b0) (mj:aG b0.vals=true) (fo:b≠0)
  (zx:∀ c∈l.map (·.1),c≠0->c=b) (h1:hp l b=some ⟨sz,v,true⟩) (hv:aG v=true):aiz P [.tmp t] L (.ref 1 sz 0 len) b0 [⟨sz,v,true⟩]:=by
 have hdm:∀ (l:List (Nat × a8)) (c:Nat),hp l c≠none->c∈l.map (·.1):=fun l=>by
  induction l with
  | nil=>exact fun c h=>absurd rfl h
  | cons p t ih =>
   obtain⟨d,y⟩:=p
   intro c h
   by_cases e:c=d
   ·simp [e]
   ·have:Nat.beq c d=false:=by rw [<-Bool.not_eq_true,Nat.beq_eq];exact e
    simp only [hp,this,cond_false] at h
    simp only [List.map_cons,List.mem_cons]
    exact .inr (ih c h)
 have je:pI [b] b=1:=by simp [pI,fo]
 refine⟨[.ref b sz 0 len],[b],b0,by rw [hl];exact h0,by rw [mg _ _ mj],.cons hs .nil,fun x hx=>by rw [List.mem_singleton.1 hx];exact⟨by simp,by simp⟩,by simp,by simpa using fun e:0=b=>fo e.symm,fun c hc hh=>?_,fun k c hk=>?_,?_⟩
 ·rw [hl] at hh
  exact List.mem_singleton.2 (zx c (hdm l c hh) hc)
 ·cases k with
  | zero =>
   simp only [List.getElem?_cons_zero,Option.some.injEq] at hk
   subst hk
   exact⟨⟨sz,v,true⟩,by rw [hl];exact h1,by simp only [List.getElem?_cons_zero,mg _ _ hv]⟩
  | succ k=>simp at hk
 ·simp only [cW,LV.bJ,je];rfl
end Go.Lg
end
section
set_option linter.unusedVariables false
set_option linter.unusedSimpArgs false
set_option maxHeartbeats 4000000
namespace Go.Lg
section
variable {P:Program} {W w:World} {X:XS} {Z0 Z:Nat->Prop} {μ:Nat->Option Nat} {a:Act} {n:Nat} {ops:Array Oper}
def anl (P:Program) (l:List Oper) (m:Nat) (K:St->Prop) (L:St):Prop:=∃ o L2,l[m]?=some o/\acC P l.toArray o L L2/\K L2
theorem ayh {l:List Oper} {id:Nat} {L:St} {Q:iS->St->Prop} (gH:P.follows .mixedOrders=true) (m:Nat) (hm:vd l.toArray m []=true) (hl:l.length=m+1) (h:opsL P true l.toArray (l.take m) L (anl P l m (Q .normal))):cx P (.region id l.toArray true) Q L:=by
 refine aen fun n W X Z0 a w hs hd id=>?_
 have gh:∀ o∈l.toArray.toList,∀ t,o.dst=some t->t<n:=fun o ho t ht=>by
  simp only [jF,List.all_eq_true] at hd
  have:=hd o ho
  rw [ht] at this
  simpa using this
 obtain⟨f,f0,fs,o9,L9,k1,k2,k3⟩:=xw _ _ h
 have bE:(l.take m).length=m:=by rw [List.length_take];omega
 rw [bE] at k2
 unfold vd at hm
 simp only [Bool.and_eq_true,decide_eq_true_eq,List.all_eq_true,List.mem_range] at hm
 obtain⟨⟨⟨ti,h1⟩,h2⟩,h3⟩:=hm
 have fP:∀ i o,l.toArray[i]?=some o->l.toArray.getD i default=o:=fun i o h=>by rw [Array.getD_eq_getD_getElem?,h];rfl
 have l5:∀ i o,l.toArray[i]?=some o->i<l.toArray.size:=fun i o h=>(Array.getElem?_eq_some_iff.1 h).1
 have bD:l.toArray.size=m+1:=by simpa using hl
 have nc:=aba l.toArray l.toArray.toList [] (fun i=>by simp) (fun i t h=>by simp at h)
 let g:Nat->St:=fun i=>if i<=m then f i else L9
 have gl:∀ i,i<=m->g i=f i:=fun i hi=>if_pos hi
 have gm:g (m+1)=L9:=if_neg J
 refine ajW (m:=m) (fr:=[]) (f:=g) (K:=Q .normal) (L:=L) gH hs (by rw [gl 0 (Nat.zero_le _)];exact f0) (fun i o ho hor=>?_) (fun i o ho gC=>?_) (by rw [bD,gm];exact k3) ti (fun i o h j hj=>?_) (fun i o h uF j hj=>?_) (fun i o h gC=>?_) (fun i j oi oj d hi hj gC kE aQ mP=>?_) (fun j o hj hjf=>by simp at hjf) gh (fun L' a' w' hk kz=>⟨L',hk,kz⟩)
 ·have hi:i<m:=hor.resolve_right (fun e=>e rfl)
  rw [gl i J,gl (i+1) J]
  exact fs i o (by rw [List.getElem?_take,if_pos hi];simpa using ho)
 ·have:i=m:=by have:=l5 i o ho;omega
  subst this
  have ko:l[i]?=some o:=by simpa using ho
  rw [k1] at ko;cases ko
  rw [gl i (Nat.le_refl _),gm]
  exact fun a w K Q hs hd hK=>k2 n W X Z0 a w K Q hs hd hK
 ·have:=(h1 i (l5 i o h)).1 j (by rw [fP i o h];exact hj)
  simpa using this
 ·have:=(h1 i (l5 i o h)).2
  rw [if_pos uF] at this
  have:=(List.all_eq_true.1 this) j (by simpa using hj)
  simp only [Bool.or_eq_true,Bool.and_eq_true,beq_iff_eq,List.contains_iff_mem] at this
  rcases this with g9 | g9
  ·exact .inl (nc i j (by simpa using g9))
  ·exact absurd g9.2 aO
 ·have:=(h1 i (l5 i o h)).2
  rw [if_neg J] at this
  rw [fP i o h] at this
  simpa using this
 ·have:=h2 i gC j kE
  simp only [Bool.or_eq_true,beq_iff_eq] at this
  rcases this with h | h
  ·exact absurd h aQ
  ·unfold yN at h
   rw [fP j oj hj,fP i oi hi,mP] at h
   simp only [Bool.and_eq_true,bne_iff_ne,ne_eq,Bool.or_eq_true,Bool.not_eq_true'] at h
   refine⟨h.1,fun pP=>?_⟩
   rcases h.2 with h' | h'
   ·rw [List.contains_iff_mem.2 pP] at h';cases h'
   ·split
    ·rename_i bE;rw [if_pos bE] at h';exact nc i j h'
    ·rename_i bE;rw [if_neg bE] at h';exact nc j i h'
theorem at0 {l:List Oper} {m:Nat} {K:St->Prop} {ops:Array Oper} {o:Oper} {L L2:St} (h1:l[m]?=some o) (h2:acC P l.toArray o L L2) (h3:K L2):opsL P true ops [] L (anl P l m K):=by
 unfold opsL
 exact⟨o,L2,h1,h2,h3⟩
def aoe (P:Program) (l:List Oper) (m:Nat) (K:St->Prop) (L:St):Prop:=∃ o L2,l[m]?=some o/\acC P l.toArray o L L2/\opsL P true l.toArray (l.drop (m+1)) L2 K
theorem aAr {l:List Oper} {id:Nat} {L:St} {Q:iS->St->Prop} (gH:P.follows .mixedOrders=true) (m:Nat) (hm:vd l.toArray m []=true) (hl:m<l.length) (h:opsL P true l.toArray (l.take m) L (aoe P l m (Q .normal))):cx P (.region id l.toArray true) Q L:=by
 refine aen fun n W X Z0 a w hs hd id=>?_
 have gh:∀ o∈l.toArray.toList,∀ t,o.dst=some t->t<n:=fun o ho t ht=>by
  simp only [jF,List.all_eq_true] at hd
  have:=hd o ho
  rw [ht] at this
  simpa using this
 obtain⟨f,f0,fs,o9,L9,k1,k2,k3⟩:=xw _ _ h
 obtain⟨f2,e0,es,ek⟩:=xw _ _ k3
 have bE:(l.take m).length=m:=by rw [List.length_take];omega
 rw [bE] at k2
 unfold vd at hm
 simp only [Bool.and_eq_true,decide_eq_true_eq,List.all_eq_true,List.mem_range] at hm
 obtain⟨⟨⟨ti,h1⟩,h2⟩,h3⟩:=hm
 have fP:∀ i o,l.toArray[i]?=some o->l.toArray.getD i default=o:=fun i o h=>by rw [Array.getD_eq_getD_getElem?,h];rfl
 have l5:∀ i o,l.toArray[i]?=some o->i<l.toArray.size:=fun i o h=>(Array.getElem?_eq_some_iff.1 h).1
 have bD:l.toArray.size=l.length:=by simp
 have nc:=aba l.toArray l.toArray.toList [] (fun i=>by simp) (fun i t h=>by simp at h)
 let g:Nat->St:=fun i=>if i<=m then f i else f2 (i-(m+1))
 have gl:∀ i,i<=m->g i=f i:=fun i hi=>if_pos hi
 have gm:∀ i,m<i->g i=f2 (i-(m+1)):=fun i hi=>if_neg J
 refine ajW (m:=m) (fr:=[]) (f:=g) (K:=Q .normal) (L:=L) gH hs (by rw [gl 0 (Nat.zero_le _)];exact f0) (fun i o ho hor=>?_) (fun i o ho gC=>?_) (by rw [bD,gm _ hl,<-List.length_drop];exact ek) ti (fun i o h j hj=>?_) (fun i o h uF j hj=>?_) (fun i o h gC=>?_) (fun i j oi oj d hi hj gC kE aQ mP=>?_) (fun j o hj hjf=>by simp at hjf) gh (fun L' a' w' hk kz=>⟨L',hk,kz⟩)
 ·have hi:i<m:=hor.resolve_right (fun e=>e rfl)
  rw [gl i J,gl (i+1) J]
  exact fs i o (by rw [List.getElem?_take,if_pos hi];simpa using ho)
 ·by_cases hem:i=m
  ·subst hem
   have ko:l[i]?=some o:=by simpa using ho
   rw [k1] at ko;cases ko
   rw [gl i (Nat.le_refl _),gm _ (Nat.lt_succ_self _),Nat.sub_self,e0]
   exact fun a w K Q hs hd hK=>k2 n W X Z0 a w K Q hs hd hK
  ·have cQ:=es (i-(m+1)) o (by rw [List.getElem?_drop,show m+1+(i-(m+1))=i by omega];simpa using ho)
   rw [gm i J,gm (i+1) J,show i+1-(m+1)=i-(m+1)+1 by omega]
   exact fun a w K Q hs hd hK=>zO hs cQ hd hK
 ·have:=(h1 i (l5 i o h)).1 j (by rw [fP i o h];exact hj)
  simpa using this
 ·have:=(h1 i (l5 i o h)).2
  rw [if_pos uF] at this
  have:=(List.all_eq_true.1 this) j (by simpa using hj)
  simp only [Bool.or_eq_true,Bool.and_eq_true,beq_iff_eq,List.contains_iff_mem] at this
  rcases this with g9 | g9
  ·exact .inl (nc i j (by simpa using g9))
  ·exact absurd g9.2 aO
 ·have:=(h1 i (l5 i o h)).2
  rw [if_neg J] at this
  rw [fP i o h] at this
  simpa using this
 ·have:=h2 i gC j kE
  simp only [Bool.or_eq_true,beq_iff_eq] at this
  rcases this with h | h
  ·exact absurd h aQ
  ·unfold yN at h
   rw [fP j oj hj,fP i oi hi,mP] at h
   simp only [Bool.and_eq_true,bne_iff_ne,ne_eq,Bool.or_eq_true,Bool.not_eq_true'] at h
   refine⟨h.1,fun pP=>?_⟩
   rcases h.2 with h' | h'
   ·rw [List.contains_iff_mem.2 pP] at h';cases h'
   ·split
    ·rename_i bE;rw [if_pos bE] at h';exact nc i j h'
    ·rename_i bE;rw [if_neg bE] at h';exact nc j i h'
theorem azH {l:List Oper} {m:Nat} {K:St->Prop} {ops:Array Oper} {o:Oper} {L L2:St} (h1:l[m]?=some o) (h2:acC P l.toArray o L L2) (h3:opsL P true l.toArray (l.drop (m+1)) L2 K):opsL P true ops [] L (aoe P l m K):=by
 unfold opsL
 exact⟨o,L2,h1,h2,h3⟩
end
end Go.Lg
end
section
set_option linter.unusedVariables false
set_option linter.unusedSimpArgs false
namespace Go.Proofs.YtckppbhafancnaaGreat
open Go.Lg
section
variable {f:FuncId} {fn:Func} {c:Code} {args:List LV} {r:LV}
theorem fnC {blk c1 blk':a8} {bs:List a8} (hf:Tryz.prog.funcs[f]?=some fn)
  (h:cx Tryz.prog c (fun e L=>match e with | .exit _=>False | _=>ahe Tryz.prog fn.results.toList L r blk' bs) (St.mk (fun t=>args.getD t .any) (hp [(0,blk),(1,c1)])))
  (hb:fn.body=some c:=by exact rfl) (hn:(fn.name== "runtime.NumGoroutine")=false:=by decide +kernel) (hd:jF fn.ntmps c=true:=by decide +kernel) (hlen:args.length<=fn.ntmps:=by exact Nat.le_of_ble_eq_true rfl) (eA:blk.mt=true:=by exact rfl) (aip:c1.mt=true:=by exact rfl):yM Tryz.prog f blk c1 args r blk' bs:=aAH fol hf hb hn hd hlen eA aip h
end
end Go.Proofs.YtckppbhafancnaaGreat
end
section
set_option linter.unusedVariables false
set_option linter.unusedSimpArgs false
set_option maxHeartbeats 8000000
set_option maxRecDepth 100000
attribute [local irreducible] Go.Lg.opsL Go.Lg.cx Go.Lg.nn Go.Lg.oB
namespace Go.Proofs.YtckppbhafancnaaGreat
open Go.Lg
namespace aoM
theorem aH {p q:Prop} (k:q) (e:p=q:=by simp only [e1,e2,e3,e4,p1,p2,p3,q1,q2,q3,l1,t0,t1,r1,r2,r3,r4,Nat.zero_add,Nat.reduceMul,Nat.reduceAdd,b1,b2,b3,b4,b5,b6,i1,i2,i3,i4,i5,i6,Nat.reduceBEq,Nat.sub_zero,Nat.add_zero,hln,hls,hcA,hcB,hcC,hcD,Nat.reduceEqDiff,reduceIte,if_true,if_false,aP ao,cH,LV.kill,bN];exact rfl):p:=e.mpr k
end aoM
open aoM in
theorem azc (k:List Rat) (i:Nat) (t:Rat) (cp:Nat) (hi:i<k.length) (fG:k.length<=cp) (hl:k.length<=1000):yM Tryz.prog 240 ⟨3,[ae t],true⟩ ⟨3,(k.map ae),true⟩ [.iX 1 3 0 k.length cp,ah i,.ref 0 3 0 1] (.ref 1 3 0 (k.length+1)) ⟨3,[ae t],true⟩ [⟨3,((k.take i++t :: k.drop i).map ae),true⟩]:=by
 have w6:(k.map ae).length=k.length:=List.length_map _
 have hln:i+(k.length+1-i)=k.length+1:=by omega
 have hls:k.length+1-(i+1)=k.length-i:=by omega
 have ug:(List.replicate (k.length+1-i) (ae 0))=ae 0 :: List.replicate (k.length-i) (ae 0):=by rw [show k.length+1-i=(k.length-i)+1 by omega,List.replicate_succ]
 have hti:((k.map ae).take i).length=i:=by rw [List.length_take,w6];omega
 have hcA:((k.map ae).take i++(List.replicate (k.length+1-i) (ae 0))).take i++[ae t]++((k.map ae).take i++(List.replicate (k.length+1-i) (ae 0))).drop (i+[ae t].length)=((k.map ae).take i++ae t :: List.replicate (k.length-i) (ae 0)):=by
  rw [ug,List.take_left' hti,<-List.drop_drop,List.drop_left' hti]
  simp
 have kX:((k.map ae).drop i).length=k.length-i:=by rw [List.length_drop,w6]
 have hcB:((k.map ae).take i++ae t :: List.replicate (k.length-i) (ae 0)).take (i+1)++((k.map ae).drop i)++((k.map ae).take i++ae t :: List.replicate (k.length-i) (ae 0)).drop (i+1+((k.map ae).drop i).length)=((k.take i++t :: k.drop i).map ae):=by
  have e1x:((k.map ae).take i++ae t :: List.replicate (k.length-i) (ae 0))=((k.map ae).take i++[ae t])++List.replicate (k.length-i) (ae 0):=by simp
  have h1:((k.map ae).take i++[ae t]).length=i+1:=by simp [hti]
  rw [e1x,List.take_left' h1,<-List.drop_drop,List.drop_left' h1,kX,List.drop_of_length_le (l:=List.replicate (k.length-i) (ae 0)) aO]
  simp
 have hdE:(k.map ae).drop (i+1+((k.map ae).drop i).length)=[]:=List.drop_of_length_le (by rw [kX,w6];omega)
 have hcC:(k.map ae).take (i+1)++((k.map ae).drop i)++(k.map ae).drop (i+1+((k.map ae).drop i).length)=(k.map ae).take (i+1)++((k.map ae).drop i):=by rw [hdE,List.append_nil]
 have hcD:((k.map ae).take (i+1)++((k.map ae).drop i)).take i++[ae t]++((k.map ae).take (i+1)++((k.map ae).drop i)).drop (i+[ae t].length)=((k.take i++t :: k.drop i).map ae):=by
  have h1:((k.map ae).take (i+1)).length=i+1:=by rw [List.length_take,w6];omega
  rw [List.take_append_of_le_length J,List.take_take,Nat.min_eq_left J]
  rw [show i+[ae t].length=i+1 from rfl,List.drop_left' h1]
  simp
 have oA:aG ((k.take i++t :: k.drop i).map ae)=true:=aW ao _
 refine fnC Tryz.func240 ?_
 refine bq ?_
 refine ak rfl (.aa7 (a:=i) (h:=k.length) rfl Tryz.underlying25 cJ (fun y hy=>by cases hy;exact⟨_,rfl⟩) (fun h=>by cases h) (fun y hy=>by cases hy) (fun _=>rfl) J J J) ?_
 refine mH ?_
 refine eE (b:=_) rfl (rfl) ?_
 refine im ?_
 refine eE (b:=_) rfl (beq_eq_false_iff_ne.2 J) ?_
 refine aR ?_
 refine ak rfl (.bin rfl rfl (tp (a:=k.length) (b:=1) J)) ?_
 refine ar ?_
 refine ak rfl (.adv rfl rfl UN.h) ?_
 refine aJ ?_
 refine aC rfl ?_ ?_<;>intro ahx h31
 ·refine ax ?_
  refine ak rfl (.aa7 (a:=0) (h:=i) rfl Tryz.underlying25 cJ (fun y hy=>by cases hy) (fun _=>rfl) (fun y hy=>by cases hy;exact⟨_,rfl⟩) (fun h=>by cases h) J J J) ?_
  refine aL ?_
  refine ak rfl (.bin rfl rfl (tp (a:=k.length) (b:=1) J)) ?_
  refine ar ?_
  refine ak rfl (.bin rfl rfl (wo (a:=k.length+1) (b:=i) (c:=k.length+1-i) J J)) ?_
  refine alH rfl rfl (.aco (d:=40) (n:=k.length+1-i) (len:=i) (cp:=cp) (b:=1) (sz:=3) (z:=ae 0) (blk:=⟨3,(k.map ae),true⟩) Tryz.underlying25 Tryz.underlying3 (oa ▸ jY) (by rw [ao.isAgg];exact cJ) (ao.au 0) kA rfl rfl rfl (by rw [w6];omega) rfl rfl J ai J J) ?_
  refine aR ?_
  try refine aH ?_
  refine ak rfl ahE ?_
  refine ar ?_
  try refine aH ?_
  refine bI rfl (.abO (b:=40) (sz:=3) (off:=i) (n1:=k.length+1-i) (c:=0) (off2:=0) (n2:=1) (news:=[ae t]) rfl rfl rfl rfl (by rw [List.length_append,hti];omega) Tryz.underlying25 Tryz.underlying25 cJ rfl rfl rfl (by show 1=min _ _;rw [Nat.min_eq_left J]) (Nat.zero_lt_one) (Nat.le_refl 1) rfl) ?_
  refine aJ ?_
  refine aBC 8 an (aw.amz (t:=0) rfl) ?_
  try refine aH ?_
  refine aJ ?_
  refine ak rfl (.bin rfl rfl (tp (a:=i) (b:=1) J)) ?_
  refine ak rfl aid ?_
  refine aL ?_
  refine ak rfl (.th (a:=i) (h:=k.length) rfl Tryz.underlying25 cJ (fun y hy=>by cases hy;exact⟨_,rfl⟩) (fun h=>by cases h) (fun y hy=>by cases hy) (fun _=>rfl) om om om) ?_
  try refine aH ?_
  refine bI rfl (.abO (b:=40) (sz:=3) (off:=i+1) (n1:=k.length-i) (c:=1) (off2:=i) (n2:=k.length-i) (news:=((k.map ae).drop i)) rfl rfl rfl rfl (by rw [List.length_append,hti,List.length_cons,List.length_replicate];omega) Tryz.underlying25 Tryz.underlying25 cJ rfl rfl rfl (by show _=min _ _;rw [kX,Nat.min_self]) (by rw [kX];omega) (by rw [kX,w6];omega) (List.take_length).symm) ?_
  refine bB ?_
  refine⟨_,aw.kill _ 1,?_⟩
  try refine aH ?_
  exact anY rfl rfl rfl (by simp [aG,ao.pure]) ai aO rfl oA
 ·refine aR ?_
  refine ak rfl (.bin rfl rfl (tp (a:=k.length) (b:=1) J)) ?_
  refine ak rfl (.aa7 (a:=0) (h:=k.length+1) rfl Tryz.underlying25 cJ (fun y hy=>by cases hy) (fun _=>rfl) (fun y hy=>by cases hy;exact⟨_,rfl⟩) (fun h=>by cases h) J J J) ?_
  refine aZ ?_
  refine cq (aw.amz (t:=0) rfl) ?_
  try refine aH ?_
  refine ax ?_
  refine ak rfl (.bin rfl rfl (tp (a:=i) (b:=1) J)) ?_
  refine ak rfl aid ?_
  try refine aH ?_
  refine alH rfl rfl (.ovl (ag:=true) Tryz.func278 rfl rfl rfl rfl Tryz.underlying25 cJ rfl rfl ai ai J ai) ?_
  refine aJ ?_
  refine bY (b:=_) rfl (rfl) ?_
  refine ar ?_
  refine aY 8 an ?_
  refine aJ ?_
  refine ak rfl (.bin rfl rfl (tp (a:=i) (b:=1) J)) ?_
  refine ak rfl aid ?_
  refine aL ?_
  refine ak rfl ahE ?_
  try refine aH ?_
  refine bI rfl (.abO (b:=1) (sz:=3) (off:=i+1) (n1:=k.length-i) (c:=1) (off2:=i) (n2:=k.length+1-i) (news:=((k.map ae).drop i)) rfl rfl rfl rfl (by rw [w6];omega) Tryz.underlying25 Tryz.underlying25 cJ rfl rfl rfl (by show _=min _ _;rw [kX,Nat.min_eq_right J]) (by rw [kX];omega) (by rw [kX,w6];omega) (List.take_length).symm) ?_
  refine az ?_
  refine ak rfl ahE ?_
  refine ar ?_
  try refine aH ?_
  refine bI rfl (.abO (b:=1) (sz:=3) (off:=i) (n1:=k.length+1-i) (c:=0) (off2:=0) (n2:=1) (news:=[ae t]) rfl rfl rfl rfl (by rw [List.length_append,List.length_take,w6,kX];omega) Tryz.underlying25 Tryz.underlying25 cJ rfl rfl rfl (by show 1=min _ _;rw [Nat.min_eq_left J]) (Nat.zero_lt_one) (Nat.le_refl 1) rfl) ?_
  refine bB ?_
  refine⟨_,aw.refl _,?_⟩
  try refine aH ?_
  exact anY rfl rfl rfl (by simp [aG,ao.pure]) ai aO rfl oA
theorem avJ (k:List Rat) (i:Nat) (t:Rat) (hi:i<k.length) (hl:k.length<=1000) :
  yM Tryz.prog 240 ⟨3,[ae t],true⟩ ⟨3,(k.map ae),true⟩ [.ref 1 3 0 k.length,ah i,.ref 0 3 0 1] (.ref 1 3 0 (k.length+1)) ⟨3,[ae t],true⟩ [⟨3,((k.take i++t :: k.drop i).map ae),true⟩] :=
 atO J fun cp h=>azc k i t cp hi h hl
theorem fy0 (bs:List Nat):uI bs []=[]:=rfl
theorem fyc (bs:List Nat) (c:Nat) (y:a8) (l:List (Nat × a8)):uI bs ((c,y) :: l)=(c,⟨y.sz,y.vals,y.mt && !bs.contains c⟩) :: uI bs l:=rfl
theorem atn {l:List (Nat × a8)} {c:Nat} (h:∀ x∈l.map (·.1),x≠c):hp l c=none:=by
 induction l with
 | nil=>rfl
 | cons q t ih =>
  obtain⟨d,y⟩:=q
  have e:Nat.beq c d=false:=by
   rw [<-Bool.not_eq_true,Nat.beq_eq]
   exact fun e=>h d aO e.symm
  simp only [hp,e,cond_false]
  exact ih fun x hx=>h x (by simp only [List.map_cons,List.mem_cons];exact .inr hx)
theorem azj {P:Program} {L:St} {a:Nat} {T:TypeId} {b sz t:Nat} {x y x' y':LV} {m:Bool} {n:Nat} {ag:Bool} {blk:a8} (h:L.slot a=.aA b sz 0 0) (hb:L.heap b=some ⟨sz,[x],m⟩)
  (hx:x.au=sz) (bW:x.at 0 n ag=some x) (hT:bp P T n ag) (hi:tQ L.heap 0 x y) (h':L.slot t=x') (lT:tQ L.heap 0 x' y') (fo:L.heap 0=some blk) (hm:blk.mt=true) (hp:aG blk.vals=true):u9 P [.cell a T,.tmp t] L (.a7 [y,y']) blk :=
 ⟨[x,x'],[y,y'],L.heap,.cons ⟨b,sz,0,0,_,x,n,ag,h,hb,rfl,rfl,hx,bW,hT⟩ (.cons h' .nil),bK.le_refl _,.cons hi (.cons lT .nil),fo,hm,hp,rfl⟩
def bsj (f:Rat) (v:List Rat) (j:Nat):List Rat:=(List.range v.length).map fun i=>if j<i then v.getD (i-1) 0+f*(v.getD i 0-v.getD (i-1) 0) else v.getD i 0
theorem afu (f:Rat) (v:List Rat) (j:Nat):(bsj f v j).length=v.length:=by simp [bsj]
theorem ags (f:Rat) (v:List Rat) (j i:Nat) (h:i<v.length):(bsj f v j).getD i 0=if j<i then v.getD (i-1) 0+f*(v.getD i 0-v.getD (i-1) 0) else v.getD i 0:=by
 unfold bsj
 rw [List.getD_eq_getElem?_getD,List.getElem?_map,List.getElem?_range h]
 rfl
theorem adk {p q:List Rat} (h:p.length=q.length) (hg:∀ i,i<p.length->p.getD i 0=q.getD i 0):p=q:=by
 refine List.ext_getElem h fun i h1 h2=>?_
 have:=hg i h1
 rwa [List.getD_eq_getElem?_getD,List.getD_eq_getElem?_getD,List.getElem?_eq_getElem h1,List.getElem?_eq_getElem h2] at this
def tK (F:Rat->Rat) (args v:List Rat):Nat->List Rat
 | 0=>v
 | r+1=>bsj (F (args.getD r 0)) (tK F args v r) r
theorem ac9 (F:Rat->Rat) (args v:List Rat):∀ r,(tK F args v r).length=v.length
 | 0=>rfl
 | r+1=>by rw [tK,afu,ac9 F args v r]
def vQ (Q R:Nat):Nat->Nat
 | 0=>R
 | r+1=>3*vQ Q R r+Q+2
theorem ape {Q R:Nat} (hR:1<=R):∀ r,1<=vQ Q R r
 | 0=>hR
 | r+1=>by have:=ape (Q:=Q) hR r;unfold vQ;omega
theorem ap5 {Q R:Nat} (hR:1<=R):∀ {r s},r<=s->vQ Q R r<=vQ Q R s
 | r,0,h=>by
         obtain rfl:r=0:=by omega
         exact Nat.le_refl _
 | r,s+1,h=>by
  rcases Nat.lt_or_ge s r with g | g
  ·obtain rfl:r=s+1:=by omega
   exact Nat.le_refl _
  ·have:=ap5 (Q:=Q) hR (r:=r) (s:=s) g
   show _<=3*vQ Q R s+Q+2
   omega
def wV (d:Nat) (a b:Rat) (v args:List Rat):Rat:=(tK (fun t=>(t-a)/(b-a)) args v d).getD d 0
theorem az5 (v:List Rat) (j i:Nat) (h:i<v.length) (hj:j<i):(bsj 0 v j).getD i 0=v.getD (i-1) 0:=by
 rw [ags _ _ _ _ h,if_pos hj];grind
theorem axy (v:List Rat) (j:Nat):bsj 1 v j=v:=adk (afu _ _ _) fun i hi=>by
 rw [afu] at hi
 rw [ags _ _ _ _ hi];split<;>grind
theorem ap1 {a b:Rat} {args v:List Rat} (n:Nat) (hA:∀ r,r<n->args.getD r 0=a):∀ r,r<=n->∀ i,i<v.length->r<=i->(tK (fun t=>(t-a)/(b-a)) args v r).getD i 0=v.getD (i-r) 0
 | 0,_,i,_,_=>rfl
 | r+1,h,i,hi,hr=>by
  have ih:=ap1 (b:=b) (v:=v) n hA r J (i-1) J J
  rw [tK,hA r J,show (a-a)/(b-a)=0 by rw [Rat.sub_self,Rat.div_def,Rat.zero_mul],az5 _ _ _ (by rw [ac9];exact hi) J,ih]
  congr 1;omega
theorem alC {a b:Rat} (cu:a≠b) {args v:List Rat} (n:Nat) (hB:∀ r,n<=r->r<args.length->args.getD r 0=b):∀ k,n+k<=args.length->tK (fun t=>(t-a)/(b-a)) args v (n+k)=tK (fun t=>(t-a)/(b-a)) args v n
 | 0,_=>rfl
 | k+1,h=>by
  have ih:=alC cu (v:=v) n hB k J
  rw [<-Nat.add_assoc,tK,hB (n+k) J J,show (b-a)/(b-a)=1 by rw [Rat.div_def];exact Rat.mul_inv_cancel _ cA,axy,ih]
theorem arU {d j:Nat} {a b:Rat} (hj:j<=d):((bl d a b).drop (j+1)).take d=List.replicate (d-j) a++List.replicate j b:=by
 have hl:(((bl d a b).drop (j+1)).take d).length=d:=by rw [List.length_take,List.length_drop,jT];omega
 refine adk (by rw [hl,List.length_append,List.length_replicate,List.length_replicate];omega) fun i hi=>?_
 rw [hl] at hi
 rw [List.getD_eq_getElem?_getD,List.getElem?_take_of_lt hi,List.getElem?_drop,<-List.getD_eq_getElem?_getD,fV _ _ _ _ J]
 by_cases g:i<d-j
 ·rw [if_pos J,vp (by simpa using g),rZ g]
 ·rw [if_neg J,vk bm,List.length_replicate,rZ J]
theorem asM {d j:Nat} {a b:Rat} (cu:a<b) {v:List Rat} (hv:v.length=d+1) (hj:j<=d):wV d a b v (((bl d a b).drop (j+1)).take d)=v.getD j 0:=by
 rw [arU hj,wV]
 have uT:(List.replicate (d-j) a++List.replicate j b).length=d:=by simp;omega
 have h1:=alC (a:=a) (b:=b) cA (args:=List.replicate (d-j) a++List.replicate j b) (v:=v) (d-j) (fun r g1 g2=>by rw [uT] at g2;rw [vk (by simpa using g1),List.length_replicate,rZ J]) j (by rw [uT];omega)
 rw [show d-j+j=d by omega] at h1
 rw [h1,ap1 (d-j) (fun r g=>by rw [vp (by simpa using g),rZ g]) (d-j) (Nat.le_refl _) d J J]
 congr 1;omega
open ahP in
theorem aCO (p:List Rat) (hl:p.length<=1048576) (ma:∀ x∈p,rl x<=274877906944):nk Tryz.prog 157 [.list 3 (p.map ae)] (.ref 1 3 0 p.length) [⟨3,p.map ae,true⟩]:=by
 refine fnO Tryz.func157 ?_
 have gr:True:=trivial
 have fB:True:=trivial
 refine bq ?_
 refine eI rfl rfl (.kK (n:=0) (m:=p.length) ml ml om om om) ?_
 refine bu ?_
 refine dG (fun(k:Nat) L=>(((((St.mk L.slot (hp [(8,⟨3,(p.take k).map ae,true⟩)])).put (some 3) (.ref 8 3 0 k)).put (some 9) (.list 3 (p.map ae))).put (some 10) (ah p.length)).put (some 11) (ah k))) (fun k=>k<=p.length) (fun k=>p.length-k) 0 (Nat.zero_le _) ?_
 rintro k L1 hk
 refine az ?_
 refine aC rfl ?_ ?_<;>intro aaL h12
 ·have kT:k<p.length:=by omega
  have hrk:=ma _ (dg kT)
  have hA:=iw (p.getD k 0) 0 (by rw [show rl 0=1 from rfl];omega)
  rw [Rat.add_zero] at hA
  have gr:=zC (l:=p) kT
  have fB:((p.take k).map ae).take k=(p.take k).map ae:=List.take_of_length_le wI
  refine gy ?_
  refine ak rfl nQ ?_
  refine cp aq (hA) ?_
  refine ar ?_
  refine bI rfl ap7 ?_
  refine ax ?_
  refine cq ((aw.kill _ 5).trans (aw.kill _ 19)) ?_
  refine ak rfl cB ?_
  refine aJ ?_
  exact iJ (k+1) J
 ·obtain rfl:k=p.length:=by omega
  have hE:p.take p.length=p:=List.take_length
  refine bu ?_
  rw [hE]
  exact acA rfl rfl (aW ao _)
theorem aAm (p:List Rat) (hl:p.length<=1048576) (ma:∀ x∈p,rl x<=274877906944):av Tryz.prog 157 [.list 3 (p.map ae)] (.list 3 (p.map ae)):=ajR (aCO p hl ma) (aW ao _) aO
open fN in
theorem auQ (a b t:Rat) (h:rl a+rl b+rl t<=100000) (cu:a<b):av Tryz.prog 289 [ae a,ae b,ae t] (ae ((t-a)/(b-a))):=by
 have h1:=iq t a
 have h2:=iq b a
 have hQ:av Tryz.prog 169 [ae (t-a),ae (b-a)] (.a7 [ae ((t-a)/(b-a)),iL 0]):=by
  have:=td (t-a) (b-a) J
  rwa [if_neg cA] at this
 refine aN Tryz.func289 ?_
 refine bq ?_
 refine fS 11 [9] an ?_
 refine aL ?_
 refine cp aq (p6 t a J) ?_
 refine aL ?_
 refine cp aq (p6 b a J) ?_
 refine cp aq (hQ) ?_
 refine gy ?_
 exact fq
namespace amh
theorem aH {p q:Prop} (k:q) (e:p=q:=by simp only [e1,e2,e3,e4,p1,p2,p3,q1,q2,q3,l1,t0,t1,r1,r2,r3,r4,Nat.zero_add,Nat.reduceMul,Nat.reduceAdd,b1,b2,b3,b4,b5,b6,i1,i2,i3,i4,i5,i6,Nat.reduceBEq,fY,bX,gj,rW,abS,List.length_map,cy,List.set_cons_zero,List.set_cons_succ,Nat.reduceEqDiff,reduceIte,if_true,if_false,dU,eo,aP bg,aP bw,aP ao,cH,dO,LV.kill,bN];exact rfl):p:=e.mpr k
end amh
open amh in
theorem aBs (d:Nat) (a b t:Rat) (hd:d<=6) (hT:rl a<=100) (hT1:rl b<=100) (ht:rl t<=1000) (h1:a<=t) (h2:t<b):av Tryz.prog 242 [.list 3 ((bl d a b).map ae),ah d,ae t] (.a7 [ah d,iL 0]):=by
 have fY:=jT d a b
 have bX:=xZ d a b
 have gj:=aai d a b
 have c1:¬fi t a<0:=fun e=>by have:=sG.2 h1;omega
 have c2:¬fi t b > 0:=fun e=>by have:=ry.1 e;grind
 have rW:((2*(d+1):Nat):Int).toNat-1=2*(d+1)-1:=by omega
 have abS:(((2*(d+1):Nat):Int)-1).toNat=2*(d+1)-1:=by omega
 have c3:fi t b<0:=ac2.2 h2
 refine aN Tryz.func242 (ht:=(jh rfl rfl)) ?_
 refine bq ?_
 refine aY 22 an ?_
 refine ax ?_
 refine ak (a6 (v:=false) rfl rfl ((beq_eq_false_iff_ne.2 J)) rfl) il ?_
 refine ak (a6 (v:=false) rfl rfl ((beq_eq_false_iff_ne.2 J)) rfl) (.move _) ?_
 refine ak (a6 (v:=false) rfl rfl ((beq_eq_false_iff_ne.2 J)) rfl) tL ?_
 refine ak (a6 (v:=false) rfl rfl ((beq_eq_false_iff_ne.2 J)) rfl) il ?_
 try simp only [t1,cy,bX]
 refine gL (a6 (v:=false) rfl rfl ((beq_eq_false_iff_ne.2 J)) rfl) (.cons eJ (.cons eJ .nil)) (lL t a J) ?_
 refine ak (a6 (v:=false) rfl rfl ((beq_eq_false_iff_ne.2 J)) rfl) (.bin rfl rfl rfl) ?_
 refine ak rfl (.oO rfl ((beq_eq_false_iff_ne.2 J))) ?_
 refine ar ?_
 refine ak (a6 (v:=false) rfl rfl ((decide_eq_false c1)) rfl) il ?_
 refine ak (a6 (v:=false) rfl rfl ((decide_eq_false c1)) rfl) (.move _) ?_
 refine ak (a6 (v:=false) rfl rfl ((decide_eq_false c1)) rfl) (.move _) ?_
 refine ak (a6 (v:=false) rfl rfl ((decide_eq_false c1)) rfl) vc ?_
 refine ak (a6 (v:=false) rfl rfl ((decide_eq_false c1)) rfl) (.bin rfl rfl (abU J J)) ?_
 refine ak (a6 (v:=false) rfl rfl ((decide_eq_false c1)) rfl) tL ?_
 refine ak (a6 (v:=false) rfl rfl ((decide_eq_false c1)) rfl) il ?_
 try simp only [t1,cy,fY,gj,abS]
 refine gL (a6 (v:=false) rfl rfl ((decide_eq_false c1)) rfl) (.cons eJ (.cons eJ .nil)) (lL t b J) ?_
 refine ak (a6 (v:=false) rfl rfl ((decide_eq_false c1)) rfl) (.bin rfl rfl rfl) ?_
 refine ak rfl (.oO rfl ((decide_eq_false c1))) ?_
 refine aL ?_
 refine eE (b:=_) rfl (decide_eq_false c2) ?_
 refine dj ?_
 refine dG (fun(i:Nat) L=>(((((St.mk L.slot (hp [(5,⟨3,[ae t],true⟩)])).put (some 0) (.list 3 ((bl d a b).map ae))).put (some 5) (.aA 5 3 0 0)).put (some 8) (ah 0)).put (some 9) (ah i))) (fun i=>i<=d) (fun i=>d-i) 0 (Nat.zero_le _) ?_
 rintro i L1 hi
 have hA:i<d->¬fi ((bl d a b).getD i 0) ((bl d a b).getD (i+1) 0)<0:=fun g=>by
  rw [fV _ _ _ _ J,fV _ _ _ _ J,if_pos J,if_pos J]
  exact fun e=>by have:=sG.2 (show a<=a by grind);omega
 have hB:i=d->fi ((bl d a b).getD i 0) ((bl d a b).getD (i+1) 0)<0:=fun g=>by
  rw [fV _ _ _ _ J,fV _ _ _ _ J,if_pos J,if_neg J]
  exact ac2.2 cA
 have qz:=aaR (d:=d) hT hT1
 have ib:=qz _ (dg (p:=bl d a b) (i:=i) J)
 have nv:=qz _ (dg (p:=bl d a b) (i:=i+1) J)
 refine ax ?_
 refine ak rfl cB ?_
 refine aZ ?_
 refine bY (b:=_) rfl (decide_eq_true (by first | omega | (simp only [List.length_map,fY];omega))) ?_
 refine az ?_
 refine aY 11 an ?_
 refine az ?_
 refine ak rfl cB ?_
 refine aL ?_
 try simp only [t1,cy]
 refine cp aq (lL ((bl d a b).getD i 0) ((bl d a b).getD (i+1) 0) J) ?_
 refine aJ ?_
 refine aC rfl ?_ ?_<;>intro ym h49
 ·have dA:i<d:=by
   rcases Nat.lt_or_ge i d with g | g
   ·exact g
   ·have:=hB J
    omega
  refine az ?_
  refine ak rfl cB ?_
  refine aJ ?_
  exact jS
 ·obtain rfl:i=d:=by
   rcases Nat.lt_or_ge i d with g | g
   ·have:=hA g
    omega
   ·omega
  have auk:(bl i a b).getD (i+1) 0=b:=by rw [fV _ _ _ _ J,if_neg J]
  refine bq ?_
  refine aY 8 an ?_
  refine aJ ?_
  refine ak rfl cB ?_
  refine aL ?_
  try simp only [t1,cy,auk]
  refine cp aq (lL t b J) ?_
  refine aJ ?_
  refine aC rfl ?_ ?_<;>intro amZ h58
  ·refine dj ?_
   exact uy
  ·omega
structure Q4 where
 x:Rat
 y:Rat
 z:Rat
 w:Rat
instance:Inhabited Q4:=⟨⟨0,0,0,0⟩⟩
def cX (q:Q4):LV:=.agg [ae q.x,ae q.y,ae q.z,ae q.w]
theorem jv:gE cX 12 true:=⟨fun q=>by simp [cX,LV.au,cF,ao.au],fun _=>rfl,fun q=>by simp [cX,LV.pure,aG,ao.pure]⟩
theorem abg (b:Nat) (q:Q4):(cX q).kill b=cX q:=LV.kt b _ (jv.pure q)
def n5 (R:Nat) (q:Q4):Prop:=rl q.x<=R/\rl q.y<=R/\rl q.z<=R/\rl q.w<=R
def pol (d:Nat) (a b:Rat) (C:List Q4) (args:List Rat):Q4:=⟨wV d a b (C.map (·.x)) args,wV d a b (C.map (·.y)) args,wV d a b (C.map (·.z)) args,wV d a b (C.map (·.w)) args⟩
theorem azd {C:List Q4} {i:Nat} (h:i<C.length):C.getD i default∈C:=by
 rw [List.getD_eq_getElem?_getD,List.getElem?_eq_getElem h];exact List.getElem_mem h
theorem aea {C:List Q4} {i:Nat} (h:i<C.length) (f:Q4->Rat):(C.map f).getD i 0=f (C.getD i default):=by
 rw [List.getD_eq_getElem?_getD,List.getElem?_map,List.getD_eq_getElem?_getD,List.getElem?_eq_getElem h];rfl
theorem aer {A B:List Rat} {i:Nat} (hl:A.length=B.length) (h:i<A.length):(A.take i++B.drop i).set i (A.getD i 0)=A.take (i+1)++B.drop (i+1):=by
 rw [List.set_append_right _ _ (by rw [List.length_take];omega),List.length_take,Nat.min_eq_left J,Nat.sub_self,<-zC h,List.append_assoc]
 congr 1
 rw [List.drop_eq_getElem_cons (by omega:i<B.length),List.set_cons_zero];rfl
theorem af3 {A B:List Rat} {i:Nat} (hl:A.length=B.length) (h:i<=A.length):(A.take i++B.drop i).length=A.length:=by
 rw [List.length_append,List.length_take,List.length_drop];omega
theorem aeO {A B:List Rat} {i:Nat} (hl:A.length=B.length) (h:A.length<=i):A.take i++B.drop i=A:=by
 rw [List.take_of_length_le h,List.drop_of_length_le J,List.append_nil]
theorem aeI {P:Program} {dst:Option Tmp} {ty:TypeId} {pos:String} {af:Array Edge} {g:Option (Nat × Bool)} {rest:List Oper} {L:St} {K:St->Prop} {f:FuncId} {xs:Array Operand} {rI:Array TypeId} {args:List LV} {r:LV} {ops:Array Oper} (b:Nat) {blk blk':a8} (hg:dE ops L ⟨dst,.call ⟨.value (.func f),xs,rI⟩,ty,pos,af,g⟩ true)
  (hb:L.heap b=some blk) (hm:blk.mt=true) (hp:aG blk.vals=true) (ha:tu L.heap b (xs.toList.map L.ev) args) (hn:Names b (xs.toList.map L.ev)) (hk:lH P f blk args r blk')
  (nC:blk'.mt=true) (jn:aG blk'.vals=true) (hr:∀ g,r.bJ g=r) (k:opsL P false ops rest ((L.bG b (some blk')).put dst r) K) :
  opsL P false ops (⟨dst,.call ⟨.value (.func f),xs,rI⟩,ty,pos,af,g⟩ :: rest) L K :=
 vy b hg hb hm hp ha hn hk nC jn (by rw [hr];exact k)
instance:EC Tryz.prog 159 cX 12 true ⟨0,0,0,0⟩:=⟨jv,aew,yJ⟩
namespace amJ
theorem aH {p q:Prop} (k:q) (e:p=q:=by simp only [e1,e2,e3,e4,p1,p2,p3,q1,q2,q3,l1,t0,t1,r1,r2,r3,r4,Nat.zero_add,Nat.reduceMul,Nat.reduceAdd,b1,b2,b3,b4,b5,b6,i1,i2,i3,i4,i5,i6,Nat.reduceBEq,cy,List.set_cons_zero,List.set_cons_succ,Nat.reduceEqDiff,reduceIte,if_true,if_false,dU,eo,aP bg,aP bw,aP ao,cH,dO,LV.kill,bN,List.length_map];exact rfl):p:=e.mpr k
end amJ
open amJ in
theorem adY (f:Nat) (cap:List LV) (fG:aG cap=true) (hcs:∀ x∈cap,x.au=1/\x.isAgg=false) (pr:Rat->Bool) (l:List Rat) (hl:l.length<=1048576) (hf:∀ x∈l,av Tryz.prog f ([ae x]++cap) (bL (pr x))):av Tryz.prog 161 [.list 3 (l.map ae),.cV f cap] (iL (abv pr l)):=by
 refine aN Tryz.func161 ?_
 refine dj ?_
 refine dG (fun(i:Nat) L=>((((((St.mk L.slot (hp [])).put (some 0) (.list 3 (l.map ae))).put (some 1) (.cV f cap)).put (some 6) (.list 3 (l.map ae))).put (some 7) (ah l.length)).put (some 8) (ah i))) (fun i=>i<=l.length/\∀ j,j<i->pr (l.getD j default)=false) (fun i=>l.length-i) 0 ⟨Nat.zero_le _,fun j hj=>absurd hj (Nat.not_lt_zero j)⟩ ?_
 rintro i L1 ⟨hi,h0⟩
 refine az ?_
 refine aC rfl ?_ ?_<;>intro ta h9
 ·have dA:i<l.length:=by omega
  have hc:=hf _ (dg dA)
  refine im ?_
  refine mG [] rfl rfl (.cV (f:=f) (cap:=cap) (args:=[ae (l.getD i 0)]) rfl (.cons eJ .nil) ⟨fG,hcs⟩ hc.1 ai (fun _ h=>by cases h)) (hc.2 _) ?_
  refine aL ?_
  refine aC rfl ?_ ?_<;>intro yH uA
  ·have hV:abv pr l=(i:Int):=abR dA h0 (by first | exact yH | exact uA)
   refine bu ?_
   rw [hV]
   exact mF
  ·have hn:∀ j,j<i+1->pr (l.getD j default)=false:=fun j hj=>by
    rcases Nat.lt_succ_iff_lt_or_eq.1 hj with e | rfl
    ·exact h0 j e
    ·first | exact yH | (simpa using uA)
   refine ax ?_
   refine ak rfl cB ?_
   refine aJ ?_
   exact iJ (i+1) ⟨J,hn⟩
 ·obtain rfl:i=l.length:=by omega
  refine bo ?_
  rw [aB7 h0]
  exact mF
open fN in
theorem aka (a x:Rat) (h:rl a+rl x<=100000):av Tryz.prog 162 [ae x,.bV (ae a)] (bL (decide (fi x a > 0))):=by
 refine aN Tryz.func162 ?_
 refine bB ?_
 refine cp aq (lL x a J) ?_
 refine aZ ?_
 exact mF
open fN in
theorem amO (a x:Rat) (h:rl a+rl x<=100000):av Tryz.prog 163 [ae x,.bV (ae a)] (bL (decide (fi x a>=0))):=by
 refine aN Tryz.func163 ?_
 refine bB ?_
 refine cp aq (lL x a J) ?_
 refine aZ ?_
 exact mF
def nO (f:Nat->Rat) (v:List Rat) (j:Nat):List Rat:=(List.range v.length).map fun i=>if j<i then v.getD (i-1) 0+f i*(v.getD i 0-v.getD (i-1) 0) else v.getD i 0
theorem q7 (f:Nat->Rat) (v:List Rat) (j:Nat):(nO f v j).length=v.length:=by simp [nO]
theorem vE (f:Nat->Rat) (v:List Rat) (j i:Nat) (h:i<v.length):(nO f v j).getD i 0=if j<i then v.getD (i-1) 0+f i*(v.getD i 0-v.getD (i-1) 0) else v.getD i 0:=by
 unfold nO
 rw [List.getD_eq_getElem?_getD,List.getElem?_map,List.getElem?_range h]
 rfl
theorem ax1 (f:Nat->Rat) (v:List Rat) (j:Nat) (h:v.length<=j+1):nO f v j=v :=
 adk (q7 f v j) fun i hi=>by
  rw [q7] at hi
  rw [vE f v j i hi,if_neg J]
theorem axk (f:Nat->Rat) (v:List Rat) (j:Nat) (h0:0<j) (h:j<v.length):(nO f v j).set j (v.getD (j-1) 0+f j*(v.getD j 0-v.getD (j-1) 0))=nO f v (j-1) :=
 adk (by rw [List.length_set,q7,q7]) fun i hi=>by
  rw [List.length_set,q7] at hi
  rw [vE f v (j-1) i hi,List.getD_eq_getElem?_getD,List.getElem?_set]
  by_cases e:j=i
  ·subst e
   rw [if_pos rfl,if_pos (by rw [q7];exact h),if_pos J];rfl
  ·rw [if_neg e,<-List.getD_eq_getElem?_getD,vE f v j i hi]
   by_cases g:j<i
   ·rw [if_pos g,if_pos J]
   ·rw [if_neg g,if_neg J]
def cr (F:Nat->Nat->Rat) (v:List Rat):Nat->List Rat
 | 0=>v
 | r+1=>nO (F r) (cr F v r) r
theorem vH (F:Nat->Nat->Rat) (v:List Rat):∀ r,(cr F v r).length=v.length
 | 0=>rfl
 | r+1=>by rw [cr,q7,vH F v r]
theorem auA {f:Nat->Rat} {v:List Rat} {Q R j:Nat} (hf:∀ i,j<i->i<v.length->rl (f i)<=Q) (hR:1<=R) (hv:∀ x∈v,rl x<=R):∀ x∈nO f v j,rl x<=3*R+Q+2:=fun x hx=>by
 obtain⟨i,hi,rfl⟩:=acd hx
 rw [q7] at hi
 rw [vE f v j i hi]
 have a:=fR hR hv i
 have b:=fR hR hv (i-1)
 split
 ·rename_i g
  have h0:=hf i g hi
  have h1:=iq (v.getD i 0) (v.getD (i-1) 0)
  have h2:=cO (f i) (v.getD i 0-v.getD (i-1) 0)
  have h3:=jx (v.getD (i-1) 0) (f i*(v.getD i 0-v.getD (i-1) 0))
  omega
 ·omega
theorem anc {F:Nat->Nat->Rat} {v:List Rat} {Q R n:Nat} (hQ:∀ r i,r<n->r<i->i<v.length->rl (F r i)<=Q) (hR:1<=R) (hv:∀ x∈v,rl x<=R):∀ r,r<=n->∀ x∈cr F v r,rl x<=vQ Q R r
 | 0,_=>hv
 | r+1,h=>auA (fun i h1 h2=>hQ r i J h1 (by rwa [vH] at h2)) (ape hR r) (anc hQ hR hv r J)
def gF (k:List Rat) (d pc:Nat) (args:List Rat) (r j:Nat):Rat:=(args.getD r 0-k.getD (pc-d+j) 0)/(k.getD (pc+j-r) 0-k.getD (pc-d+j) 0)
def da (k:List Rat) (d pc:Nat) (v args:List Rat):Rat:=(cr (gF k d pc args) ((v.drop (pc-d)).take (d+1)) d).getD d 0
def lO (k:List Rat) (d pc:Nat) (C:List Q4) (args:List Rat):Q4:=⟨da k d pc (C.map (·.x)) args,da k d pc (C.map (·.y)) args,da k d pc (C.map (·.z)) args,da k d pc (C.map (·.w)) args⟩
structure tN (k:List Rat) (d pc:Nat):Prop where
 d6:d<=6
 kl:k.length<=100
 kr:∀ x∈k,rl x<=100
 yX:∀ i j,i<=j->j<k.length->k.getD i 0<=k.getD j 0
 p1:d<=pc
 p2:pc+d+1<k.length
 lt:k.getD pc 0<k.getD (pc+1) 0
theorem tN.fr {k:List Rat} {d pc:Nat} (h:tN k d pc) {r j:Nat} (h1:r<j) (h2:j<=d):k.getD (pc-d+j) 0<k.getD (pc+j-r) 0:=by
 have a1:=h.p1
 have a2:=h.p2
 have b1:=h.yX (pc-d+j) pc J J
 have b2:=h.yX (pc+1) (pc+j-r) J J
 have b3:=h.lt
 grind
theorem tN.kn {k:List Rat} {d pc:Nat} (h:tN k d pc) {i:Nat} (hi:i<k.length):rl (k.getD i 0)<=100:=h.kr _ (dg hi)
theorem tN.fl {k:List Rat} {d pc:Nat} (h:tN k d pc) {args:List Rat} (hA:∀ t∈args,rl t<=100) {r j:Nat} (h1:r<j) (h2:j<=d) (h3:r<args.length):rl (gF k d pc args r j)<=402:=by
 have a1:=h.p1
 have a2:=h.p2
 have b1:=h.kn (i:=pc-d+j) J
 have b2:=h.kn (i:=pc+j-r) J
 have b3:=hA _ (dg h3)
 have c1:=iq (args.getD r 0) (k.getD (pc-d+j) 0)
 have c2:=iq (k.getD (pc+j-r) 0) (k.getD (pc-d+j) 0)
 have c3:=oT (args.getD r 0-k.getD (pc-d+j) 0) (k.getD (pc+j-r) 0-k.getD (pc-d+j) 0)
 unfold gF
 omega
namespace alL
theorem aH {p q:Prop} (k:q) (e:p=q:=by simp only [e1,e2,e3,e4,p1,p2,p3,q1,q2,q3,l1,t0,t1,r1,r2,r3,r4,Nat.zero_add,Nat.reduceMul,Nat.reduceAdd,b1,b2,b3,b4,b5,b6,i1,i2,i3,i4,i5,i6,Nat.reduceBEq,fy0,fyc,hnR,hnB,hnC,je,cy,Rat.add_zero,List.length_map,List.set_cons_zero,List.set_cons_succ,Nat.reduceEqDiff,reduceIte,if_true,if_false,dU,eo,aP bg,aP bw,aP ao,cH,dO,LV.kill,bN];exact rfl):p:=e.mpr k
end alL
open alL in
theorem ahm (k:List Rat) (t:Rat) (i0:Nat) (h3:i0<k.length) (hl:k.length<=1000) (hr:∀ x∈k,rl x<=100000) (ht:rl t<=100000) (h1:∀ j,j<i0->k.getD j 0<=t) (h2:t<k.getD i0 0):av Tryz.prog 159 [.list 3 (k.map ae),ae t] (.list 3 ((k.take i0++t :: k.drop i0).map ae)):=by
 have qZ:=eB ao 3 k
 have hKc:=aop k J (fun x hx=>Nat.le_trans (hr x hx) ai)
 have hA:=iw t 0 (by rw [show rl 0=1 from rfl];omega)
 rw [Rat.add_zero] at hA
 have iM:aG [ae t]=true:=by simp [aG,ao.pure]
 have pj:aG (k.map ae)=true:=aW ao _
 have hIn:=avJ k i0 t h3 hl
 have je:kR 27 28 1=1000449:=rfl
 have hnR:(LV.ref 1 3 0 (k.length+1)).bJ (kR 27 28)=.ref 1000449 3 0 (k.length+1):=rfl
 have hnB:cW (kR 27 28) [ae t]=[ae t]:=mg _ _ iM
 have hnC:cW (kR 27 28) ((k.take i0++t :: k.drop i0).map ae)=(k.take i0++t :: k.drop i0).map ae:=mg _ _ (aW ao _)
 have hlR:(k.take i0++t :: k.drop i0).length=k.length+1:=by rw [List.length_append,List.length_cons,List.length_take,List.length_drop];omega
 have pS:∀ i,i<k.length->rl (k.getD i 0)<=100000:=fun i hi=>hr _ (dg hi)
 refine aN Tryz.func159 ?_
 refine dp ?_
 refine dG (fun(i:Nat) L=>((((St.mk L.slot (hp [(3,⟨3,[ae t],true⟩)])).put (some 0) (.list 3 (k.map ae))).put (some 3) (.aA 3 3 0 0)).put (some 5) (ah i))) (fun i=>i<=i0) (fun i=>i0-i) 0 (Nat.zero_le _) ?_
 rintro i L1 hi
 refine aL ?_
 refine aY 13 an ?_
 refine aZ ?_
 refine ak (a6 (v:=true) rfl rfl ((decide_eq_true kG)) rfl) (.move _) ?_
 refine ak (a6 (v:=true) rfl rfl ((decide_eq_true kG)) rfl) (.move _) ?_
 refine ak (a6 (v:=true) rfl rfl ((decide_eq_true kG)) rfl) tL ?_
 refine ak (a6 (v:=true) rfl rfl ((decide_eq_true kG)) rfl) il ?_
 refine ak (a6 (v:=true) rfl rfl ((decide_eq_true kG)) rfl) il ?_
 try simp only [t1,cy]
 refine gL (a6 (v:=true) rfl rfl ((decide_eq_true kG)) rfl) (.cons eJ (.cons eJ .nil)) (lL (k.getD i 0) t (by have:=pS i J;omega)) ?_
 refine ak (a6 (v:=true) rfl rfl ((decide_eq_true kG)) rfl) (.bin rfl rfl rfl) ?_
 refine ak rfl (.mM rfl ((decide_eq_true kG))) ?_
 refine aL ?_
 refine aC rfl ?_ ?_<;>intro rz rp
 ·have dA:i<i0:=by
   rcases Nat.lt_or_ge i i0 with g | g
   ·exact g
   ·obtain rfl:i=i0:=by omega
    have:=ry.2 h2
    omega
  refine aZ ?_
  refine ak rfl cB ?_
  refine ax ?_
  exact jS
 ·obtain rfl:i0=i:=by
   rcases Nat.lt_or_ge i i0 with g | g
   ·have:=acy.2 (h1 i g)
    omega
   ·omega
  refine az ?_
  refine aAr rfl 7 an ai ?_
  simp only [List.take_succ_cons,List.take_zero]
  refine ar ?_
  refine yD [] rfl rfl (.cons (.pure qZ) .nil) hKc (aW ao _) rfl ?_
  refine aL ?_
  refine ak rfl nQ ?_
  refine cp aq (hA) ?_
  refine ar ?_
  try refine aH ?_
  refine azH rfl (aqA (f:=240) (b:=27) (c:=1000353) (sz:=3) (csz:=3) (vals:=[ae t]) (cvals:=k.map ae) 28 rfl ai ai (by rw [mg _ _ iM];rfl) (by rw [mg _ _ pj];rfl) (.cons (.bJ (y:=.ref 1 3 0 k.length) ⟨by simp,by simp⟩) (.cons (.cf (.pure rfl)) (.cons (.bJ (y:=.ref 0 3 0 1) ⟨by simp,by simp⟩) .nil))) (.tl (.tl (.ref ai))) hIn aO (fun kk ye=>atn (by intro x hx;simp only [List.map_cons,List.map_nil,List.mem_cons,List.not_mem_nil,or_false] at hx;unfold dK;omega))) ?_
  simp only [qh,je,hnR,hnB,hnC]
  try refine aH ?_
  simp only [List.drop_succ_cons,List.drop_zero]
  refine ax ?_
  exact mL [1000449] rfl rfl (eM (l:=(k.take i0++t :: k.drop i0)) ao rfl rfl hlR.symm)
namespace akD
theorem aH {p q:Prop} (k:q) (e:p=q:=by simp only [e1,e2,e3,e4,p1,p2,p3,q1,q2,q3,l1,t0,t1,r1,r2,r3,r4,Nat.zero_add,Nat.reduceMul,Nat.reduceAdd,b1,b2,b3,b4,b5,b6,i1,i2,i3,i4,i5,i6,Nat.reduceBEq,abS,List.length_map,cy,List.set_cons_zero,List.set_cons_succ,Nat.reduceEqDiff,reduceIte,if_true,if_false,dU,eo,aP bg,aP bw,aP ao,cH,dO,LV.kill,bN];exact rfl):p:=e.mpr k
end akD
open akD in
theorem amy (d:Nat) (k:List Rat) (t:Rat) (r:Nat) (hl:k.length<=1000) (hr:∀ x∈k,rl x<=100000) (ht:rl t<=100000) (h0:k.getD 0 0<=t) (h1:t<=k.getD (k.length-1) 0) (ib:r+1<k.length) (nv:k.getD r 0<k.getD (r+1) 0) (hA:∀ i,i<r->k.getD i 0<k.getD (i+1) 0->k.getD (i+1) 0<=t) (hB:t<k.getD (r+1) 0\/∀ i,r<i->i+1<k.length->¬k.getD i 0<k.getD (i+1) 0):av Tryz.prog 242 [.list 3 (k.map ae),ah d,ae t] (.a7 [ah r,iL 0]):=by
 have abS:((k.length:Int)-1).toNat=k.length-1:=by omega
 have pS:∀ i,i<k.length->rl (k.getD i 0)<=100000:=fun i hi=>hr _ (dg hi)
 have c1:¬fi t (k.getD 0 0)<0:=fun e=>by have:=sG.2 h0;omega
 have c2:¬fi t (k.getD (k.length-1) 0) > 0:=fun e=>by have:=ry.1 e;grind
 have qC:=pS 0 J
 have hrN:=pS (k.length-1) J
 refine aN Tryz.func242 (ht:=(jh rfl rfl)) ?_
 refine bq ?_
 refine aY 22 an ?_
 refine ax ?_
 refine ak (a6 (v:=false) rfl rfl ((beq_eq_false_iff_ne.2 J)) rfl) il ?_
 refine ak (a6 (v:=false) rfl rfl ((beq_eq_false_iff_ne.2 J)) rfl) (.move _) ?_
 refine ak (a6 (v:=false) rfl rfl ((beq_eq_false_iff_ne.2 J)) rfl) tL ?_
 refine ak (a6 (v:=false) rfl rfl ((beq_eq_false_iff_ne.2 J)) rfl) il ?_
 try simp only [t1,cy]
 refine gL (a6 (v:=false) rfl rfl ((beq_eq_false_iff_ne.2 J)) rfl) (.cons eJ (.cons eJ .nil)) (lL t (k.getD 0 0) J) ?_
 refine ak (a6 (v:=false) rfl rfl ((beq_eq_false_iff_ne.2 J)) rfl) (.bin rfl rfl rfl) ?_
 refine ak rfl (.oO rfl ((beq_eq_false_iff_ne.2 J))) ?_
 refine ar ?_
 refine ak (a6 (v:=false) rfl rfl ((decide_eq_false c1)) rfl) il ?_
 refine ak (a6 (v:=false) rfl rfl ((decide_eq_false c1)) rfl) (.move _) ?_
 refine ak (a6 (v:=false) rfl rfl ((decide_eq_false c1)) rfl) (.move _) ?_
 refine ak (a6 (v:=false) rfl rfl ((decide_eq_false c1)) rfl) vc ?_
 refine ak (a6 (v:=false) rfl rfl ((decide_eq_false c1)) rfl) (.bin rfl rfl (abU J J)) ?_
 refine ak (a6 (v:=false) rfl rfl ((decide_eq_false c1)) rfl) tL ?_
 refine ak (a6 (v:=false) rfl rfl ((decide_eq_false c1)) rfl) il ?_
 try simp only [t1,cy,abS]
 refine gL (a6 (v:=false) rfl rfl ((decide_eq_false c1)) rfl) (.cons eJ (.cons eJ .nil)) (lL t (k.getD (k.length-1) 0) J) ?_
 refine ak (a6 (v:=false) rfl rfl ((decide_eq_false c1)) rfl) (.bin rfl rfl rfl) ?_
 refine ak rfl (.oO rfl ((decide_eq_false c1))) ?_
 refine aL ?_
 refine eE (b:=_) rfl (decide_eq_false c2) ?_
 refine dj ?_
 refine jL (fun(i la:Nat) L=>(((((St.mk L.slot (hp [(5,⟨3,[ae t],true⟩)])).put (some 0) (.list 3 (k.map ae))).put (some 5) (.aA 5 3 0 0)).put (some 8) (ah la)).put (some 9) (ah i))) (fun i la=>i<k.length/\(r<i->la=r/\k.getD (r+1) 0<=t)) (fun i la=>k.length-i) 0 0 ⟨J,fun h=>absurd h (Nat.not_lt_zero _)⟩ ?_
 rintro i la L1 ⟨hi,fb⟩
 refine ax ?_
 refine ak rfl cB ?_
 refine aZ ?_
 refine aC rfl ?_ ?_<;>intro alF h36
 ·have dA:i+1<k.length:=by omega
  have l9:=pS i J
  have y9:=pS (i+1) dA
  refine az ?_
  refine aY 11 an ?_
  refine az ?_
  refine ak rfl cB ?_
  refine aL ?_
  try simp only [t1,cy]
  refine cp aq (lL (k.getD i 0) (k.getD (i+1) 0) J) ?_
  refine aJ ?_
  refine aC rfl ?_ ?_<;>intro ym h49
  ·have kN:¬k.getD i 0<k.getD (i+1) 0:=fun e=>by have:=ac2.2 e;omega
   have mz:r<i+1->la=r/\k.getD (r+1) 0<=t:=fun h=>by
    rcases Nat.lt_succ_iff_lt_or_eq.1 h with g | g
    ·exact fb g
    ·exact absurd (g ▸ nv) kN
   refine az ?_
   refine ak rfl cB ?_
   refine aJ ?_
   exact fU (i+1) la ⟨J,mz⟩
  ·have bE:k.getD i 0<k.getD (i+1) 0:=aaC.1 J
   refine bq ?_
   refine aY 8 an ?_
   refine aJ ?_
   refine ak rfl cB ?_
   refine aL ?_
   try simp only [t1,cy]
   refine cp aq (lL t (k.getD (i+1) 0) J) ?_
   refine aJ ?_
   refine aC rfl ?_ ?_<;>intro amZ h58
   ·obtain rfl:i=r:=by
     have hb:=aaC.1 h58
     rcases Nat.lt_trichotomy i r with g | g | g
     ·have:=hA i g bE
      grind
     ·exact g
     ·rcases hB with e | e
      ·have:=(fb g).2
       grind
      ·exact absurd bE (e i g dA)
    refine dj ?_
    exact uy
   ·have jd:k.getD (i+1) 0<=t:=sG.1 J
    have lI:r<i+1->i=r/\k.getD (r+1) 0<=t:=fun h=>by
     rcases Nat.lt_succ_iff_lt_or_eq.1 h with g | g
     ·exfalso
      rcases hB with e | e
      ·have:=(fb g).2
       grind
      ·exact absurd bE (e i g dA)
     ·exact⟨g.symm,g ▸ jd⟩
    refine aZ ?_
    refine ak rfl cB ?_
    refine aJ ?_
    exact fU (i+1) i ⟨J,lI⟩
 ·obtain rfl:la=r:=(fb J).1
  refine dp ?_
  exact uy
namespace ani
theorem aH {p q:Prop} (k:q) (e:p=q:=by simp only [e1,e2,e3,e4,p1,p2,p3,q1,q2,q3,l1,t0,t1,r1,r2,r3,r4,Nat.zero_add,Nat.reduceMul,Nat.reduceAdd,b1,b2,b3,b4,b5,b6,i1,i2,i3,i4,i5,i6,Nat.reduceBEq,cy,List.length_map,List.set_cons_zero,List.set_cons_succ,Nat.reduceEqDiff,reduceIte,if_true,if_false,dU,eo,aP bg,aP bw,aP ao,cH,dO,LV.kill,bN];exact rfl):p:=e.mpr k
end ani
open ani in
theorem ain (k:List Rat) (j r:Nat) (hl:k.length<=1000) (hr:∀ x∈k,rl x<=100000) (hj:j<=r) (ib:r+1<k.length) (nv:k.getD r 0<k.getD (r+1) 0) (hA:∀ i,j<=i->i<r->¬k.getD i 0<k.getD (i+1) 0):av Tryz.prog 241 [.list 3 (k.map ae),ah j] (ah r):=by
 have pS:∀ i,i<k.length->rl (k.getD i 0)<=100000:=fun i hi=>hr _ (dg hi)
 refine aN Tryz.func241 ?_
 refine aR ?_
 refine dG (fun(i:Nat) L=>(((St.mk L.slot (hp [])).put (some 0) (.list 3 (k.map ae))).put (some 1) (ah i))) (fun i=>j<=i/\i<=r) (fun i=>r-i) j ⟨Nat.le_refl _,hj⟩ ?_
 rintro i L1 ⟨jK,hi⟩
 refine aL ?_
 refine aY 18 an ?_
 refine ar ?_
 refine ak rfl cB ?_
 refine ax ?_
 refine ak (a6 (v:=true) rfl rfl ((decide_eq_true kG)) rfl) (.move _) ?_
 refine ak (a6 (v:=true) rfl rfl ((decide_eq_true kG)) rfl) (.move _) ?_
 refine ak (a6 (v:=true) rfl rfl ((decide_eq_true kG)) rfl) tL ?_
 refine ak (a6 (v:=true) rfl rfl ((decide_eq_true kG)) rfl) il ?_
 refine ak (a6 (v:=true) rfl rfl ((decide_eq_true kG)) rfl) (.move _) ?_
 refine ak (a6 (v:=true) rfl rfl ((decide_eq_true kG)) rfl) (.move _) ?_
 refine ak (a6 (v:=true) rfl rfl ((decide_eq_true kG)) rfl) (.bin rfl rfl (ab9 J)) ?_
 refine ak (a6 (v:=true) rfl rfl ((decide_eq_true kG)) rfl) tL ?_
 refine ak (a6 (v:=true) rfl rfl ((decide_eq_true kG)) rfl) il ?_
 try simp only [t1,cy]
 refine gL (a6 (v:=true) rfl rfl ((decide_eq_true kG)) rfl) (.cons eJ (.cons eJ .nil)) (lL (k.getD i 0) (k.getD (i+1) 0) (by have:=pS i J;have:=pS (i+1) J;omega)) ?_
 refine ak (a6 (v:=true) rfl rfl ((decide_eq_true kG)) rfl) (.bin rfl rfl rfl) ?_
 refine ak rfl (.mM rfl ((decide_eq_true kG))) ?_
 refine aL ?_
 refine aC rfl ?_ ?_<;>intro ads h22
 ·have dA:i<r:=by
   rcases Nat.lt_or_ge i r with g | g
   ·exact g
   ·obtain rfl:i=r:=by omega
    have:=aaC.2 nv
    omega
  refine aZ ?_
  refine ak rfl cB ?_
  refine ax ?_
  exact iJ (i+1) ⟨J,J⟩
 ·obtain rfl:i=r:=by
   rcases Nat.lt_or_ge i r with g | g
   ·exact absurd (aaC.1 J) (hA i jK g)
   ·omega
  refine bu ?_
  exact mF
namespace arV
theorem aH {p q:Prop} (k:q) (e:p=q:=by simp only [e1,e2,e3,e4,p1,p2,p3,q1,q2,q3,l1,t0,t1,r1,r2,r3,r4,Nat.zero_add,Nat.reduceMul,Nat.reduceAdd,b1,b2,b3,b4,b5,b6,i1,i2,i3,i4,i5,i6,Nat.reduceBEq,aq6,pA,oa,hxd,hxe,aoD,uT,ewl,ewj,ewk,apF,cy,Rat.add_zero,Nat.sub_self,List.drop_zero,List.take_zero,List.nil_append,List.length_map,List.length_replicate,List.append_nil,List.set_cons_zero,List.set_cons_succ,Nat.reduceEqDiff,reduceIte,if_true,if_false,dU,eo,aP bg,aP bw,aP ao,cH,dO,LV.kill,bN];exact rfl):p:=e.mpr k
end arV
open arV in
theorem ae3 (k:List Rat) (d pc:Nat) (c args:List Rat) (R:Nat) (h:tN k d pc) (hc:c.length=k.length-d-1) (uT:args.length=d) (eN:1<=R) (hR:R<=10000000) (jA:∀ x∈c,rl x<=R) (hA:∀ t∈args,rl t<=100):lH Tryz.prog 280 ⟨3,c.map ae,true⟩ [.list 3 (k.map ae),ah d,.ref 0 3 0 c.length,ah pc,.list 3 (args.map ae)] (.a7 [ae (da k d pc c args),iL 0]) ⟨3,c.map ae,true⟩:=by
 have h9:=h.d6
 have fY:=h.kl
 have iM:=h.p1
 have pj:=h.p2
 have aDa:=h.lt
 have hs9:vQ 402 R 6<=10000000000:=by simp only [vQ];omega
 have pA:((c.drop (pc-d)).take (d+1)).length=d+1:=by rw [List.length_take,List.length_drop];omega
 have hvR:∀ x∈((c.drop (pc-d)).take (d+1)),rl x<=R:=fun x hx=>jA x (List.mem_of_mem_drop (List.mem_of_mem_take hx))
 have hFl:∀ r i,r<d->r<i->i<((c.drop (pc-d)).take (d+1)).length->rl ((gF k d pc args) r i)<=402:=fun r i g1 g2 g3=>h.fl hA g2 J J
 have hBR:∀ r,r<=d->∀ x∈(cr (gF k d pc args) ((c.drop (pc-d)).take (d+1)) r),rl x<=10000000000:=fun r hr x hx=>Nat.le_trans (anc hFl eN hvR r hr x hx) (Nat.le_trans (ap5 eN (show r<=6 by omega)) hs9)
 have hG:∀ i,i<k.length->rl (k.getD i 0)<=100:=fun i hi=>h.kn hi
 have c1:¬fi (k.getD pc 0) (k.getD (pc+1) 0)>=0:=fun e=>by have:=sG.1 e;grind
 have l9:=hG pc J
 have y9:=hG (pc+1) J
 have tA:=eB ao 3 args
 have qZ:=eB ao 3 k
 have aDd:=fR ai (hBR d (Nat.le_refl _)) d
 have hAd:=iw ((cr (gF k d pc args) ((c.drop (pc-d)).take (d+1)) d).getD d 0) 0 (by have:rl 0=1:=rfl;omega)
 rw [Rat.add_zero] at hAd
 have tP:(((c.drop (pc-d)).take (d+1)).map ae).length=d+1:=by rw [List.length_map,pA]
 have hxd:(List.replicate (d+1) (ae 0)).drop (d+1)=[]:=List.drop_of_length_le aO
 have hxe:((List.replicate (d+1) (0:Rat)).map ae).drop (d+1)=[]:=List.drop_of_length_le aO
 refine ud Tryz.func280 ?_
 have aq6:True:=trivial
 have aoD:True:=trivial
 have ewl:True:=trivial
 have ewj:True:=trivial
 have ewk:True:=trivial
 have apF:True:=trivial
 refine dj ?_
 refine cp aq (ahs k d J J) ?_
 refine aL ?_
 refine ak (a6 (v:=false) rfl rfl ((bne_eq_false_iff_eq.2 kG)) rfl) (.move _) ?_
 refine ak (a6 (v:=false) rfl rfl ((bne_eq_false_iff_eq.2 kG)) rfl) vc ?_
 refine ak (a6 (v:=false) rfl rfl ((bne_eq_false_iff_eq.2 kG)) rfl) (.move _) ?_
 refine ak (a6 (v:=false) rfl rfl ((bne_eq_false_iff_eq.2 kG)) rfl) (.bin rfl rfl rfl) ?_
 refine ak rfl (.oO rfl ((bne_eq_false_iff_eq.2 kG))) ?_
 refine aJ ?_
 refine eE (b:=_) rfl (bne_eq_false_iff_eq.2 (by first | omega | (simp only [List.length_map,uT];omega))) ?_
 refine ar ?_
 refine aY 23 an ?_
 refine ax ?_
 refine ak (a6 (v:=false) rfl rfl ((decide_eq_false J)) rfl) (.move _) ?_
 refine ak (a6 (v:=false) rfl rfl ((decide_eq_false J)) rfl) (.move _) ?_
 refine ak (a6 (v:=false) rfl rfl ((decide_eq_false J)) rfl) vc ?_
 refine ak (a6 (v:=false) rfl rfl ((decide_eq_false J)) rfl) (.bin rfl rfl rfl) ?_
 refine ak rfl (.oO rfl ((decide_eq_false J))) ?_
 refine ar ?_
 refine ak (a6 (v:=false) rfl rfl ((decide_eq_false J)) rfl) (.move _) ?_
 refine ak (a6 (v:=false) rfl rfl ((decide_eq_false J)) rfl) (.move _) ?_
 refine ak (a6 (v:=false) rfl rfl ((decide_eq_false J)) rfl) tL ?_
 refine ak (a6 (v:=false) rfl rfl ((decide_eq_false J)) rfl) il ?_
 refine ak (a6 (v:=false) rfl rfl ((decide_eq_false J)) rfl) (.move _) ?_
 refine ak (a6 (v:=false) rfl rfl ((decide_eq_false J)) rfl) (.move _) ?_
 refine ak (a6 (v:=false) rfl rfl ((decide_eq_false J)) rfl) (.bin rfl rfl (ab9 J)) ?_
 refine ak (a6 (v:=false) rfl rfl ((decide_eq_false J)) rfl) tL ?_
 refine ak (a6 (v:=false) rfl rfl ((decide_eq_false J)) rfl) il ?_
 try simp only [t1,cy]
 refine gL (a6 (v:=false) rfl rfl ((decide_eq_false J)) rfl) (.cons eJ (.cons eJ .nil)) (lL (k.getD pc 0) (k.getD (pc+1) 0) J) ?_
 refine ak (a6 (v:=false) rfl rfl ((decide_eq_false J)) rfl) (.bin rfl rfl rfl) ?_
 refine ak rfl (.oO rfl ((decide_eq_false J))) ?_
 refine aJ ?_
 refine eE (b:=_) rfl (decide_eq_false c1) ?_
 refine az ?_
 refine ak rfl cB ?_
 refine eI rfl rfl (.kK (n:=d+1) (m:=d+1) ml ml om om om) ?_
 refine bq ?_
 refine ak rfl (.bin rfl rfl (wo (a:=pc) (b:=d) (c:=pc-d) J J)) ?_
 refine ak rfl (.th (a:=pc-d) (h:=c.length) rfl Tryz.underlying25 cJ (fun y hy=>by cases hy;exact⟨_,rfl⟩) (fun h=>by cases h) (fun y hy=>by cases hy) (fun _=>rfl) om om om) ?_
 try refine aH ?_
 refine bI rfl (.abO (b:=58) (off:=0) (sz:=3) (n1:=d+1) (c:=0) (off2:=pc-d) (n2:=c.length-(pc-d)) (news:=(((c.drop (pc-d)).take (d+1)).map ae)) rfl rfl rfl rfl (Nat.zero_le _) Tryz.underlying25 Tryz.underlying25 cJ rfl rfl rfl (by rw [tP];show _=min _ _;omega) (by rw [tP];omega) (by rw [tP,List.length_map];omega) (by rw [tP,<-List.map_drop,<-List.map_take])) ?_
 refine bo ?_
 refine dG (fun(r:Nat) L=>(((((((((St.mk L.slot (hp [(0,⟨3,c.map ae,true⟩),(10,⟨3,[ae 0],true⟩),(58,⟨3,(cr (gF k d pc args) ((c.drop (pc-d)).take (d+1)) r).map ae,true⟩)])).put (some 0) (.list 3 (k.map ae))).put (some 1) (ah d)).put (some 3) (ah pc)).put (some 10) (.aA 10 3 0 0)).put (some 12) (.ref 58 3 0 (d+1))).put (some 66) (.list 3 (args.map ae))).put (some 67) (ah d)).put (some 68) (ah r))) (fun r=>r<=d) (fun r=>d-r) 0 (Nat.zero_le _) ?_
 rintro r L1 hr
 refine az ?_
 refine aC rfl ?_ ?_<;>intro x8 h69
 ·have nv:r<d:=by omega
  have hrt:=hA _ (dg (p:=args) (i:=r) J)
  have pU:(cr (gF k d pc args) ((c.drop (pc-d)).take (d+1)) r).length=d+1:=by rw [vH,pA]
  have apF:nO ((gF k d pc args) r) (cr (gF k d pc args) ((c.drop (pc-d)).take (d+1)) r) d=(cr (gF k d pc args) ((c.drop (pc-d)).take (d+1)) r):=ax1 _ _ _ J
  refine xT ?_
  refine dG (fun(j:Nat) L=>((((((((((((St.mk L.slot (hp [(0,⟨3,c.map ae,true⟩),(10,⟨3,[ae 0],true⟩),(58,⟨3,(nO ((gF k d pc args) r) (cr (gF k d pc args) ((c.drop (pc-d)).take (d+1)) r) j).map ae,true⟩),(14,⟨3,[ae (args.getD r 0)],true⟩)])).put (some 0) (.list 3 (k.map ae))).put (some 1) (ah d)).put (some 3) (ah pc)).put (some 10) (.aA 10 3 0 0)).put (some 12) (.ref 58 3 0 (d+1))).put (some 13) (ah r)).put (some 14) (.aA 14 3 0 0)).put (some 15) (ah j)).put (some 66) (.list 3 (args.map ae))).put (some 67) (ah d)).put (some 68) (ah r))) (fun j=>r<=j/\j<=d) (fun j=>j) d ⟨J,Nat.le_refl _⟩ ?_
  rintro j L2 ⟨hj1,g7⟩
  refine bf ?_
  refine aC rfl ?_ ?_<;>intro aua h76
  ·have hj3:r<j:=by omega
   have ewl:(nO ((gF k d pc args) r) (cr (gF k d pc args) ((c.drop (pc-d)).take (d+1)) r) j).length=d+1:=by rw [q7,pU]
   have ewj:(nO ((gF k d pc args) r) (cr (gF k d pc args) ((c.drop (pc-d)).take (d+1)) r) j).getD j 0=(cr (gF k d pc args) ((c.drop (pc-d)).take (d+1)) r).getD j 0:=by rw [vE _ _ _ _ J,if_neg J]
   have ewk:(nO ((gF k d pc args) r) (cr (gF k d pc args) ((c.drop (pc-d)).take (d+1)) r) j).getD (j-1) 0=(cr (gF k d pc args) ((c.drop (pc-d)).take (d+1)) r).getD (j-1) 0:=by rw [vE _ _ _ _ J,if_neg J]
   have hv1:=fR ai (hBR r J) j
   have hv2:=fR ai (hBR r J) (j-1)
   have hfq:rl ((gF k d pc args) r j)<=402:=h.fl hA hj3 J J
   have dL:=iq ((cr (gF k d pc args) ((c.drop (pc-d)).take (d+1)) r).getD j 0) ((cr (gF k d pc args) ((c.drop (pc-d)).take (d+1)) r).getD (j-1) 0)
   have hmf:=cO ((gF k d pc args) r j) ((cr (gF k d pc args) ((c.drop (pc-d)).take (d+1)) r).getD j 0-(cr (gF k d pc args) ((c.drop (pc-d)).take (d+1)) r).getD (j-1) 0)
   have aoD:=axk ((gF k d pc args) r) (cr (gF k d pc args) ((c.drop (pc-d)).take (d+1)) r) j J J
   have rX:=hG (pc-d+j) J
   have kT:=hG (pc+j-r) J
   have dt:av Tryz.prog 289 [ae (k.getD (pc-d+j) 0),ae (k.getD (pc+j-r) 0),ae (args.getD r 0)] (ae ((gF k d pc args) r j)):=auQ _ _ _ J (h.fr hj3 J)
   refine bf ?_
   refine ak rfl (.bin rfl rfl (wo (a:=pc) (b:=d) (c:=pc-d) J J)) ?_
   refine ar ?_
   refine ak rfl (.bin rfl rfl (tp (a:=pc-d) (b:=j) J)) ?_
   refine ax ?_
   refine aY 15 an ?_
   refine aR ?_
   refine ak rfl (.bin rfl rfl (tp (a:=pc-d+j) (b:=d) J)) ?_
   refine ar ?_
   refine ak rfl (.bin rfl rfl (wo (a:=pc-d+j+d) (b:=r) (c:=pc+j-r) J J)) ?_
   refine aJ ?_
   try simp only [t1,cy]
   refine cp fJ (dt) ?_
   refine ax ?_
   refine aY 21 an ?_
   refine ax ?_
   refine ak rfl jz ?_
   refine bq ?_
   refine ak rfl jz ?_
   refine aL ?_
   refine aH ?_
   refine cp aq (p6 ((cr (gF k d pc args) ((c.drop (pc-d)).take (d+1)) r).getD j 0) ((cr (gF k d pc args) ((c.drop (pc-d)).take (d+1)) r).getD (j-1) 0) J) ?_
   refine cp aq (gf ((gF k d pc args) r j) ((cr (gF k d pc args) ((c.drop (pc-d)).take (d+1)) r).getD j 0-(cr (gF k d pc args) ((c.drop (pc-d)).take (d+1)) r).getD (j-1) 0) J) ?_
   refine cp aq (iw ((cr (gF k d pc args) ((c.drop (pc-d)).take (d+1)) r).getD (j-1) 0) ((gF k d pc args) r j*((cr (gF k d pc args) ((c.drop (pc-d)).take (d+1)) r).getD j 0-(cr (gF k d pc args) ((c.drop (pc-d)).take (d+1)) r).getD (j-1) 0)) J) ?_
   refine aZ ?_
   refine cq (aw.kill _ 17) ?_
   refine ar ?_
   refine ak rfl jz ?_
   refine aJ ?_
   exact iJ (j-1) ⟨J,J⟩
  ·obtain rfl:r=j:=by omega
   refine az ?_
   refine cq (aw.kill _ 14) ?_
   refine ak rfl cB ?_
   refine aJ ?_
   exact iJ (r+1) J
 ·obtain rfl:d=r:=by omega
  have aq6:(cr (gF k d pc args) ((c.drop (pc-d)).take (d+1)) d).length=d+1:=by rw [vH,pA]
  refine bo ?_
  refine aH ?_
  refine ak rfl nQ ?_
  refine cp aq (hAd) ?_
  refine aZ ?_
  exact azj rfl rfl (ao.au _) (nK _) cJ (.cf (.pure (ao.pure _))) rfl (.cf (.pure rfl)) rfl rfl (aW ao _)
namespace arX
theorem aH {p q:Prop} (k:q) (e:p=q:=by simp only [e1,e2,e3,e4,p1,p2,p3,q1,q2,q3,l1,t0,t1,r1,r2,r3,r4,Nat.zero_add,Nat.reduceMul,Nat.reduceAdd,b1,b2,b3,b4,b5,b6,i1,i2,i3,i4,i5,i6,Nat.reduceBEq,oa,cX,tF,ect,wW,vZ,cy,List.drop_zero,List.take_zero,List.nil_append,List.length_map,List.length_replicate,abg,aP jv,List.set_cons_zero,List.set_cons_succ,Nat.reduceEqDiff,reduceIte,if_true,if_false,dU,eo,aP bg,aP bw,aP ao,cH,dO,LV.kill,bN];exact rfl):p:=e.mpr k
end arX
open arX in
theorem aAE (k:List Rat) (d pc:Nat) (C:List Q4) (args:List Rat) (R:Nat) (h:tN k d pc) (hC:C.length=k.length-d-1) (uT:args.length=d) (eN:1<=R) (hR:R<=10000000) (jA:∀ q∈C,n5 R q) (hA:∀ t∈args,rl t<=100):av Tryz.prog 243 [.agg [ah d,.list 3 (k.map ae),.list 12 (C.map cX)],ah pc,.list 3 (args.map ae)] (cX (lO k d pc C args)):=by
 have iM:=h.p1
 have pj:=h.p2
 have fY:=h.kl
 have hCp:0<C.length:=by omega
 have hC9:C.length<=100:=by omega
 have hpS:LV.pure (.agg [ah d,.list 3 (k.map ae),.list 12 (C.map cX)])=true:=by simp [LV.pure,aG,aW ao,aW jv]
 have qZ:=eB ao 3 k
 have tA:=eB ao 3 args
 have fX:∀ x∈(C.map (·.x)),rl x<=R:=fun x hx=>by
  obtain⟨q,hq,rfl⟩:=List.mem_map.1 hx
  exact(jA q hq).1
 have akC:=ae3 k d pc (C.map (·.x)) args R h (by rw [List.length_map,hC]) uT eN hR fX hA
 rw [show (C.map (·.x)).length=C.length from List.length_map _] at akC
 have iI:∀ x∈(C.map (·.y)),rl x<=R:=fun x hx=>by
  obtain⟨q,hq,rfl⟩:=List.mem_map.1 hx
  exact(jA q hq).2.1
 have arH:=ae3 k d pc (C.map (·.y)) args R h (by rw [List.length_map,hC]) uT eN hR iI hA
 rw [show (C.map (·.y)).length=C.length from List.length_map _] at arH
 have dY:∀ x∈(C.map (·.z)),rl x<=R:=fun x hx=>by
  obtain⟨q,hq,rfl⟩:=List.mem_map.1 hx
  exact(jA q hq).2.2.1
 have aia:=ae3 k d pc (C.map (·.z)) args R h (by rw [List.length_map,hC]) uT eN hR dY hA
 rw [show (C.map (·.z)).length=C.length from List.length_map _] at aia
 have n6:∀ x∈(C.map (·.w)),rl x<=R:=fun x hx=>by
  obtain⟨q,hq,rfl⟩:=List.mem_map.1 hx
  exact(jA q hq).2.2.2
 have alo:=ae3 k d pc (C.map (·.w)) args R h (by rw [List.length_map,hC]) uT eN hR n6 hA
 rw [show (C.map (·.w)).length=C.length from List.length_map _] at alo
 refine aN Tryz.func243 (ht:=(fun g=>LV.cP g _ (jv.pure _))) ?_
 have tF:True:=trivial
 have ect:True:=trivial
 have wW:True:=trivial
 have vZ:True:=trivial
 refine mH ?_
 refine eI rfl rfl (.kK (n:=C.length) (m:=C.length) ml ml om om om) ?_
 refine bB ?_
 refine bF ?_
 refine az ?_
 refine bY (b:=_) rfl ai ?_
 refine nj ?_
 refine dG (fun(i:Nat) L=>((((((((((((St.mk L.slot (hp [(3,⟨3,[.agg [ah d,.list 3 (k.map ae),.list 12 (C.map cX)]],true⟩),(6,⟨12,[.agg [ae 0,ae 0,ae 0,ae 0]],true⟩),(7,⟨12,[.agg [ae 0,ae 0,ae 0,ae 0]],true⟩),(15,⟨3,((C.map (·.x)).take i++(List.replicate C.length (0:Rat)).drop i).map ae,true⟩)])).put (some 1) (ah pc)).put (some 2) (.list 3 (args.map ae))).put (some 3) (.aA 3 3 0 0)).put (some 6) (.aA 6 12 0 0)).put (some 7) (.aA 7 12 0 0)).put (some 8) (.ref 15 3 0 C.length)).put (some 9) (ah 0)).put (some 16) (ah 0)).put (some 20) (.list 12 (C.map cX))).put (some 21) (ah C.length)).put (some 22) (ah i))) (fun i=>i<=C.length) (fun i=>C.length-i) 0 (Nat.zero_le _) ?_
 rintro i L2 hi
 refine az ?_
 refine aC rfl ?_ ?_<;>intro p7 oS
 ·have dA:i<C.length:=by omega
  have vZ:=aea (C:=C) (i:=i) J (·.x)
  have ect:((C.map (·.x)).take i++(List.replicate C.length (0:Rat)).drop i).set i ((C.getD i default).x)=(C.map (·.x)).take (i+1)++(List.replicate C.length (0:Rat)).drop (i+1):=by
   rw [<-vZ]
   exact aer aO bm
  have tF:((C.map (·.x)).take i++(List.replicate C.length (0:Rat)).drop i).length=C.length:=by rw [af3 aO bm];simp
  refine tk ?_
  refine cq (aw.kill _ 11) ?_
  refine ak rfl cB ?_
  refine aJ ?_
  exact jS
 ·obtain rfl:i=C.length:=by omega
  have wW:(C.map (·.x)).take C.length++(List.replicate C.length (0:Rat)).drop C.length=(C.map (·.x)):=aeO aO aO
  try simp only [wW]
  refine dj ?_
  refine aeI 15 rfl rfl rfl (aW ao _) (.cons (.cf (.pure qZ)) (.cons (.cf (.pure rfl)) (.cons .ref (.cons (.cf (.pure rfl)) (.cons (.cf (.pure tA)) .nil))))) (.tl (.tl (.ref hCp))) akC rfl (aW ao _) (jh (ao.pure _) rfl) ?_
  refine dp ?_
  refine bF ?_
  refine az ?_
  refine bY (b:=_) rfl ai ?_
  refine nj ?_
  refine dG (fun(i:Nat) L=>((((((((((((St.mk L.slot (hp [(3,⟨3,[.agg [ah d,.list 3 (k.map ae),.list 12 (C.map cX)]],true⟩),(6,⟨12,[.agg [ae 0,ae 0,ae 0,ae 0]],true⟩),(7,⟨12,[.agg [ae (da k d pc (C.map (·.x)) args),ae 0,ae 0,ae 0]],true⟩),(15,⟨3,((C.map (·.y)).take i++(C.map (·.x)).drop i).map ae,true⟩)])).put (some 1) (ah pc)).put (some 2) (.list 3 (args.map ae))).put (some 3) (.aA 3 3 0 0)).put (some 6) (.aA 6 12 0 0)).put (some 7) (.aA 7 12 0 0)).put (some 8) (.ref 15 3 0 C.length)).put (some 9) (ah 1)).put (some 16) (ah 1)).put (some 20) (.list 12 (C.map cX))).put (some 21) (ah C.length)).put (some 22) (ah i))) (fun i=>i<=C.length) (fun i=>C.length-i) 0 (Nat.zero_le _) ?_
  rintro i L2 hi
  refine az ?_
  refine aC rfl ?_ ?_<;>intro p7 oS
  ·have dA:i<C.length:=by omega
   have vZ:=aea (C:=C) (i:=i) J (·.y)
   have ect:((C.map (·.y)).take i++(C.map (·.x)).drop i).set i ((C.getD i default).y)=(C.map (·.y)).take (i+1)++(C.map (·.x)).drop (i+1):=by
    rw [<-vZ]
    exact aer aO bm
   have tF:((C.map (·.y)).take i++(C.map (·.x)).drop i).length=C.length:=by rw [af3 aO bm];simp
   refine tk ?_
   refine cq (aw.kill _ 11) ?_
   refine ak rfl cB ?_
   refine aJ ?_
   exact jS
  ·obtain rfl:i=C.length:=by omega
   have wW:(C.map (·.y)).take C.length++(C.map (·.x)).drop C.length=(C.map (·.y)):=aeO aO aO
   try simp only [wW]
   refine dj ?_
   refine aeI 15 rfl rfl rfl (aW ao _) (.cons (.cf (.pure qZ)) (.cons (.cf (.pure rfl)) (.cons .ref (.cons (.cf (.pure rfl)) (.cons (.cf (.pure tA)) .nil))))) (.tl (.tl (.ref hCp))) arH rfl (aW ao _) (jh (ao.pure _) rfl) ?_
   refine dp ?_
   refine bF ?_
   refine az ?_
   refine bY (b:=_) rfl ai ?_
   refine nj ?_
   refine dG (fun(i:Nat) L=>((((((((((((St.mk L.slot (hp [(3,⟨3,[.agg [ah d,.list 3 (k.map ae),.list 12 (C.map cX)]],true⟩),(6,⟨12,[.agg [ae 0,ae 0,ae 0,ae 0]],true⟩),(7,⟨12,[.agg [ae (da k d pc (C.map (·.x)) args),ae (da k d pc (C.map (·.y)) args),ae 0,ae 0]],true⟩),(15,⟨3,((C.map (·.z)).take i++(C.map (·.y)).drop i).map ae,true⟩)])).put (some 1) (ah pc)).put (some 2) (.list 3 (args.map ae))).put (some 3) (.aA 3 3 0 0)).put (some 6) (.aA 6 12 0 0)).put (some 7) (.aA 7 12 0 0)).put (some 8) (.ref 15 3 0 C.length)).put (some 9) (ah 2)).put (some 16) (ah 2)).put (some 20) (.list 12 (C.map cX))).put (some 21) (ah C.length)).put (some 22) (ah i))) (fun i=>i<=C.length) (fun i=>C.length-i) 0 (Nat.zero_le _) ?_
   rintro i L2 hi
   refine az ?_
   refine aC rfl ?_ ?_<;>intro p7 oS
   ·have dA:i<C.length:=by omega
    have vZ:=aea (C:=C) (i:=i) J (·.z)
    have ect:((C.map (·.z)).take i++(C.map (·.y)).drop i).set i ((C.getD i default).z)=(C.map (·.z)).take (i+1)++(C.map (·.y)).drop (i+1):=by
     rw [<-vZ]
     exact aer aO bm
    have tF:((C.map (·.z)).take i++(C.map (·.y)).drop i).length=C.length:=by rw [af3 aO bm];simp
    refine tk ?_
    refine cq (aw.kill _ 11) ?_
    refine ak rfl cB ?_
    refine aJ ?_
    exact jS
   ·obtain rfl:i=C.length:=by omega
    have wW:(C.map (·.z)).take C.length++(C.map (·.y)).drop C.length=(C.map (·.z)):=aeO aO aO
    try simp only [wW]
    refine dj ?_
    refine aeI 15 rfl rfl rfl (aW ao _) (.cons (.cf (.pure qZ)) (.cons (.cf (.pure rfl)) (.cons .ref (.cons (.cf (.pure rfl)) (.cons (.cf (.pure tA)) .nil))))) (.tl (.tl (.ref hCp))) aia rfl (aW ao _) (jh (ao.pure _) rfl) ?_
    refine dp ?_
    refine bF ?_
    refine az ?_
    refine bY (b:=_) rfl ai ?_
    refine nj ?_
    refine dG (fun(i:Nat) L=>((((((((((((St.mk L.slot (hp [(3,⟨3,[.agg [ah d,.list 3 (k.map ae),.list 12 (C.map cX)]],true⟩),(6,⟨12,[.agg [ae 0,ae 0,ae 0,ae 0]],true⟩),(7,⟨12,[.agg [ae (da k d pc (C.map (·.x)) args),ae (da k d pc (C.map (·.y)) args),ae (da k d pc (C.map (·.z)) args),ae 0]],true⟩),(15,⟨3,((C.map (·.w)).take i++(C.map (·.z)).drop i).map ae,true⟩)])).put (some 1) (ah pc)).put (some 2) (.list 3 (args.map ae))).put (some 3) (.aA 3 3 0 0)).put (some 6) (.aA 6 12 0 0)).put (some 7) (.aA 7 12 0 0)).put (some 8) (.ref 15 3 0 C.length)).put (some 9) (ah 3)).put (some 16) (ah 3)).put (some 20) (.list 12 (C.map cX))).put (some 21) (ah C.length)).put (some 22) (ah i))) (fun i=>i<=C.length) (fun i=>C.length-i) 0 (Nat.zero_le _) ?_
    rintro i L2 hi
    refine az ?_
    refine aC rfl ?_ ?_<;>intro p7 oS
    ·have dA:i<C.length:=by omega
     have vZ:=aea (C:=C) (i:=i) J (·.w)
     have ect:((C.map (·.w)).take i++(C.map (·.z)).drop i).set i ((C.getD i default).w)=(C.map (·.w)).take (i+1)++(C.map (·.z)).drop (i+1):=by
      rw [<-vZ]
      exact aer aO bm
     have tF:((C.map (·.w)).take i++(C.map (·.z)).drop i).length=C.length:=by rw [af3 aO bm];simp
     refine tk ?_
     refine cq (aw.kill _ 11) ?_
     refine ak rfl cB ?_
     refine aJ ?_
     exact jS
    ·obtain rfl:i=C.length:=by omega
     have wW:(C.map (·.w)).take C.length++(C.map (·.z)).drop C.length=(C.map (·.w)):=aeO aO aO
     try simp only [wW]
     refine dj ?_
     refine aeI 15 rfl rfl rfl (aW ao _) (.cons (.cf (.pure qZ)) (.cons (.cf (.pure rfl)) (.cons .ref (.cons (.cf (.pure rfl)) (.cons (.cf (.pure tA)) .nil))))) (.tl (.tl (.ref hCp))) alo rfl (aW ao _) (jh (ao.pure _) rfl) ?_
     refine dp ?_
     refine bF ?_
     refine az ?_
     refine eE (b:=_) rfl ai ?_
     refine bu ?_
     exact fW [] rfl rfl rfl cs (dJ cs rfl) yJ (.pure (jv.pure (lO k d pc C args)))
theorem ark {α:Type} (f:Nat->α) (j:Nat):(List.range j).map f++[f j]=(List.range (j+1)).map f:=by rw [List.range_succ,List.map_append];rfl
namespace ald
theorem aH {p q:Prop} (k:q) (e:p=q:=by simp only [e1,e2,e3,e4,p1,p2,p3,q1,q2,q3,l1,t0,t1,r1,r2,r3,r4,Nat.zero_add,Nat.reduceMul,Nat.reduceAdd,b1,b2,b3,b4,b5,b6,i1,i2,i3,i4,i5,i6,Nat.reduceBEq,gr,fB,ejd,cy,List.length_map,List.length_range,kW,kJ,iA,List.length_cons,List.length_nil,List.nil_append,List.map_nil,List.take_nil,List.append_nil,abg,aP jv,List.set_cons_zero,List.set_cons_succ,Nat.reduceEqDiff,reduceIte,if_true,if_false,dU,eo,aP bg,aP bw,aP ao,cH,dO,LV.kill,bN];exact rfl):p:=e.mpr k
end ald
open ald in
theorem amg (k w:List Rat) (d N:Nat) (C:List Q4) (R:Nat) (I A:Nat->Nat) (hN0:0<N) (hw:w.length=N+d+1) (gO:w.length<=100) (hwr:∀ x∈w,rl x<=100) (hC:C.length=k.length-d-1) (eN:1<=R) (hR:R<=10000000) (jA:∀ q∈C,n5 R q) (hIl:∀ j,j<N->I j<w.length) (hG:∀ j,j<N->tN k d (A j)) (hPc:∀ j,j<N->av Tryz.prog 241 [.list 3 (w.map ae),ah j] (ah (I j))) (hIv:∀ j,j<N->av Tryz.prog 242 [.list 3 (k.map ae),ah d,ae (w.getD (I j) 0)] (.a7 [ah (A j),iL 0])):av Tryz.prog 160 [.agg [ah d,.list 3 (k.map ae),.list 12 (C.map cX)],.list 3 (w.map ae)] (.agg [ah d,.list 3 (w.map ae),.list 12 (((List.range N).map fun j=>lO k d (A j) C ((w.drop (j+1)).take d)).map cX)]):=by
 have hpS:LV.pure (.agg [ah d,.list 3 (k.map ae),.list 12 (C.map cX)])=true:=by simp [LV.pure,aG,aW ao,aW jv]
 have qZ:=eB ao 3 w
 have hN9:N<=100:=by omega
 have hd9:d<=100:=by omega
 have hKP:=ahs w d J J
 rw [show w.length-d-1=N by omega] at hKP
 refine aN Tryz.func160 (ht:=(fun g=>LV.cP g _ (by simp [LV.pure,aG,aW ao,aW jv,-List.map_map]))) ?_
 have gr:True:=trivial
 have fB:True:=trivial
 have ejd:True:=trivial
 refine agJ ?_
 refine cp aq (hKP) ?_
 refine ax ?_
 refine ju ((aw.cell 5 rfl (fun Z μ w cs h=>ab8 51 12 _ _ Z μ w cs h)).trans (aw.tH _ 51 12 rfl)) ?_
 refine dG (fun(j:Nat) L=>(((((((St.mk L.slot (hp [(2,⟨3,[.agg [ah d,.list 3 (k.map ae),.list 12 (C.map cX)]],true⟩),(4,⟨3,[.agg [.v (.int .i64 0),.v (.slice none 0 0),.v (.slice none 0 0)]],true⟩),(5,⟨3,[.agg [ah d,.list 3 (w.map ae),.ref 51 12 0 j]],true⟩),(51,⟨12,((List.range j).map fun j=>lO k d (A j) C ((w.drop (j+1)).take d)).map cX,true⟩)])).put (some 1) (.list 3 (w.map ae))).put (some 2) (.aA 2 3 0 0)).put (some 4) (.aA 4 3 0 0)).put (some 5) (.aA 5 3 0 0)).put (some 17) (ah N)).put (some 18) (ah j))) (fun j=>j<=N) (fun j=>N-j) 0 (Nat.zero_le _) ?_
 rintro j L1 hj
 refine az ?_
 refine aC rfl ?_ ?_<;>intro ae8 h19
 ·have g7:j<N:=by omega
  have gr:((List.range j).map fun j=>lO k d (A j) C ((w.drop (j+1)).take d))++[(lO k d (A j) C ((w.drop (j+1)).take d))]=((List.range (j+1)).map fun j=>lO k d (A j) C ((w.drop (j+1)).take d)):=ark (fun j=>(lO k d (A j) C ((w.drop (j+1)).take d))) j
  have fB:(((List.range j).map fun j=>lO k d (A j) C ((w.drop (j+1)).take d)).map cX).take j=((List.range j).map fun j=>lO k d (A j) C ((w.drop (j+1)).take d)).map cX:=List.take_of_length_le aO
  have ejd:(w.take (j+d+1)).drop (j+1)=(w.drop (j+1)).take d:=by
   rw [List.drop_take]
   congr 1
   omega
  have ayE:=hPc j g7
  have axW:=hIv j g7
  have aEp:=hIl j g7
  have hPo:=aAE k d (A j) C ((w.drop (j+1)).take d) R (hG j g7) hC (by rw [List.length_take,List.length_drop];omega) eN hR jA (fun t ht=>hwr t (List.mem_of_mem_drop (List.mem_of_mem_take ht)))
  refine dj ?_
  refine cp aq (ayE) ?_
  refine ax ?_
  refine aY 14 an ?_
  refine bf ?_
  try simp only [t1,cy]
  refine cp fJ (axW) ?_
  refine aR ?_
  refine aY 15 an ?_
  refine az ?_
  refine ak rfl cB ?_
  refine aJ ?_
  refine ak rfl (.bin rfl rfl (tp (a:=j) (b:=d) J)) ?_
  refine ak rfl cB ?_
  refine ak rfl (.agr (a:=j+1) (h:=j+d+1) ao rfl Tryz.underlying25 cJ rfl rfl om om) ?_
  refine aH ?_
  refine cp fJ (hPo) ?_
  refine ar ?_
  refine bI rfl (.ga (d:=51) (news:=[cX (lO k d (A j) C ((w.drop (j+1)).take d))]) rfl rfl rfl rfl aO (.inl rfl) ai Tryz.underlying137 Tryz.underlying137 aew yJ cs aoc (.inl ⟨50,0,_,rfl,by decide,rfl,rfl,by simp,rfl,by simp [aG,jv.pure]⟩) bm bm ai) ?_
  refine aZ ?_
  refine cq (aw.kill _ 50) ?_
  refine ak rfl cB ?_
  refine aJ ?_
  exact vF
 ·obtain rfl:j=N:=by omega
  refine bu ?_
  exact fW [51] rfl rfl rfl cs (dJ cs rfl) afg (.agg (.cons (.pure rfl) (.cons (.pure qZ) (.cons (eM (l:=((List.range j).map fun j=>lO k d (A j) C ((w.drop (j+1)).take d))) jv rfl rfl aO) .nil))))
namespace amF
theorem aH {p q:Prop} (k:q) (e:p=q:=by simp only [e1,e2,e3,e4,p1,p2,p3,q1,q2,q3,l1,t0,t1,r1,r2,r3,r4,Nat.zero_add,Nat.reduceMul,Nat.reduceAdd,b1,b2,b3,b4,b5,b6,i1,i2,i3,i4,i5,i6,Nat.reduceBEq,hK0,hK1,hK2,rW,hiy,eal,ebl,eap,ebp,ag8,hmj,List.replicate_zero,Nat.add_zero,cy,List.getD_cons_zero,List.getD_cons_succ,List.length_map,List.length_replicate,kW,kJ,iA,List.length_cons,List.length_nil,List.nil_append,List.map_nil,List.take_nil,List.append_nil,abg,aP jv,List.set_cons_zero,List.set_cons_succ,Nat.reduceEqDiff,reduceIte,if_true,if_false,dU,eo,aP bg,aP bw,aP ao,cH,dO,LV.kill,bN];exact rfl):p:=e.mpr k
end amF
open amF in
theorem aiw (k w:List Rat) (d:Nat) (C C2:List Q4) (a b:Rat) (ea eb:Bool) (na nb:Nat) (KA KB:Nat->List Rat) (f1 l2:Nat) (hd:d<=6) (ha:rl a<=100) (hb:rl b<=100) (h1k:0<k.length) (fY:k.length<=100) (jb:∀ x∈k,rl x<=100) (hK0:KA 0=k) (hK1:KA na=KB 0) (hK2:KB nb=w) (hBl:0<(KB 0).length) (aia:(KB 0).length<=100) (hBr:∀ x∈KB 0,rl x<=100) (gO:w.length<=100) (hea:(decide (a=k.getD 0 0) || decide (a=k.getD (k.length-1) 0))=ea) (heb:(decide (b=(KB 0).getD 0 0) || decide (b=(KB 0).getD ((KB 0).length-1) 0))=eb) (hna:na<=d) (xx:nb<=d) (uU:ea=true->na=0) (hzb:eb=true->nb=0) (hTA:ea=false->∀ n,n<=na->av Tryz.prog 158 [.list 3 ((KA n).map ae),ae a] (ah (d-(na-n)))) (hTB:eb=false->∀ n,n<=nb->av Tryz.prog 158 [.list 3 ((KB n).map ae),ae b] (ah (d-(nb-n)))) (hIA:∀ n,n<na->av Tryz.prog 159 [.list 3 ((KA n).map ae),ae a] (.list 3 ((KA (n+1)).map ae))) (hIB:∀ n,n<nb->av Tryz.prog 159 [.list 3 ((KB n).map ae),ae b] (.list 3 ((KB (n+1)).map ae))) (hO:av Tryz.prog 160 [.agg [ah d,.list 3 (k.map ae),.list 12 (C.map cX)],.list 3 (w.map ae)] (.agg [ah d,.list 3 (w.map ae),.list 12 (C2.map cX)])) (pC:av Tryz.prog 161 [.list 3 (w.map ae),.cV 162 [.bV (ae a)]] (ah f1)) (pz:av Tryz.prog 161 [.list 3 (w.map ae),.cV 163 [.bV (ae b)]] (ah l2)) (zh:d+1<=f1) (oJ:f1<=l2) (mc:l2<=C2.length) (lf:C2.length<=w.length):av Tryz.prog 86 [.agg [ah d,.list 3 (k.map ae),.list 12 (C.map cX)],ae a,ae b] (.agg [ah d,.list 3 ((List.replicate (d+1) a++((w.take l2).drop f1)++List.replicate (d+1) b).map ae),.list 12 (((C2.take l2).drop (f1-1-d)).map cX)]):=by
 have hpS:LV.pure (.agg [ah d,.list 3 (k.map ae),.list 12 (C.map cX)])=true:=by simp [LV.pure,aG,aW ao,aW jv]
 have xc:=eB ao 3 w
 have rW:((k.length:Int)-1).toNat=k.length-1:=by omega
 have hiy:(((KB 0).length:Int)-1).toNat=(KB 0).length-1:=by omega
 have o8:=jb _ (dg (p:=k) (i:=0) J)
 have l9:=jb _ (dg (p:=k) (i:=k.length-1) J)
 have y9:=hBr _ (dg (p:=KB 0) (i:=0) J)
 have uB:=hBr _ (dg (p:=KB 0) (i:=(KB 0).length-1) J)
 have hmj:(List.replicate (d+1) a).map ae++((w.take l2).drop f1).map ae=(List.replicate (d+1) a++((w.take l2).drop f1)).map ae:=List.map_append.symm
 have ag8:((w.take l2).drop f1).length=l2-f1:=by rw [List.length_drop,List.length_take];omega
 have aAQ:=v7 a (k.getD 0 0) J
 have azQ:=v7 a (k.getD (k.length-1) 0) J
 have atF:=v7 b ((KB 0).getD 0 0) J
 have axt:=v7 b ((KB 0).getD ((KB 0).length-1) 0) J
 refine aN Tryz.func86 (ht:=(fun g=>LV.cP g _ (by simp [LV.pure,aG,aW ao,aW jv,-List.map_append,-List.map_drop,-List.map_take]))) ?_
 have eal:True:=trivial
 have ebl:True:=trivial
 have eap:True:=trivial
 have ebp:True:=trivial
 refine tk ?_
 refine bF ?_
 refine az ?_
 refine bY (b:=_) rfl ai ?_
 refine bu ?_
 refine fZ (fun L=>∃  (L1:St),(True)/\L=((((((((((St.mk L1.slot (hp [(3,⟨3,[.agg [ah d,.list 3 (k.map ae),.list 12 (C.map cX)]],true⟩),(4,⟨3,[ae a],true⟩),(5,⟨3,[ae b],true⟩),(6,⟨3,[.agg [.v (.int .i64 0),.v (.slice none 0 0),.v (.slice none 0 0)]],true⟩),(9,⟨3,[ae a],true⟩)])).put (some 3) (.aA 3 3 0 0)).put (some 4) (.aA 4 3 0 0)).put (some 5) (.aA 5 3 0 0)).put (some 6) (.aA 6 3 0 0)).put (some 7) (.list 3 (k.map ae))).put (some 9) (.aA 9 3 0 0)).put (some 10) (bL ea)).put (some 19) (.agg [ae a,ae b])).put (some 20) (ah 0))) ?_ ?_
 ·refine aY 16 an ?_
  refine ax ?_
  try refine aH ?_
  refine cp aq (aAQ) ?_
  refine ar ?_
  refine dy 28 rfl ?_ ?_<;>intro uJ ow
  ·first | (have lF:bL ea=bL true:=by rw [<-hea,decide_eq_true ow,Bool.true_or]) | (have lF:bL eb=bL true:=by rw [<-heb,decide_eq_true ow,Bool.true_or])
   refine aR ?_
   try refine aH ?_
   refine aZ ?_
   exact⟨_,trivial,((aj (aj (aj (aj (aj (aj (aj (aj (aj (bC cl) cl) cl) cl) cl) cl) cl) (by first | exact lF | exact lF.symm | (refine aH ?_;first | exact lF | exact lF.symm))) cl) cl)).symm⟩
  ·first | (have lF:bL ea=bL (decide (a=k.getD (k.length-1) 0)):=by rw [<-hea,decide_eq_false ow,Bool.false_or]) | (have lF:bL eb=bL (decide (b=(KB 0).getD ((KB 0).length-1) 0)):=by rw [<-heb,decide_eq_false ow,Bool.false_or])
   refine ax ?_
   refine ak (a6 (v:=false) rfl rfl (uJ) rfl) (.bin rfl rfl (abU J J)) ?_
   refine aL ?_
   try refine aH ?_
   refine cp aq (azQ) ?_
   refine ax ?_
   exact⟨_,trivial,((aj (aj (aj (aj (aj (aj (aj (aj (aj (bC cl) cl) cl) cl) cl) cl) cl) (by first | exact lF | exact lF.symm | (refine aH ?_;first | exact lF | exact lF.symm))) cl) cl)).symm⟩
 ·rintro _ ⟨LR5,-,rfl⟩
  refine ar ?_
  refine fZ (fun L=>∃  (L1:St),(True)/\L=((((((((St.mk L1.slot (hp [(3,⟨3,[.agg [ah d,.list 3 (k.map ae),.list 12 (C.map cX)]],true⟩),(4,⟨3,[ae a],true⟩),(5,⟨3,[ae b],true⟩),(6,⟨3,[.agg [.v (.int .i64 0),.v (.slice none 0 0),.v (.slice none 0 0)]],true⟩),(9,⟨3,[ae a],true⟩)])).put (some 3) (.aA 3 3 0 0)).put (some 4) (.aA 4 3 0 0)).put (some 5) (.aA 5 3 0 0)).put (some 6) (.aA 6 3 0 0)).put (some 7) (.list 3 ((KB 0).map ae))).put (some 19) (.agg [ae a,ae b])).put (some 20) (ah 0))) ?_ ?_
  ·refine ar ?_
   refine dG (fun(n:Nat) L=>((((((((((St.mk L.slot (hp [(3,⟨3,[.agg [ah d,.list 3 (k.map ae),.list 12 (C.map cX)]],true⟩),(4,⟨3,[ae a],true⟩),(5,⟨3,[ae b],true⟩),(6,⟨3,[.agg [.v (.int .i64 0),.v (.slice none 0 0),.v (.slice none 0 0)]],true⟩),(9,⟨3,[ae a],true⟩)])).put (some 3) (.aA 3 3 0 0)).put (some 4) (.aA 4 3 0 0)).put (some 5) (.aA 5 3 0 0)).put (some 6) (.aA 6 3 0 0)).put (some 7) (.list 3 ((KA n).map ae))).put (some 9) (.aA 9 3 0 0)).put (some 10) (bL ea)).put (some 19) (.agg [ae a,ae b])).put (some 20) (ah 0))) (fun n=>n<=na) (fun n=>na-n) 0 (Nat.zero_le _) ?_
   rintro n L2 hn
   refine aL ?_
   refine aY 10 an ?_
   refine aJ ?_
   refine dy 40 rfl ?_ ?_<;>intro ahy um
   ·refine aL ?_
    refine cp aq (hTA (by simpa using um) n hn) ?_
    refine az ?_
    refine aC rfl ?_ ?_<;>intro acJ h47
    ·have lI:n<na:=by
      have h1:=um
      rcases Nat.lt_or_ge n na with g | g
      ·exact g
      ·exfalso;omega
     have nd:=hIA n lI
     refine az ?_
     refine cp aq (nd) ?_
     refine ax ?_
     exact iJ (n+1) J
    ·obtain rfl:n=na:=by first | omega | (have:=uU (by simpa using um);omega)
     refine aZ ?_
     exact ae0
   ·obtain rfl:n=na:=by have:=uU um;omega
    refine gy ?_
    exact ae0
  ·rintro _ ⟨LB2,-,rfl⟩
   refine aL ?_
   refine cq (aw.kill _ 9) ?_
   refine ax ?_
   refine bF ?_
   refine az ?_
   refine bY (b:=_) rfl ai ?_
   refine bu ?_
   refine fZ (fun L=>∃  (L1:St),(True)/\L=((((((((((St.mk L1.slot (hp [(3,⟨3,[.agg [ah d,.list 3 (k.map ae),.list 12 (C.map cX)]],true⟩),(4,⟨3,[ae a],true⟩),(5,⟨3,[ae b],true⟩),(6,⟨3,[.agg [.v (.int .i64 0),.v (.slice none 0 0),.v (.slice none 0 0)]],true⟩),(9,⟨3,[ae b],true⟩)])).put (some 3) (.aA 3 3 0 0)).put (some 4) (.aA 4 3 0 0)).put (some 5) (.aA 5 3 0 0)).put (some 6) (.aA 6 3 0 0)).put (some 7) (.list 3 ((KB 0).map ae))).put (some 9) (.aA 9 3 0 0)).put (some 10) (bL eb)).put (some 19) (.agg [ae a,ae b])).put (some 20) (ah 1))) ?_ ?_
   ·refine aY 16 an ?_
    refine ax ?_
    try refine aH ?_
    refine cp aq (atF) ?_
    refine ar ?_
    refine dy 28 rfl ?_ ?_<;>intro uJ ow
    ·first | (have lF:bL ea=bL true:=by rw [<-hea,decide_eq_true ow,Bool.true_or]) | (have lF:bL eb=bL true:=by rw [<-heb,decide_eq_true ow,Bool.true_or])
     refine aR ?_
     try refine aH ?_
     refine aZ ?_
     exact⟨_,trivial,((aj (aj (aj (aj (aj (aj (aj (aj (aj (bC cl) cl) cl) cl) cl) cl) cl) (by first | exact lF | exact lF.symm | (refine aH ?_;first | exact lF | exact lF.symm))) cl) cl)).symm⟩
    ·first | (have lF:bL ea=bL (decide (a=k.getD (k.length-1) 0)):=by rw [<-hea,decide_eq_false ow,Bool.false_or]) | (have lF:bL eb=bL (decide (b=(KB 0).getD ((KB 0).length-1) 0)):=by rw [<-heb,decide_eq_false ow,Bool.false_or])
     refine ax ?_
     refine ak (a6 (v:=false) rfl rfl (uJ) rfl) (.bin rfl rfl (abU J J)) ?_
     refine aL ?_
     try refine aH ?_
     refine cp aq (axt) ?_
     refine ax ?_
     exact⟨_,trivial,((aj (aj (aj (aj (aj (aj (aj (aj (aj (bC cl) cl) cl) cl) cl) cl) cl) (by first | exact lF | exact lF.symm | (refine aH ?_;first | exact lF | exact lF.symm))) cl) cl)).symm⟩
   ·rintro _ ⟨LR5,-,rfl⟩
    refine ar ?_
    refine fZ (fun L=>∃  (L1:St),(True)/\L=((((((((St.mk L1.slot (hp [(3,⟨3,[.agg [ah d,.list 3 (k.map ae),.list 12 (C.map cX)]],true⟩),(4,⟨3,[ae a],true⟩),(5,⟨3,[ae b],true⟩),(6,⟨3,[.agg [.v (.int .i64 0),.v (.slice none 0 0),.v (.slice none 0 0)]],true⟩),(9,⟨3,[ae b],true⟩)])).put (some 3) (.aA 3 3 0 0)).put (some 4) (.aA 4 3 0 0)).put (some 5) (.aA 5 3 0 0)).put (some 6) (.aA 6 3 0 0)).put (some 7) (.list 3 (w.map ae))).put (some 19) (.agg [ae a,ae b])).put (some 20) (ah 1))) ?_ ?_
    ·refine ar ?_
     refine dG (fun(n:Nat) L=>((((((((((St.mk L.slot (hp [(3,⟨3,[.agg [ah d,.list 3 (k.map ae),.list 12 (C.map cX)]],true⟩),(4,⟨3,[ae a],true⟩),(5,⟨3,[ae b],true⟩),(6,⟨3,[.agg [.v (.int .i64 0),.v (.slice none 0 0),.v (.slice none 0 0)]],true⟩),(9,⟨3,[ae b],true⟩)])).put (some 3) (.aA 3 3 0 0)).put (some 4) (.aA 4 3 0 0)).put (some 5) (.aA 5 3 0 0)).put (some 6) (.aA 6 3 0 0)).put (some 7) (.list 3 ((KB n).map ae))).put (some 9) (.aA 9 3 0 0)).put (some 10) (bL eb)).put (some 19) (.agg [ae a,ae b])).put (some 20) (ah 1))) (fun n=>n<=nb) (fun n=>nb-n) 0 (Nat.zero_le _) ?_
     rintro n L2 hn
     refine aL ?_
     refine aY 10 an ?_
     refine aJ ?_
     refine dy 40 rfl ?_ ?_<;>intro ahy um
     ·refine aL ?_
      refine cp aq (hTB (by simpa using um) n hn) ?_
      refine az ?_
      refine aC rfl ?_ ?_<;>intro acJ h47
      ·have lI:n<nb:=by
        have h1:=um
        rcases Nat.lt_or_ge n nb with g | g
        ·exact g
        ·exfalso;omega
       have nd:=hIB n lI
       refine az ?_
       refine cp aq (nd) ?_
       refine ax ?_
       exact iJ (n+1) J
      ·obtain rfl:n=nb:=by first | omega | (have:=hzb (by simpa using um);omega)
       refine aZ ?_
       exact ae0
     ·obtain rfl:n=nb:=by have:=hzb um;omega
      refine gy ?_
      exact ae0
    ·rintro _ ⟨LB2,-,rfl⟩
     refine aL ?_
     refine cq (aw.kill _ 9) ?_
     refine ax ?_
     refine bF ?_
     refine az ?_
     refine eE (b:=_) rfl ai ?_
     refine bq ?_
     refine cp aq (hO) ?_
     refine nj ?_
     refine mG [4] rfl rfl (.mk (caps:=[.bV (ae a)]) (.cons (.aA rfl rfl rfl (ao.au _) (nK _) (ao.pure _) rfl) .nil) (fun x hx=>by rw [List.mem_singleton.1 hx];exact⟨rfl,rfl⟩)) rfl ?_
     refine gL rfl (.cons (.pure xc) (.cons (.pure (show LV.pure (.cV 162 [.bV (ae a)])=true by simp [LV.pure,aG,ao.pure])) .nil)) (pC) ?_
     refine ak rfl jz ?_
     refine az ?_
     refine mG [5] rfl rfl (.mk (caps:=[.bV (ae b)]) (.cons (.aA rfl rfl rfl (ao.au _) (nK _) (ao.pure _) rfl) .nil) (fun x hx=>by rw [List.mem_singleton.1 hx];exact⟨rfl,rfl⟩)) rfl ?_
     refine gL rfl (.cons (.pure xc) (.cons (.pure (show LV.pure (.cV 163 [.bV (ae b)])=true by simp [LV.pure,aG,ao.pure])) .nil)) (pz) ?_
     refine bf ?_
     refine ak rfl cB ?_
     refine ax ?_
     refine ju ((aw.cell 12 rfl (fun Z μ w cs h=>ali 74 3 _ _ Z μ w cs h)).trans (aw.tH _ 74 3 rfl)) ?_
     refine dG (fun(m:Nat) L=>((((((((((((St.mk L.slot (hp [(3,⟨3,[.agg [ah d,.list 3 (k.map ae),.list 12 (C.map cX)]],true⟩),(4,⟨3,[ae a],false⟩),(5,⟨3,[ae b],false⟩),(6,⟨3,[.agg [.v (.int .i64 0),.v (.slice none 0 0),.v (.slice none 0 0)]],true⟩),(11,⟨3,[.agg [ah d,.list 3 (w.map ae),.list 12 (C2.map cX)]],true⟩),(12,⟨3,[.agg [ah d,.ref 74 3 0 m,.v (.slice none 0 0)]],true⟩),(74,⟨3,(List.replicate m a).map ae,true⟩)])).put (some 3) (.aA 3 3 0 0)).put (some 4) (.aA 4 3 0 0)).put (some 5) (.aA 5 3 0 0)).put (some 6) (.aA 6 3 0 0)).put (some 7) (.list 3 (w.map ae))).put (some 11) (.aA 11 3 0 0)).put (some 12) (.aA 12 3 0 0)).put (some 13) (ah (f1-1))).put (some 14) (ah l2)).put (some 67) (ah (d+1))).put (some 68) (ah m))) (fun m=>m<=d+1) (fun m=>d+1-m) 0 (Nat.zero_le _) ?_
     rintro m L3 hm
     refine az ?_
     refine aC rfl ?_ ?_<;>intro x8 h69
     ·have dY:m<d+1:=by omega
      have eal:(List.replicate m a++[a])=List.replicate (m+1) a:=by rw [List.replicate_succ']
      have eap:((List.replicate m a).map ae).take m=(List.replicate m a).map ae:=List.take_of_length_le aO
      refine bq ?_
      refine bI rfl (.ga (d:=74) (news:=[ae a]) rfl rfl rfl rfl uq (.inl rfl) ai Tryz.underlying25 Tryz.underlying25 jY cJ rfl kA (.inl ⟨73,0,_,rfl,by decide,rfl,rfl,by simp,rfl,by simp [aG,ao.pure]⟩) uq uq ai) ?_
      refine aZ ?_
      refine cq (aw.kill _ 73) ?_
      refine ak rfl cB ?_
      refine aJ ?_
      exact iJ (m+1) J
     ·obtain rfl:m=d+1:=by omega
      have eal:True:=trivial
      have eap:((List.replicate (d+1) a).map ae).take (d+1)=(List.replicate (d+1) a).map ae:=List.take_of_length_le aO
      refine az ?_
      refine aY 7 an ?_
      refine ax ?_
      refine ak rfl (.bin rfl rfl (show dk .add .i64 ((f1-1:Nat):Int) 1=some (.int .i64 ((f1:Nat):Int)) from (by rw [ab9 J,Nat.sub_add_cancel J]))) ?_
      refine ar ?_
      refine ak rfl (.agr (a:=f1) (h:=l2) ao rfl Tryz.underlying25 cJ rfl rfl om om) ?_
      refine aH ?_
      refine bI rfl (.ga (d:=74) (news:=((w.take l2).drop f1).map ae) rfl rfl rfl rfl aO (.inl rfl) ai Tryz.underlying25 Tryz.underlying25 jY cJ rfl kA (.inr (.inl rfl)) uq uq ai) ?_
      refine bq ?_
      refine ak rfl cB ?_
      refine ax ?_
      refine dG (fun(m:Nat) L=>((((((((((((St.mk L.slot (hp [(3,⟨3,[.agg [ah d,.list 3 (k.map ae),.list 12 (C.map cX)]],true⟩),(4,⟨3,[ae a],false⟩),(5,⟨3,[ae b],false⟩),(6,⟨3,[.agg [.v (.int .i64 0),.v (.slice none 0 0),.v (.slice none 0 0)]],true⟩),(11,⟨3,[.agg [ah d,.list 3 (w.map ae),.list 12 (C2.map cX)]],true⟩),(12,⟨3,[.agg [ah d,.ref 74 3 0 (d+1+(l2-f1)+m),.v (.slice none 0 0)]],true⟩),(74,⟨3,(List.replicate (d+1) a++((w.take l2).drop f1)++List.replicate m b).map ae,true⟩)])).put (some 3) (.aA 3 3 0 0)).put (some 4) (.aA 4 3 0 0)).put (some 5) (.aA 5 3 0 0)).put (some 6) (.aA 6 3 0 0)).put (some 7) (.list 3 (w.map ae))).put (some 11) (.aA 11 3 0 0)).put (some 12) (.aA 12 3 0 0)).put (some 13) (ah (f1-1))).put (some 14) (ah l2)).put (some 88) (ah (d+1))).put (some 89) (ah m))) (fun m=>m<=d+1) (fun m=>d+1-m) 0 (Nat.zero_le _) ?_
      rintro m L4 hm
      refine az ?_
      refine aC rfl ?_ ?_<;>intro awn h90
      ·have dY:m<d+1:=by omega
       have ebl:(List.replicate (d+1) a++((w.take l2).drop f1)++List.replicate m b)++[b]=List.replicate (d+1) a++((w.take l2).drop f1)++List.replicate (m+1) b:=by rw [List.append_assoc _ (List.replicate m b),<-List.replicate_succ']
       have ebp:((List.replicate (d+1) a++((w.take l2).drop f1)++List.replicate m b).map ae).take (d+1+(l2-f1)+m)=(List.replicate (d+1) a++((w.take l2).drop f1)++List.replicate m b).map ae:=List.take_of_length_le (by rw [List.length_map,List.length_append,List.length_append,ag8];simp)
       refine bq ?_
       refine bI rfl (.ga (d:=74) (news:=[ae b]) rfl rfl rfl rfl uq (.inl rfl) ai Tryz.underlying25 Tryz.underlying25 jY cJ rfl kA (.inl ⟨94,0,_,rfl,by decide,rfl,rfl,by simp,rfl,by simp [aG,ao.pure]⟩) uq uq ai) ?_
       refine aZ ?_
       refine cq (aw.kill _ 94) ?_
       refine ak rfl cB ?_
       refine aJ ?_
       exact iJ (m+1) J
      ·obtain rfl:m=d+1:=by omega
       refine bu ?_
       refine ak rfl (.bin rfl rfl (wo (a:=f1-1) (b:=d) (c:=f1-1-d) J J)) ?_
       refine ar ?_
       refine ak rfl (.agr (a:=f1-1-d) (h:=l2) jv rfl Tryz.underlying137 yJ rfl rfl om om) ?_
       refine bo ?_
       exact fW [74] rfl rfl rfl cs (dJ cs rfl) afg (.agg (.cons (.pure rfl) (.cons (eM (l:=(List.replicate (d+1) a++((w.take l2).drop f1)++List.replicate (d+1) b)) ao rfl rfl (by rw [List.length_append,List.length_append,ag8];simp)) (.cons (.pure (eB jv 12 _)) .nil))))
theorem amr (k:List Rat) (t:Rat):∀ i,i<=k.length->fk k t i=(k.take i).count t
 | 0,_=>by simp [fk]
 | i+1,h=>by
  rw [fk,amr k t i J,<-zC (show i<k.length by omega),List.count_append,List.count_singleton]
  congr 1
  by_cases e:k.getD i 0=t
  ·rw [if_pos e,if_pos (by simpa using e)]
  ·rw [if_neg e,if_neg (by simpa using e)]
theorem aq7 (k:List Rat) (t:Rat):fk k t k.length=k.count t:=by
 rw [amr k t _ (Nat.le_refl _),List.take_length]
def kq (d:Nat) (x a b y:Rat) (m n:Nat):List Rat:=(List.replicate (d+1) x++List.replicate m a)++(List.replicate n b++List.replicate (d+1) y)
section
variable (d:Nat) (x a b y:Rat) (m n:Nat)
theorem od:(kq d x a b y m n).length=2*(d+1)+m+n:=by simp [kq];omega
theorem axm:kq d x a b y 0 0=bl d x y:=by simp [kq,bl]
theorem fM (i:Nat) (h:i<2*(d+1)+m+n):(kq d x a b y m n).getD i 0=if i<d+1 then x else if i<d+1+m then a else if i<d+1+m+n then b else y:=by
 have l1:(List.replicate (d+1) x++List.replicate m a).length=d+1+m:=by simp
 unfold kq
 by_cases h1:i<d+1
 ·rw [if_pos h1,vp (by rw [l1];omega),vp (by simpa using h1),rZ h1]
 ·rw [if_neg h1]
  by_cases h2:i<d+1+m
  ·rw [if_pos h2,vp (by rw [l1];omega),vk bm,List.length_replicate,rZ J]
  ·rw [if_neg h2,vk (by rw [l1];omega),l1]
   by_cases h3:i<d+1+m+n
   ·rw [if_pos h3,vp bm,rZ J]
   ·rw [if_neg h3,vk bm,List.length_replicate,rZ J]
theorem ara:(kq d x a b y m 0).take (d+1+m)++a :: (kq d x a b y m 0).drop (d+1+m)=kq d x a b y (m+1) 0:=by
 have l1:(List.replicate (d+1) x++List.replicate m a).length=d+1+m:=by simp
 unfold kq
 rw [List.take_left' l1,List.drop_left' l1,List.replicate_succ' (n:=m)]
 simp
theorem aBb:(kq d x a b y m n).take (d+1+m+n)++b :: (kq d x a b y m n).drop (d+1+m+n)=kq d x a b y m (n+1):=by
 have e:kq d x a b y m n=((List.replicate (d+1) x++List.replicate m a)++List.replicate n b)++List.replicate (d+1) y:=by simp [kq]
 have l1:((List.replicate (d+1) x++List.replicate m a)++List.replicate n b).length=d+1+m+n:=by simp;omega
 rw [e,List.take_left' l1,List.drop_left' l1]
 unfold kq
 rw [List.replicate_succ' (n:=n)]
 simp
theorem xn {R:Nat} (h1:rl x<=R) (h2:rl a<=R) (h3:rl b<=R) (h4:rl y<=R):∀ t∈kq d x a b y m n,rl t<=R:=fun t ht=>by
 simp only [kq,List.mem_append,List.mem_replicate] at ht
 rcases ht with(⟨_,rfl⟩ | ⟨_,rfl⟩) | ⟨_,rfl⟩ | ⟨_,rfl⟩<;>assumption
end
theorem amM {d:Nat} {x a b y:Rat} (m:Nat) (h1:x≠a) (h2:a≠y):fk (kq d x a b y m 0) a (kq d x a b y m 0).length=m:=by
 rw [aq7]
 simp [kq,List.count_replicate,h1,h2.symm]
theorem avd {d:Nat} {x a b y:Rat} (m n:Nat) (h1:x≠b) (h2:a≠b) (h3:b≠y):fk (kq d x a b y m n) b (kq d x a b y m n).length=n:=by
 rw [aq7]
 simp [kq,List.count_replicate,h1,h2,h3.symm]
theorem ar0 {d:Nat} {x a b y:Rat} {m n i:Nat} (hm:m=0/\a=x\/m=d) (hn:n=0/\b=y\/n=d) (hi:i<=d):((kq d x a b y m n).drop (m+i+1)).take d=List.replicate (d-i) a++List.replicate i b:=by
 have eL:(List.replicate (d+1) x++List.replicate m a).drop (m+1)=List.replicate d a:=by
  rcases hm with⟨rfl,rfl⟩ | rfl
  ·simp
  ·rw [List.drop_left' aO]
 have eR:(List.replicate n b++List.replicate (d+1) y).take i=List.replicate i b:=by
  rcases hn with⟨rfl,rfl⟩ | rfl
  ·simp;omega
  ·rw [List.take_append_of_le_length (by simpa using hi)];simp;omega
 have e1:(kq d x a b y m n).drop (m+1)=List.replicate d a++(List.replicate n b++List.replicate (d+1) y):=by
  unfold kq
  rw [List.drop_append_of_le_length bm,eL]
 rw [show m+i+1=(m+1)+i by omega,<-List.drop_drop,e1,List.drop_append_of_le_length (by simpa using hi),List.drop_replicate,List.take_append,List.take_of_length_le aO,List.length_replicate,show d-(d-i)=i by omega,eR]
theorem aeC {d:Nat} {x y:Rat} {v args:List Rat} (hv:v.length=d+1):da (bl d x y) d d v args=wV d x y v args:=by
 have e0:(v.drop (d-d)).take (d+1)=v:=by rw [Nat.sub_self,List.drop_zero,List.take_of_length_le J]
 have key:∀ r,r<=d->cr (gF (bl d x y) d d args) v r=tK (fun t=>(t-x)/(y-x)) args v r:=by
  intro r
  induction r with
  | zero=>exact fun _=>rfl
  | succ r ih =>
   intro hr
   rw [cr,tK,ih J]
   refine adk (by rw [q7,afu]) fun i hi=>?_
   rw [q7,ac9,hv] at hi
   rw [vE _ _ _ _ (by rw [ac9,hv];exact hi),ags _ _ _ _ (by rw [ac9,hv];exact hi)]
   by_cases g:r<i
   ·rw [if_pos g,if_pos g]
    have e:gF (bl d x y) d d args r i=(args.getD r 0-x)/(y-x):=by
     unfold gF
     rw [fV _ _ _ _ J,fV _ _ _ _ J,if_pos J,if_neg J]
    rw [e]
   ·rw [if_neg g,if_neg g]
 unfold da wV
 rw [e0,key d (Nat.le_refl _)]
theorem avM {d:Nat} {x y:Rat} {C:List Q4} {args:List Rat} (hC:C.length=d+1):lO (bl d x y) d d C args=pol d x y C args:=by
 unfold lO pol
 rw [aeC (by simpa using hC),aeC (by simpa using hC),aeC (by simpa using hC),aeC (by simpa using hC)]
def adh (d:Nat) (x y:Rat) (C:List Q4) (a b:Rat):List Q4:=(List.range (d+1)).map fun i=>pol d x y C (List.replicate (d-i) a++List.replicate i b)
theorem asV {d:Nat} {x y:Rat} (h6:d<=6) (hxy:x<y) (hx:rl x<=100) (hy:rl y<=100):tN (bl d x y) d d where
 d6:=h6
 kl:=by rw [jT];omega
 kr:=aaR hx hy
 yX:=fun i j qI hj=>by
  rw [jT] at hj
  rw [fV _ _ _ _ J,fV _ _ _ _ hj]
  split<;>split<;>first | grind | (exfalso;omega)
 p1:=Nat.le_refl _
 p2:=by rw [jT];omega
 lt:=by rw [fV _ _ _ _ J,fV _ _ _ _ J,if_pos J,if_neg J];exact hxy
def dX (q:Q4):aF:=⟨⟨q.x/q.w,q.y/q.w,q.z/q.w⟩,q.w⟩
theorem aAY (d:Nat) (x y a b:Rat) (C:List Q4) (R:Nat) (h1:1<=d) (h6:d<=6) (hxa:x<=a) (cu:a<b) (jE:b<=y) (hx:rl x<=64) (hy:rl y<=64) (ha:rl a<=64) (hb:rl b<=64) (hC:C.length=d+1) (eN:1<=R) (hR:R<=10000000) (jA:∀ q∈C,n5 R q) :
  av Tryz.prog 86 [.agg [ah d,.list 3 ((bl d x y).map ae),.list 12 (C.map cX)],ae a,ae b] (.agg [ah d,.list 3 ((bl d a b).map ae),.list 12 ((adh d x y C a b).map cX)]):=by
 obtain⟨m,hm⟩:∃ m,(m=0/\a=x)\/(m=d/\a≠x):=by
  by_cases e:a=x
  ·exact⟨0,.inl ⟨rfl,e⟩⟩
  ·exact⟨d,.inr ⟨rfl,e⟩⟩
 obtain⟨n,hn⟩:∃ n,(n=0/\b=y)\/(n=d/\b≠y):=by
  by_cases e:b=y
  ·exact⟨0,.inl ⟨rfl,e⟩⟩
  ·exact⟨d,.inr ⟨rfl,e⟩⟩
 have za:m<=d:=by omega
 have hnd:n<=d:=by omega
 have hma:0<m->x<a:=fun h=>by
  rcases hm with e | e
  ·omega
  ·have:=e.2;grind
 have xx:0<n->b<y:=fun h=>by
  rcases hn with e | e
  ·omega
  ·have:=e.2;grind
 have lh:∀ p q,∀ t∈kq d x a b y p q,rl t<=64:=fun p q=>xn d x a b y p q hx ha hb hy
 have gQ:=od d x a b y m n
 have hTA:decide (a=x)=false->∀ j,j<=m->av Tryz.prog 158 [.list 3 ((kq d x a b y j 0).map ae),ae a] (ah (d-(m-j))):=fun hh j hj=>by
  have aQ:a≠x:=by simpa using hh
  have:=agk (kq d x a b y j 0) (by rw [od];omega) (fun t ht=>Nat.le_trans (lh j 0 t ht) ai) a J
  rw [amM j (fun e=>aQ e.symm) cA] at this
  rwa [show d-(m-j)=j by rcases hm with e | e;exact absurd e.2 aQ;omega]
 have hTB:decide (b=y)=false->∀ j,j<=n->av Tryz.prog 158 [.list 3 ((kq d x a b y m j).map ae),ae b] (ah (d-(n-j))):=fun hh j hj=>by
  have aQ:b≠y:=by simpa using hh
  have:=agk (kq d x a b y m j) (by rw [od];omega) (fun t ht=>Nat.le_trans (lh m j t ht) ai) b J
  rw [avd m j cA cA aQ] at this
  rwa [show d-(n-j)=j by rcases hn with e | e;exact absurd e.2 aQ;omega]
 have hIA:∀ j,j<m->av Tryz.prog 159 [.list 3 ((kq d x a b y j 0).map ae),ae a] (.list 3 ((kq d x a b y (j+1) 0).map ae)):=fun j hj=>by
  have aDX:=hma J
  have:=ahm (kq d x a b y j 0) a (d+1+j) (by rw [od];omega) (by rw [od];omega) (fun t ht=>Nat.le_trans (lh j 0 t ht) ai) J (fun i hi=>by
   rw [fM _ _ _ _ _ _ _ _ J]
   split
   ·exact hxa
   ·first | exact Rat.le_refl | (rw [if_pos hi];exact Rat.le_refl)) (by
   rw [fM _ _ _ _ _ _ _ _ J,if_neg J,if_neg J,if_neg J];grind)
  rwa [ara] at this
 have hIB:∀ j,j<n->av Tryz.prog 159 [.list 3 ((kq d x a b y m j).map ae),ae b] (.list 3 ((kq d x a b y m (j+1)).map ae)):=fun j hj=>by
  have aeZ:=xx J
  have:=ahm (kq d x a b y m j) b (d+1+m+j) (by rw [od];omega) (by rw [od];omega) (fun t ht=>Nat.le_trans (lh m j t ht) ai) J (fun i hi=>by
   rw [fM _ _ _ _ _ _ _ _ J]
   split
   ·grind
   ·split
    ·grind
    ·first | exact Rat.le_refl | (rw [if_pos hi];exact Rat.le_refl)) (by
   rw [fM _ _ _ _ _ _ _ _ J,if_neg J,if_neg J,if_neg J];exact aeZ)
  rwa [aBb] at this
 have hI:∀ j,j<d+1+m+n->∃ r,j<=r/\r+1<2*(d+1)+m+n/\(kq d x a b y m n).getD r 0<(kq d x a b y m n).getD (r+1) 0/\(∀ i,j<=i->i<r->¬(kq d x a b y m n).getD i 0<(kq d x a b y m n).getD (i+1) 0)/\x<=(kq d x a b y m n).getD r 0/\(kq d x a b y m n).getD r 0<y:=fun j hj=>by
  by_cases c1:j<=d
  ·refine⟨d,c1,J,?_,fun i h2 h3=>?_,?_,?_⟩
   ·rw [fM _ _ _ _ _ _ _ _ J,fM _ _ _ _ _ _ _ _ J,if_pos J,if_neg J]
    split
    ·exact hma J
    ·split<;>grind
   ·rw [fM _ _ _ _ _ _ _ _ J,fM _ _ _ _ _ _ _ _ J,if_pos J,if_pos J];grind
   ·rw [fM _ _ _ _ _ _ _ _ J,if_pos J];exact Rat.le_refl
   ·rw [fM _ _ _ _ _ _ _ _ J,if_pos J];grind
  ·by_cases c2:j<=d+m
   ·refine⟨d+m,c2,J,?_,fun i h2 h3=>?_,?_,?_⟩
    ·rw [fM _ _ _ _ _ _ _ _ J,fM _ _ _ _ _ _ _ _ J,if_neg J,if_pos J,if_neg J,if_neg J]
     split<;>grind
    ·rw [fM _ _ _ _ _ _ _ _ J,fM _ _ _ _ _ _ _ _ J,if_neg J,if_pos J,if_neg J,if_pos J];grind
    ·rw [fM _ _ _ _ _ _ _ _ J,if_neg J,if_pos J];exact hxa
    ·rw [fM _ _ _ _ _ _ _ _ J,if_neg J,if_pos J];grind
   ·have aeZ:=xx J
    refine⟨d+m+n,J,J,?_,fun i h2 h3=>?_,?_,?_⟩
    ·rw [fM _ _ _ _ _ _ _ _ J,fM _ _ _ _ _ _ _ _ J,if_neg J,if_neg J,if_pos J,if_neg J,if_neg J,if_neg J];exact aeZ
    ·rw [fM _ _ _ _ _ _ _ _ J,fM _ _ _ _ _ _ _ _ J,if_neg J,if_neg J,if_pos J,if_neg J,if_neg J,if_pos J];grind
    ·rw [fM _ _ _ _ _ _ _ _ J,if_neg J,if_neg J,if_pos J];grind
    ·rw [fM _ _ _ _ _ _ _ _ J,if_neg J,if_neg J,if_pos J];exact aeZ
 obtain⟨I,hI⟩:∃ I:Nat->Nat,∀ j,j<d+1+m+n->j<=I j/\I j+1<2*(d+1)+m+n/\(kq d x a b y m n).getD (I j) 0<(kq d x a b y m n).getD (I j+1) 0/\(∀ i,j<=i->i<I j->¬(kq d x a b y m n).getD i 0<(kq d x a b y m n).getD (i+1) 0)/\x<=(kq d x a b y m n).getD (I j) 0/\(kq d x a b y m n).getD (I j) 0<y :=
  ⟨fun j=>if h:j<d+1+m+n then(hI j h).choose else 0,fun j h=>by simp only [h,dif_pos];exact(hI j h).choose_spec⟩
 have hrW:∀ i,i<2*(d+1)+m+n->rl ((kq d x a b y m n).getD i 0)<=64:=fun i hi=>lh m n _ (dg (by rw [gQ];exact hi))
 have hO:=amg (bl d x y) (kq d x a b y m n) d (d+1+m+n) C R I (fun _=>d) J mh mh (fun t ht=>Nat.le_trans (lh m n t ht) ai) (by rw [jT,hC];omega) eN hR jA (fun j hj=>by rw [gQ];have:=(hI j hj).2.1;omega)
  (fun j hj=>asV h6 cA J J)
  (fun j hj=>ain (kq d x a b y m n) j (I j) mh (fun t ht=>Nat.le_trans (lh m n t ht) ai) (hI j hj).1 (by rw [gQ];exact(hI j hj).2.1) (hI j hj).2.2.1 (hI j hj).2.2.2.1)
  (fun j hj=>aBs d x y _ h6 J J (by have:=hrW (I j) (by have:=(hI j hj).2.1;omega);omega) (hI j hj).2.2.2.2.1 (hI j hj).2.2.2.2.2)
 have pC:av Tryz.prog 161 [.list 3 ((kq d x a b y m n).map ae),.cV 162 [.bV (ae a)]] (ah (d+1+m)):=by
  have:=adY 162 [.bV (ae a)] (by simp [aG,LV.pure,ao.pure]) (fun x hx=>by rw [List.mem_singleton.1 hx];exact⟨rfl,rfl⟩) (fun t=>decide (fi t a > 0)) (kq d x a b y m n) mh (fun t ht=>aka a t (by have:=lh m n t ht;omega))
  rwa [abR (i:=d+1+m) mh (fun j hj=>by
   have e:(kq d x a b y m n).getD j default=(kq d x a b y m n).getD j 0:=rfl
   rw [e,fM _ _ _ _ _ _ _ _ J]
   refine decide_eq_false fun hh=>?_
   have hh:=ry.1 hh
   split at hh
   ·grind
   ·first | grind | (rw [if_pos hj] at hh;grind)) (by
   have e:(kq d x a b y m n).getD (d+1+m) default=(kq d x a b y m n).getD (d+1+m) 0:=rfl
   rw [e,fM _ _ _ _ _ _ _ _ J,if_neg J,if_neg J]
   refine decide_eq_true (ry.2 ?_)
   split<;>grind)] at this
 have pz:av Tryz.prog 161 [.list 3 ((kq d x a b y m n).map ae),.cV 163 [.bV (ae b)]] (ah (d+1+m)):=by
  have:=adY 163 [.bV (ae b)] (by simp [aG,LV.pure,ao.pure]) (fun x hx=>by rw [List.mem_singleton.1 hx];exact⟨rfl,rfl⟩) (fun t=>decide (fi t b>=0)) (kq d x a b y m n) mh (fun t ht=>amO b t (by have:=lh m n t ht;omega))
  rwa [abR (i:=d+1+m) mh (fun j hj=>by
   have e:(kq d x a b y m n).getD j default=(kq d x a b y m n).getD j 0:=rfl
   rw [e,fM _ _ _ _ _ _ _ _ J]
   refine decide_eq_false fun hh=>?_
   have hh:=sG.1 hh
   split at hh
   ·grind
   ·first | grind | (rw [if_pos hj] at hh;grind)) (by
   have e:(kq d x a b y m n).getD (d+1+m) default=(kq d x a b y m n).getD (d+1+m) 0:=rfl
   rw [e,fM _ _ _ _ _ _ _ _ J,if_neg J,if_neg J]
   refine decide_eq_true (sG.2 ?_)
   split<;>grind)] at this
 have mc:=od d x a b y m 0
 have o8:(kq d x a b y m 0).getD 0 0=x:=by rw [fM _ _ _ _ _ _ _ _ J,if_pos J]
 have l9:(kq d x a b y m 0).getD ((kq d x a b y m 0).length-1) 0=y:=by rw [mc,fM _ _ _ _ _ _ _ _ J,if_neg J,if_neg J,if_neg J]
 have main:=aiw (bl d x y) (kq d x a b y m n) d C _ a b (decide (a=x)) (decide (b=y)) m n (fun j=>kq d x a b y j 0) (fun j=>kq d x a b y m j) (d+1+m) (d+1+m) h6 J J (by rw [jT];omega) (by rw [jT];omega) (fun t ht=>Nat.le_trans (aaR hx hy t ht) ai)
  (axm d x a b y) rfl rfl (by show 0<(kq d x a b y m 0).length;rw [mc];omega) (by show (kq d x a b y m 0).length<=100;rw [mc];omega) (fun t ht=>Nat.le_trans (lh m 0 t ht) ai) mh
  (by rw [xZ,jT,aai,decide_eq_false (show ¬a=y by grind),Bool.or_false]) (by show (decide (b=(kq d x a b y m 0).getD 0 0) || decide (b=(kq d x a b y m 0).getD ((kq d x a b y m 0).length-1) 0))=_;rw [o8,l9,decide_eq_false (show ¬b=x by grind),Bool.false_or]) za hnd
  (fun h=>by have:=of_decide_eq_true h;rcases hm with e | e<;>grind) (fun h=>by have:=of_decide_eq_true h;rcases hn with e | e<;>grind) hTA hTB hIA hIB hO pC pz J (Nat.le_refl _) aO (by rw [gQ];simp;omega)
 have e1:((kq d x a b y m n).take (d+1+m)).drop (d+1+m)=[]:=List.drop_of_length_le (by rw [List.length_take];exact Nat.min_le_left _ _)
 have e2:((((List.range (d+1+m+n)).map fun j=>lO (bl d x y) d ((fun _=>d) j) C (((kq d x a b y m n).drop (j+1)).take d)).take (d+1+m)).drop (d+1+m-1-d))=adh d x y C a b:=by
  unfold adh
  refine List.ext_getElem (by first | (simp;done) | (simp;omega)) fun i h1 h2=>?_
  have hi:i<d+1:=by simpa using h2
  simp only [List.getElem_drop,List.getElem_take,List.getElem_map,List.getElem_range]
  rw [show d+1+m-1-d+i=m+i by omega,avM hC,ar0 (by rcases hm with e | e;exact .inl e;exact .inr e.1) (by rcases hn with e | e;exact .inl e;exact .inr e.1) J]
 rw [e1,e2,List.append_nil] at main
 exact main
def bO (d:Nat) (a t b:Rat):List Rat:=kq d a t t b 1 0
theorem nN (d:Nat) (a t b:Rat):(bO d a t b).length=2*d+3:=by rw [bO,od];omega
theorem dS (d:Nat) (a t b:Rat) (i:Nat) (h:i<2*d+3):(bO d a t b).getD i 0=if i<d+1 then a else if i<d+2 then t else b:=by
 rw [bO,fM _ _ _ _ _ _ _ _ J]
 by_cases h1:i<d+1
 ·rw [if_pos h1,if_pos h1]
 ·rw [if_neg h1,if_neg h1]
  by_cases h2:i<d+1+1
  ·rw [if_pos h2,if_pos J]
  ·rw [if_neg h2]
theorem abl {d:Nat} {a t b:Rat} {R:Nat} (h1:rl a<=R) (h2:rl t<=R) (h3:rl b<=R):∀ x∈bO d a t b,rl x<=R:=xn d a t t b 1 0 h1 h2 h2 h3
theorem ar9 {d:Nat} {a t b:Rat} (h6:d<=6) (bW:a<t) (df:t<b) (ha:rl a<=100) (ht:rl t<=100) (hb:rl b<=100) {p:Nat} (hp:p=d\/p=d+1) (ks:1<=d):tN (bO d a t b) d p where
 d6:=h6
 kl:=by rw [nN];omega
 kr:=abl ha ht hb
 yX:=fun i j qI hj=>by
  rw [nN] at hj
  rw [dS _ _ _ _ _ J,dS _ _ _ _ _ hj]
  by_cases i1:i<d+1<;>by_cases i2:i<d+2<;>by_cases j1:j<d+1<;>by_cases j2:j<d+2<;>simp only [i1,i2,j1,j2,if_true,if_false]<;>first | exact Rat.le_refl | grind | (exfalso;omega)
 p1:=by omega
 p2:=by rw [nN];omega
 lt:=by
  rcases hp with rfl | rfl
  ·rw [dS _ _ _ _ _ J,dS _ _ _ _ _ J,if_pos J,if_neg J,if_pos J];exact bW
  ·rw [dS _ _ _ _ _ J,dS _ _ _ _ _ J,if_neg J,if_pos J,if_neg J,if_neg J];exact df
def kh (d:Nat) (a t b:Rat) (C:List Q4):List Q4:=(List.range (d+1)).map fun j=>lO (bO d a t b) d d C (List.replicate (d-j) a++List.replicate j t)
def ka (d:Nat) (a t b:Rat) (C:List Q4):List Q4:=(List.range (d+1)).map fun i=>lO (bO d a t b) d (if i=0 then d else d+1) C (List.replicate (d-i) t++List.replicate i b)
theorem azo {d:Nat} {a t b:Rat} {j:Nat} (hj:j<=d):((kq d a t t b d 0).drop (j+1)).take d=List.replicate (d-j) a++List.replicate j t:=by
 have e1:(kq d a t t b d 0).drop (j+1)=List.replicate (d-j) a++(List.replicate d t++List.replicate (d+1) b):=by
  have:kq d a t t b d 0=List.replicate (d+1) a++(List.replicate d t++List.replicate (d+1) b):=by simp [kq]
  rw [this,List.drop_append_of_le_length bm,List.drop_replicate,show d+1-(j+1)=d-j by omega]
 rw [e1,List.take_append,List.take_of_length_le aO,List.length_replicate,show d-(d-j)=j by omega,List.take_append_of_le_length (by simpa using hj),List.take_replicate,Nat.min_eq_left hj]
theorem an4 (d:Nat) (a t b:Rat) (C:List Q4) (R:Nat) (h1:1<=d) (h6:d<=6) (bW:a<t) (df:t<b) (ha:rl a<=64) (ht:rl t<=64) (hb:rl b<=64) (hC:C.length=d+2) (eN:1<=R) (hR:R<=10000000) (jA:∀ q∈C,n5 R q):av Tryz.prog 160 [.agg [ah d,.list 3 ((bO d a t b).map ae),.list 12 (C.map cX)],.list 3 ((kq d a t t b d 0).map ae)] (.agg [ah d,.list 3 ((kq d a t t b d 0).map ae),.list 12 (((List.range (2*d+1)).map fun j=>lO (bO d a t b) d ((fun j=>if j<=d then d else d+1) j) C (((kq d a t t b d 0).drop (j+1)).take d)).map cX)]):=by
 have gQ:(kq d a t t b d 0).length=2*(d+1)+d+0:=od d a t t b d 0
 have lh:∀ x∈(kq d a t t b d 0),rl x<=64:=xn d a t t b d 0 ha ht ht hb
 have g:∀ i,i<2*(d+1)+d+0->(kq d a t t b d 0).getD i 0=if i<d+1 then a else if i<d+1+d then t else b:=fun i hi=>by
  rw [fM _ _ _ _ _ _ _ _ hi]
  split
  ·rfl
  ·split
   ·rfl
   ·rw [if_neg J]
 refine amg (bO d a t b) (kq d a t t b d 0) d (2*d+1) C R (fun j=>if j<=d then d else 2*d) (fun j=>if j<=d then d else d+1) J mh mh (fun x hx=>Nat.le_trans (lh x hx) ai) (by rw [nN,hC];omega) eN hR jA (fun j hj=>by rw [gQ];show (if j<=d then d else 2*d)<_;split<;>omega)
  (fun j hj=>ar9 h6 bW df J J J (by show (if j<=d then d else d+1)=d\/_;split<;>simp) h1) (fun j hj=>?_) (fun j hj=>?_)
 ·by_cases c:j<=d
  ·rw [if_pos c]
   exact ain (kq d a t t b d 0) j d mh (fun x hx=>Nat.le_trans (lh x hx) ai) c mh (by rw [g _ J,g _ J,if_pos J,if_neg J,if_pos J];exact bW) (fun i q1 q2=>by rw [g _ J,g _ J,if_pos J,if_pos J];grind)
  ·rw [if_neg c]
   exact ain (kq d a t t b d 0) j (2*d) mh (fun x hx=>Nat.le_trans (lh x hx) ai) J mh (by rw [g _ J,g _ J,if_neg J,if_pos J,if_neg J,if_neg J];exact df) (fun i q1 q2=>by rw [g _ J,g _ J,if_neg J,if_pos J,if_neg J,if_pos J];grind)
 ·have e0:(bO d a t b).getD 0 0=a:=by rw [dS _ _ _ _ _ J,if_pos J]
  have e1:(bO d a t b).getD ((bO d a t b).length-1) 0=b:=by rw [nN,dS _ _ _ _ _ J,if_neg J,if_neg J]
  have pR:∀ x∈(bO d a t b),rl x<=64:=abl ha ht hb
  by_cases c:j<=d
  ·rw [if_pos c,if_pos c,g _ J,if_pos J]
   exact amy d (bO d a t b) a d (by rw [nN];omega) (fun x hx=>Nat.le_trans (pR x hx) ai) J (by rw [e0];exact Rat.le_refl) (by rw [e1];grind) (by rw [nN];omega) (by rw [dS _ _ _ _ _ J,dS _ _ _ _ _ J,if_pos J,if_neg J,if_pos J];exact bW)
    (fun i q1 q2=>by rw [dS _ _ _ _ _ J,if_pos J];exact Rat.le_refl) (.inl (by rw [dS _ _ _ _ _ J,if_neg J,if_pos J];exact bW))
  ·rw [if_neg c,if_neg c,g _ J,if_neg J,if_pos J]
   exact amy d (bO d a t b) t (d+1) (by rw [nN];omega) (fun x hx=>Nat.le_trans (pR x hx) ai) J (by rw [e0];grind) (by rw [e1];grind) (by rw [nN];omega) (by rw [dS _ _ _ _ _ J,dS _ _ _ _ _ J,if_neg J,if_pos J,if_neg J,if_neg J];exact df)
    (fun i q1 q2=>by
     rw [dS _ _ _ _ _ J]
     split
     ·grind
     ·rw [if_pos J];exact Rat.le_refl) (.inl (by rw [dS _ _ _ _ _ J,if_neg J,if_neg J];exact df))
theorem ao8 (d:Nat) (a t b:Rat) (C:List Q4) (R:Nat) (h1:1<=d) (h6:d<=6) (bW:a<t) (df:t<b) (ha:rl a<=64) (ht:rl t<=64) (hb:rl b<=64) (hC:C.length=d+2) (eN:1<=R) (hR:R<=10000000) (jA:∀ q∈C,n5 R q) (j:Nat) (hj:j<=d-1):av Tryz.prog 158 [.list 3 ((kq d a t t b (1+j) 0).map ae),ae t] (ah (d-(d-1-j))):=by
 have:=agk (kq d a t t b (1+j) 0) (by rw [od];omega) (fun x hx=>Nat.le_trans (xn d a t t b (1+j) 0 ha ht ht hb x hx) ai) t J
 rw [amM (1+j) cA cA] at this
 rwa [show d-(d-1-j)=1+j by omega]
theorem arY (d:Nat) (a t b:Rat) (C:List Q4) (R:Nat) (h1:1<=d) (h6:d<=6) (bW:a<t) (df:t<b) (ha:rl a<=64) (ht:rl t<=64) (hb:rl b<=64) (hC:C.length=d+2) (eN:1<=R) (hR:R<=10000000) (jA:∀ q∈C,n5 R q) (j:Nat) (hj:j<d-1):av Tryz.prog 159 [.list 3 ((kq d a t t b (1+j) 0).map ae),ae t] (.list 3 ((kq d a t t b (1+(j+1)) 0).map ae)):=by
 have:=ahm (kq d a t t b (1+j) 0) t (d+1+(1+j)) (by rw [od];omega) (by rw [od];omega) (fun x hx=>Nat.le_trans (xn d a t t b (1+j) 0 ha ht ht hb x hx) ai) J (fun i hi=>by
  rw [fM _ _ _ _ _ _ _ _ J]
  split
  ·grind
  ·first | exact Rat.le_refl | (rw [if_pos hi];exact Rat.le_refl)) (by
  rw [fM _ _ _ _ _ _ _ _ J,if_neg J,if_neg J,if_neg J];exact df)
 rw [ara] at this
 rwa [show 1+(j+1)=1+j+1 by omega]
theorem alX (d:Nat) (a t b:Rat) (C:List Q4) (R:Nat) (h1:1<=d) (h6:d<=6) (bW:a<t) (df:t<b) (ha:rl a<=64) (ht:rl t<=64) (hb:rl b<=64) (hC:C.length=d+2) (eN:1<=R) (hR:R<=10000000) (jA:∀ q∈C,n5 R q) (x:Rat) (hx:x=a\/x=t):av Tryz.prog 161 [.list 3 ((kq d a t t b d 0).map ae),.cV 162 [.bV (ae x)]] (ah (if x=a then d+1 else 2*d+1)):=by
 have gQ:(kq d a t t b d 0).length=2*(d+1)+d+0:=od d a t t b d 0
 have lh:∀ x∈(kq d a t t b d 0),rl x<=64:=xn d a t t b d 0 ha ht ht hb
 have tq:rl x<=64:=by rcases hx with rfl | rfl<;>assumption
 have:=adY 162 [.bV (ae x)] (by simp [aG,LV.pure,ao.pure]) (fun y hy=>by rw [List.mem_singleton.1 hy];exact⟨rfl,rfl⟩) (fun y=>decide (fi y x > 0)) (kq d a t t b d 0) mh (fun y hy=>aka x y (by have:=lh y hy;omega))
 rwa [abR (i:=if x=a then d+1 else 2*d+1) (by rw [gQ];split<;>omega) (fun j hj=>by
  have e:(kq d a t t b d 0).getD j default=(kq d a t t b d 0).getD j 0:=rfl
  rw [e,fM _ _ _ _ _ _ _ _ (by split at hj<;>omega)]
  refine decide_eq_false fun hh=>?_
  have hh:=ry.1 hh
  rcases hx with rfl | rfl
  ·rw [if_pos rfl] at hj
   rw [if_pos hj] at hh;grind
  ·rw [if_neg cA] at hj
   split at hh
   ·grind
   ·first | grind | (rw [if_pos J] at hh;grind)) (by
  have e:∀ j,(kq d a t t b d 0).getD j default=(kq d a t t b d 0).getD j 0:=fun _=>rfl
  rw [e]
  refine decide_eq_true (ry.2 ?_)
  rcases hx with rfl | rfl
  ·rw [if_pos rfl,fM _ _ _ _ _ _ _ _ J,if_neg J,if_pos J];exact bW
  ·rw [if_neg cA,fM _ _ _ _ _ _ _ _ J,if_neg J,if_neg J,if_neg J];exact df)] at this
theorem aof (d:Nat) (a t b:Rat) (C:List Q4) (R:Nat) (h1:1<=d) (h6:d<=6) (bW:a<t) (df:t<b) (ha:rl a<=64) (ht:rl t<=64) (hb:rl b<=64) (hC:C.length=d+2) (eN:1<=R) (hR:R<=10000000) (jA:∀ q∈C,n5 R q) (x:Rat) (hx:x=t\/x=b):av Tryz.prog 161 [.list 3 ((kq d a t t b d 0).map ae),.cV 163 [.bV (ae x)]] (ah (if x=t then d+1 else 2*d+1)):=by
 have gQ:(kq d a t t b d 0).length=2*(d+1)+d+0:=od d a t t b d 0
 have lh:∀ x∈(kq d a t t b d 0),rl x<=64:=xn d a t t b d 0 ha ht ht hb
 have tq:rl x<=64:=by rcases hx with rfl | rfl<;>assumption
 have:=adY 163 [.bV (ae x)] (by simp [aG,LV.pure,ao.pure]) (fun y hy=>by rw [List.mem_singleton.1 hy];exact⟨rfl,rfl⟩) (fun y=>decide (fi y x>=0)) (kq d a t t b d 0) mh (fun y hy=>amO x y (by have:=lh y hy;omega))
 rwa [abR (i:=if x=t then d+1 else 2*d+1) (by rw [gQ];split<;>omega) (fun j hj=>by
  have e:(kq d a t t b d 0).getD j default=(kq d a t t b d 0).getD j 0:=rfl
  rw [e,fM _ _ _ _ _ _ _ _ (by split at hj<;>omega)]
  refine decide_eq_false fun hh=>?_
  have hh:=sG.1 hh
  rcases hx with rfl | rfl
  ·rw [if_pos rfl] at hj
   rw [if_pos hj] at hh;grind
  ·rw [if_neg cA] at hj
   split at hh
   ·grind
   ·first | grind | (rw [if_pos J] at hh;grind)) (by
  have e:∀ j,(kq d a t t b d 0).getD j default=(kq d a t t b d 0).getD j 0:=fun _=>rfl
  rw [e]
  refine decide_eq_true (sG.2 ?_)
  rcases hx with rfl | rfl
  ·rw [if_pos rfl,fM _ _ _ _ _ _ _ _ J,if_neg J,if_pos J];exact Rat.le_refl
  ·rw [if_neg cA,fM _ _ _ _ _ _ _ _ J,if_neg J,if_neg J,if_neg J];exact Rat.le_refl)] at this
theorem az2 (d:Nat) (a t b:Rat) (C:List Q4) (R:Nat) (h1:1<=d) (h6:d<=6) (bW:a<t) (df:t<b) (ha:rl a<=64) (ht:rl t<=64) (hb:rl b<=64) (hC:C.length=d+2) (eN:1<=R) (hR:R<=10000000) (jA:∀ q∈C,n5 R q):av Tryz.prog 86 [.agg [ah d,.list 3 ((bO d a t b).map ae),.list 12 (C.map cX)],ae a,ae t] (.agg [ah d,.list 3 ((bl d a t).map ae),.list 12 ((kh d a t b C).map cX)]):=by
 have gQ:(kq d a t t b d 0).length=2*(d+1)+d+0:=od d a t t b d 0
 have lf:=nN d a t b
 have e0:(bO d a t b).getD 0 0=a:=by rw [dS _ _ _ _ _ J,if_pos J]
 have e1:(bO d a t b).getD ((bO d a t b).length-1) 0=b:=by rw [lf,dS _ _ _ _ _ J,if_neg J,if_neg J]
 have pR:∀ x∈(bO d a t b),rl x<=64:=abl ha ht hb
 have pC:=alX d a t b C R h1 h6 bW df ha ht hb hC eN hR jA a (.inl rfl)
 rw [if_pos rfl] at pC
 have pz:=aof d a t b C R h1 h6 bW df ha ht hb hC eN hR jA t (.inl rfl)
 rw [if_pos rfl] at pz
 have main:=aiw (bO d a t b) (kq d a t t b d 0) d C ((List.range (2*d+1)).map fun j=>lO (bO d a t b) d ((fun j=>if j<=d then d else d+1) j) C (((kq d a t t b d 0).drop (j+1)).take d)) a t true false 0 (d-1) (fun _=>(bO d a t b)) (fun j=>kq d a t t b (1+j) 0) (d+1) (d+1) h6 J J (by rw [lf];omega) (by rw [lf];omega) (fun x hx=>Nat.le_trans (pR x hx) ai)
  rfl rfl (by show kq d a t t b (1+(d-1)) 0=_;rw [show 1+(d-1)=d by omega]) (by show 0<(bO d a t b).length;rw [lf];omega) (by show (bO d a t b).length<=100;rw [lf];omega) (fun x hx=>Nat.le_trans (pR x hx) ai) mh
  (by rw [e0,decide_eq_true rfl,Bool.true_or]) (by show (decide (t=(bO d a t b).getD 0 0) || decide (t=(bO d a t b).getD ((bO d a t b).length-1) 0))=_;rw [e0,e1,decide_eq_false cA,decide_eq_false cA];rfl) (Nat.zero_le _) J (fun _=>rfl) (fun h=>by cases h) (fun h=>by cases h) (fun _ j hj=>ao8 d a t b C R h1 h6 bW df ha ht hb hC eN hR jA j hj) (fun j hj=>absurd hj (Nat.not_lt_zero _)) (fun j hj=>arY d a t b C R h1 h6 bW df ha ht hb hC eN hR jA j hj)
  (an4 d a t b C R h1 h6 bW df ha ht hb hC eN hR jA) pC pz J (Nat.le_refl _) bm (by rw [gQ];simp;omega)
 have f1:((kq d a t t b d 0).take (d+1)).drop (d+1)=[]:=List.drop_of_length_le (by rw [List.length_take];exact Nat.min_le_left _ _)
 have f2:((((List.range (2*d+1)).map fun j=>lO (bO d a t b) d ((fun j=>if j<=d then d else d+1) j) C (((kq d a t t b d 0).drop (j+1)).take d)).take (d+1)).drop (d+1-1-d))=kh d a t b C:=by
  unfold kh
  refine List.ext_getElem bm fun i g1 g2=>?_
  have hi:i<d+1:=by simpa using g2
  simp only [List.getElem_drop,List.getElem_take,List.getElem_map,List.getElem_range]
  rw [show d+1-1-d+i=i by omega,if_pos J,azo J]
 rw [f1,f2,List.append_nil] at main
 exact main
theorem axC (d:Nat) (a t b:Rat) (C:List Q4) (R:Nat) (h1:1<=d) (h6:d<=6) (bW:a<t) (df:t<b) (ha:rl a<=64) (ht:rl t<=64) (hb:rl b<=64) (hC:C.length=d+2) (eN:1<=R) (hR:R<=10000000) (jA:∀ q∈C,n5 R q):av Tryz.prog 86 [.agg [ah d,.list 3 ((bO d a t b).map ae),.list 12 (C.map cX)],ae t,ae b] (.agg [ah d,.list 3 ((bl d t b).map ae),.list 12 ((ka d a t b C).map cX)]):=by
 have gQ:(kq d a t t b d 0).length=2*(d+1)+d+0:=od d a t t b d 0
 have lf:=nN d a t b
 have e0:(bO d a t b).getD 0 0=a:=by rw [dS _ _ _ _ _ J,if_pos J]
 have e1:(bO d a t b).getD ((bO d a t b).length-1) 0=b:=by rw [lf,dS _ _ _ _ _ J,if_neg J,if_neg J]
 have pR:∀ x∈(bO d a t b),rl x<=64:=abl ha ht hb
 have hwr:∀ x∈(kq d a t t b d 0),rl x<=64:=xn d a t t b d 0 ha ht ht hb
 have hw0:(kq d a t t b d 0).getD 0 0=a:=by rw [fM _ _ _ _ _ _ _ _ J,if_pos J]
 have hw1:(kq d a t t b d 0).getD ((kq d a t t b d 0).length-1) 0=b:=by rw [gQ,fM _ _ _ _ _ _ _ _ J,if_neg J,if_neg J,if_neg J]
 have pC:=alX d a t b C R h1 h6 bW df ha ht hb hC eN hR jA t (.inr rfl)
 rw [if_neg cA] at pC
 have pz:=aof d a t b C R h1 h6 bW df ha ht hb hC eN hR jA b (.inr rfl)
 rw [if_neg cA] at pz
 have main:=aiw (bO d a t b) (kq d a t t b d 0) d C ((List.range (2*d+1)).map fun j=>lO (bO d a t b) d ((fun j=>if j<=d then d else d+1) j) C (((kq d a t t b d 0).drop (j+1)).take d)) t b false true (d-1) 0 (fun j=>kq d a t t b (1+j) 0) (fun _=>(kq d a t t b d 0)) (2*d+1) (2*d+1) h6 J J (by rw [lf];omega) (by rw [lf];omega) (fun x hx=>Nat.le_trans (pR x hx) ai)
  rfl (by show kq d a t t b (1+(d-1)) 0=_;rw [show 1+(d-1)=d by omega]) rfl mh mh (fun x hx=>Nat.le_trans (hwr x hx) ai) mh
  (by rw [e0,e1,decide_eq_false cA,decide_eq_false cA];rfl) (by rw [hw0,hw1,decide_eq_true rfl,Bool.or_true]) J (Nat.zero_le _) (fun h=>by cases h) (fun _=>rfl) (fun _ j hj=>ao8 d a t b C R h1 h6 bW df ha ht hb hC eN hR jA j hj) (fun h=>by cases h) (fun j hj=>arY d a t b C R h1 h6 bW df ha ht hb hC eN hR jA j hj) (fun j hj=>absurd hj (Nat.not_lt_zero _))
  (an4 d a t b C R h1 h6 bW df ha ht hb hC eN hR jA) pC pz J (Nat.le_refl _) aO (by rw [gQ];simp;omega)
 have f1:((kq d a t t b d 0).take (2*d+1)).drop (2*d+1)=[]:=List.drop_of_length_le (by rw [List.length_take];exact Nat.min_le_left _ _)
 have f2:((((List.range (2*d+1)).map fun j=>lO (bO d a t b) d ((fun j=>if j<=d then d else d+1) j) C (((kq d a t t b d 0).drop (j+1)).take d)).take (2*d+1)).drop (2*d+1-1-d))=ka d a t b C:=by
  unfold ka
  refine List.ext_getElem bm fun i g1 g2=>?_
  have hi:i<d+1:=by simpa using g2
  simp only [List.getElem_drop,List.getElem_take,List.getElem_map,List.getElem_range]
  rw [show 2*d+1-1-d+i=d+i by omega,show kq d a t t b d 0=kq d a t b b d 0 by simp [kq],ar0 (.inr rfl) (.inl ⟨rfl,rfl⟩) J]
  congr 1
  by_cases c:i=0
  ·rw [if_pos c,if_pos J]
  ·rw [if_neg c,if_neg J]
 rw [f1,f2,List.append_nil] at main
 exact main
theorem ar7 {p q:List Rat} {R:Nat} (h:p.length-1+(q.length-1)<=40) (fv:p.length<=41) (iH:q.length<=41) (eN:1<=R) (oA:∀ x∈p,rl x<=R) (qw:∀ x∈q,rl x<=R):∀ x∈mb p q,rl x<=p.length*(q.length*(2*R+5))+5:=fun x hx=>by
 obtain⟨k,hk,rfl⟩:=List.mem_map.1 hx
 have hS:=adM fv iH eN oA qw p.length
 have l9:=fR J hS k
 have y9:=fR (S:=2) ai (xC (n:=p.length-1+(q.length-1)) h) k
 have h3:=oT ((allM p q p.length).getD k 0) ((g6 (p.length-1+(q.length-1))).getD k 0)
 omega
theorem arI {p q:List Rat} {R a b:Nat} (ha:p.length=a) (hb:q.length=b) (h1:a*b<=30) (h2:a<=6) (h3:b<=6) (eN:1<=R) (oA:∀ x∈p,rl x<=R) (qw:∀ x∈q,rl x<=R):∀ x∈mb p q,rl x<=60*R+155:=fun x hx=>by
 have h:=ar7 J J J eN oA qw x hx
 rw [ha,hb,<-Nat.mul_assoc] at h
 have:a*b*(2*R+5)<=30*(2*R+5):=Nat.mul_le_mul_right _ h1
 omega
structure mq (po:List aF) (d R:Nat):Prop where
 c:jW po d R
 d5:d<=5
 R1:1<=R
 R2:R<=1000
section
variable {po:List aF} {d R:Nat} (h:mq po d R)
include h
theorem mq.n (k:Nat):(bj po k).length=d+1/\∀ x∈bj po k,rl x<=2*R:=⟨by rw [n8,h.c.hl],adN h.c.ok k⟩
theorem mq.w:(aX po).length=d+1/\∀ x∈aX po,rl x<=R:=⟨by rw [me,h.c.hl],abZ h.c.ok⟩
theorem mq.dn (k:Nat):(gk (bj po k)).length=d/\∀ x∈gk (bj po k),rl x<=4*R+4:=by
 obtain⟨h1,h2⟩:=h.n k
 have:=h.c.hd
 have:=h.d5
 have:=h.R1
 exact⟨by rw [abo,h1,if_neg J];omega,fun x hx=>Nat.le_trans (ad7 J J h2 x hx) J⟩
theorem mq.dw:(gk (aX po)).length=d/\∀ x∈gk (aX po),rl x<=4*R+4:=by
 obtain⟨h1,h2⟩:=h.w
 have:=h.c.hd
 have:=h.d5
 exact⟨by rw [abo,h1,if_neg J];omega,fun x hx=>Nat.le_trans (ad7 h.R1 J h2 x hx) J⟩
theorem mq.dd:d*(d+1)<=30:=Nat.le_trans (Nat.mul_le_mul h.d5 (show d+1<=6 by have:=h.d5;omega)) ai
theorem mq.m1 (k:Nat):(mb (gk (bj po k)) (aX po)).length=2*d-1+1/\∀ x∈mb (gk (bj po k)) (aX po),rl x<=240*R+395:=by
 obtain⟨h1,h2⟩:=h.dn k
 obtain⟨h3,h4⟩:=h.w
 have:=h.c.hd
 have:=h.d5
 have h9:=h.dd
 exact⟨by rw [y6,h1,h3];omega,fun x hx=>Nat.le_trans (arI h1 h3 h9 J J J h2 (fun x hx=>Nat.le_trans (h4 x hx) J) x hx) J⟩
theorem mq.m2 (k:Nat):(mb (bj po k) (gk (aX po))).length=2*d-1+1/\∀ x∈mb (bj po k) (gk (aX po)),rl x<=240*R+395:=by
 obtain⟨h1,h2⟩:=h.n k
 obtain⟨h3,h4⟩:=h.dw
 have:=h.c.hd
 have:=h.d5
 have h9:=h.dd
 exact⟨by rw [y6,h1,h3];omega,fun x hx=>Nat.le_trans (arI h1 h3 (by rw [Nat.mul_comm];exact h9) J J J (fun x hx=>Nat.le_trans (h2 x hx) J) h4 x hx) J⟩
theorem mq.t (k:Nat):(fD po k).length=2*d-1+1/\∀ x∈fD po k,rl x<=480*R+791:=by
 obtain⟨h1,h2⟩:=h.m1 k
 obtain⟨_,h4⟩:=h.m2 k
 exact⟨by rw [fD,aeD,h1],fun x hx=>Nat.le_trans (anv iq J h2 h4 x hx) J⟩
theorem mq.lo:0<(gz (aX po)).1:=by
 have hl:=me po
 have h0:0<(aX po).length:=by rw [hl,h.c.hl];omega
 obtain⟨i,hi,e⟩:=((afe (aX po) (aX po).length).2 h0).1
 show 0<(lY (aX po) (aX po).length).1
 rw [e]
 obtain⟨q,hq,hw⟩:=List.mem_map.1 (dg (p:=aX po) hi)
 rw [<-hw]
 exact(h.c.ok q hq).2.2
theorem mq.sq:cZ (2*R) (lj (gz (aX po)))/\iU (lj (gz (aX po))) 0=false:=by
 have h0:0<(aX po).length:=by rw [me,h.c.hl];omega
 exact⟨avC (ad0 h.R1 h.w.2) h.R1,(sq_pos h.lo (avI h0)).2⟩
theorem mq.bt (k:Nat):cZ (480*R+791) (gz (fD po k)):=ad0 J (h.t k).2
theorem mq.qu (k:Nat):cZ (482*R+792) (sF (gz (fD po k)) (lj (gz (aX po)))):=(aqe (h.bt k) h.sq.1).le J
end
def zD (W:Rat) (po:List aF) (k:Nat):Rat × Rat:=sF (sF (gz (fD po k)) (lj (gz (aX po)))) (W,W)
def abk (W:Rat) (po:List aF):oE:=⟨zD W po 0,zD W po 1,zD W po 2⟩
theorem atk {W:Rat} (h:W≠0):iU (W,W) 0=false:=by
 unfold iU
 rcases(show W<0\/0<W by grind) with g | g
 ·rw [decide_eq_true (by show W<=0;grind),decide_eq_false (by show ¬(0<=W);grind)];rfl
 ·rw [decide_eq_false (by show ¬(W<=0);grind)];rfl
def ai5 (W:Rat) (po:List aF) (x:Rat):V3:=iZ (1/(W*(cL (aX po) x*cL (aX po) x))) ⟨cL (fD po 0) x,cL (fD po 1) x,cL (fD po 2) x⟩
open fN in
theorem ao2 (d:Nat) (kn:List Rat) (po:List aF) (R:Nat) (h:mq po d R):av Tryz.prog 185 [.agg [ah d,.list 3 (kn.map ae),.list 12 (po.map aT)]] (.agg [.list 3 ((fD po 0).map ae),.list 3 ((fD po 1).map ae),.list 3 ((fD po 2).map ae)]):=by
 have hl:=h.c.hl
 have hd:=h.c.hd
 have h6:=h.c.h6
 have h5:=h.d5
 have eN:=h.R1
 have hR2:=h.R2
 have fG:LV.pure (.agg [ah d,.list 3 (kn.map ae),.list 12 (po.map aT)])=true:=by simp [LV.pure,aG,aW ao,aW bw]
 have w1:=h.w
 have w2:=h.dw
 have n0:=h.n 0
 have d0:=h.dn 0
 have p0a:=h.m1 0
 have p0b:=h.m2 0
 have n1:=h.n 1
 have d1:=h.dn 1
 have p1a:=h.m1 1
 have p1b:=h.m2 1
 have n2:=h.n 2
 have d2:=h.dn 2
 have p2a:=h.m1 2
 have p2b:=h.m2 2
 refine aN Tryz.func185 (ht:=(fun g=>LV.cP g _ (by simp [LV.pure,aG,aW ao]))) ?_
 refine bq ?_
 refine cp aK (aeX d kn po R J h.c) ?_
 refine bf ?_
 refine cp aK (afK (aX po) J (fun x hx=>Nat.le_trans ((w1).2 x hx) J)) ?_
 refine gy ?_
 refine bF ?_
 refine az ?_
 refine bY (b:=_) rfl ai ?_
 refine bB ?_
 refine aY 15 an ?_
 refine ax ?_
 refine cp aK (afK (bj po 0) J (fun x hx=>Nat.le_trans ((n0).2 x hx) J)) ?_
 refine aL ?_
 refine cp aq (abM (gk (bj po 0)) (aX po) (4*R+4) J J J J J (fun x hx=>Nat.le_trans ((d0).2 x hx) J) (fun x hx=>Nat.le_trans ((w1).2 x hx) J)) ?_
 refine ax ?_
 refine cp aq (abM (bj po 0) (gk (aX po)) (4*R+4) J J J J J (fun x hx=>Nat.le_trans ((n0).2 x hx) J) (fun x hx=>Nat.le_trans ((w2).2 x hx) J)) ?_
 refine cp aq (aiu _ _ (2*d-1) J p0a.1 p0b.1 (fun x hx=>Nat.le_trans ((p0a).2 x hx) J) (fun x hx=>Nat.le_trans ((p0b).2 x hx) J)) ?_
 refine bB ?_
 refine bF ?_
 refine az ?_
 refine bY (b:=_) rfl ai ?_
 refine bB ?_
 refine aY 15 an ?_
 refine ax ?_
 refine cp aK (afK (bj po 1) J (fun x hx=>Nat.le_trans ((n1).2 x hx) J)) ?_
 refine aL ?_
 refine cp aq (abM (gk (bj po 1)) (aX po) (4*R+4) J J J J J (fun x hx=>Nat.le_trans ((d1).2 x hx) J) (fun x hx=>Nat.le_trans ((w1).2 x hx) J)) ?_
 refine ax ?_
 refine cp aq (abM (bj po 1) (gk (aX po)) (4*R+4) J J J J J (fun x hx=>Nat.le_trans ((n1).2 x hx) J) (fun x hx=>Nat.le_trans ((w2).2 x hx) J)) ?_
 refine cp aq (aiu _ _ (2*d-1) J p1a.1 p1b.1 (fun x hx=>Nat.le_trans ((p1a).2 x hx) J) (fun x hx=>Nat.le_trans ((p1b).2 x hx) J)) ?_
 refine bB ?_
 refine bF ?_
 refine az ?_
 refine bY (b:=_) rfl ai ?_
 refine bB ?_
 refine aY 15 an ?_
 refine ax ?_
 refine cp aK (afK (bj po 2) J (fun x hx=>Nat.le_trans ((n2).2 x hx) J)) ?_
 refine aL ?_
 refine cp aq (abM (gk (bj po 2)) (aX po) (4*R+4) J J J J J (fun x hx=>Nat.le_trans ((d2).2 x hx) J) (fun x hx=>Nat.le_trans ((w1).2 x hx) J)) ?_
 refine ax ?_
 refine cp aq (abM (bj po 2) (gk (aX po)) (4*R+4) J J J J J (fun x hx=>Nat.le_trans ((n2).2 x hx) J) (fun x hx=>Nat.le_trans ((w2).2 x hx) J)) ?_
 refine cp aq (aiu _ _ (2*d-1) J p2a.1 p2b.1 (fun x hx=>Nat.le_trans ((p2a).2 x hx) J) (fun x hx=>Nat.le_trans ((p2b).2 x hx) J)) ?_
 refine bB ?_
 refine bF ?_
 refine az ?_
 refine eE (b:=_) rfl ai ?_
 refine bu ?_
 exact fW [] rfl rfl rfl cs (dJ cs rfl) arJ (.pure (by simp [LV.pure,aG,aW ao]))
open fN in
theorem axu (d:Nat) (a b:Rat) (po:List aF) (ha:rl a<=100) (hb:rl b<=100) (cu:a<b) (h9:d<=6) (R:Nat) (h:mq po d R):av Tryz.prog 100 [.agg [ah d,.list 3 ((bl d a b).map ae),.list 12 (po.map aT)]] (lM (abk (b-a) po)):=by
 have hl:=h.c.hl
 have hd:=h.c.hd
 have h6:=h.c.h6
 have h5:=h.d5
 have eN:=h.R1
 have hR2:=h.R2
 have mo:∀ l:List Rat,aG (l.map ae)=true:=fun l=>aW ao l
 have fY:=jT d a b
 have bX:=xZ d a b
 have gj:=aai d a b
 have fG:LV.pure (.agg [ah d,.list 3 ((bl d a b).map ae),.list 12 (po.map aT)])=true:=by simp [LV.pure,aG,aW ao,aW bw]
 have w1:=h.w
 have hwq:=h.sq
 have hzW:=iq b a
 have hbW:cZ 1000 (b-a,b-a):=⟨by show rl (b-a)<=_;omega,by show rl (b-a)<=_;omega⟩
 have hnW:iU (b-a,b-a) 0=false:=atk cA
 have u0:=h.t 0
 have qq0:=(h.qu 0).le (show 482*R+792<=1000000 by omega)
 have bb0:=(h.bt 0).le (show 480*R+791<=1000000 by omega)
 have u1:=h.t 1
 have qq1:=(h.qu 1).le (show 482*R+792<=1000000 by omega)
 have bb1:=(h.bt 1).le (show 480*R+791<=1000000 by omega)
 have u2:=h.t 2
 have qq2:=(h.qu 2).le (show 482*R+792<=1000000 by omega)
 have bb2:=(h.bt 2).le (show 480*R+791<=1000000 by omega)
 have hD:=af2 d a b po ha hb cu h9
 have hW:av Tryz.prog 164 [aD (a,b)] (ae (b-a)):=agR (a,b) (by show rl b+rl a<=_;omega)
 have z0:av Tryz.prog 186 [aD (sF (gz (fD po 0)) (lj (gz (aX po)))),aD (b-a,b-a)] (.a7 [aD (zD (b-a) po 0),iL 0]):=aaE (sF (gz (fD po 0)) (lj (gz (aX po)))) (b-a,b-a) 1000000 ai qq0 (hbW.le ai) hnW
 have z1:av Tryz.prog 186 [aD (sF (gz (fD po 1)) (lj (gz (aX po)))),aD (b-a,b-a)] (.a7 [aD (zD (b-a) po 1),iL 0]):=aaE (sF (gz (fD po 1)) (lj (gz (aX po)))) (b-a,b-a) 1000000 ai qq1 (hbW.le ai) hnW
 have z2:av Tryz.prog 186 [aD (sF (gz (fD po 2)) (lj (gz (aX po)))),aD (b-a,b-a)] (.a7 [aD (zD (b-a) po 2),iL 0]):=aaE (sF (gz (fD po 2)) (lj (gz (aX po)))) (b-a,b-a) 1000000 ai qq2 (hbW.le ai) hnW
 refine aN Tryz.func100 (ht:=(fun r=>LV.cP r _ (vS.pure _))) ?_
 refine dj ?_
 refine cp aK (hD) ?_
 refine cp aK (hW) ?_
 refine cp aK (pY (b-a) J) ?_
 refine aR ?_
 refine cp aK (aeX d (bl d a b) po R J h.c) ?_
 refine ar ?_
 refine cp aK (afs (aX po) J (fun x hx=>Nat.le_trans ((w1).2 x hx) J)) ?_
 refine cp aK (aw6 (gz (aX po)) R J (ad0 J w1.2)) ?_
 refine bf ?_
 refine cp aK (ao2 d (bl d a b) po R h) ?_
 refine ax ?_
 refine bF ?_
 refine az ?_
 refine bY (b:=_) rfl ai ?_
 refine dp ?_
 refine fS 8 [6] an ?_
 refine ar ?_
 refine cp aK (afs (fD po 0) J (fun x hx=>Nat.le_trans ((u0).2 x hx) J)) ?_
 refine ar ?_
 refine cp aq (aaE (gz (fD po 0)) (lj (gz (aX po))) 1000000 ai bb0 (hwq.1.le J) hwq.2) ?_
 refine bu ?_
 refine cp aq (z0) ?_
 refine bf ?_
 refine cq (aw.kill _ 8) ?_
 refine ax ?_
 refine bF ?_
 refine az ?_
 refine bY (b:=_) rfl ai ?_
 refine dp ?_
 refine fS 8 [6] an ?_
 refine ar ?_
 refine cp aK (afs (fD po 1) J (fun x hx=>Nat.le_trans ((u1).2 x hx) J)) ?_
 refine ar ?_
 refine cp aq (aaE (gz (fD po 1)) (lj (gz (aX po))) 1000000 ai bb1 (hwq.1.le J) hwq.2) ?_
 refine bu ?_
 refine cp aq (z1) ?_
 refine bf ?_
 refine cq (aw.kill _ 8) ?_
 refine ax ?_
 refine bF ?_
 refine az ?_
 refine bY (b:=_) rfl ai ?_
 refine dp ?_
 refine fS 8 [6] an ?_
 refine ar ?_
 refine cp aK (afs (fD po 2) J (fun x hx=>Nat.le_trans ((u2).2 x hx) J)) ?_
 refine ar ?_
 refine cp aq (aaE (gz (fD po 2)) (lj (gz (aX po))) 1000000 ai bb2 (hwq.1.le J) hwq.2) ?_
 refine bu ?_
 refine cp aq (z2) ?_
 refine bf ?_
 refine cq (aw.kill _ 8) ?_
 refine ax ?_
 refine bF ?_
 refine az ?_
 refine eE (b:=_) rfl ai ?_
 refine bu ?_
 exact fW [] rfl rfl rfl cs (dJ cs rfl) T97 (.pure pu)
open fN in
theorem avX (d:Nat) (a b:Rat) (po:List aF) (ha:rl a<=100) (hb:rl b<=100) (cu:a<b) (h9:d<=6) (R:Nat) (h:mq po d R) (t x:Rat) (ht:rl t<=100) (h1:a<=t) (h2:t<=b) (hx:(t-a)/(b-a)=x) (tq:rl x<=1000):av Tryz.prog 104 [.agg [ah d,.list 3 ((bl d a b).map ae),.list 12 (po.map aT)],ae t] (.a7 [aS (ai5 (b-a) po x),iL 0]):=by
 have mj:0<po.length:=by have:=h.c.hl;omega
 have hl:=h.c.hl
 have hd:=h.c.hd
 have h6:=h.c.h6
 have h5:=h.d5
 have eN:=h.R1
 have hR2:=h.R2
 have mo:∀ l:List Rat,aG (l.map ae)=true:=fun l=>aW ao l
 have fY:=jT d a b
 have bX:=xZ d a b
 have gj:=aai d a b
 have fG:LV.pure (.agg [ah d,.list 3 ((bl d a b).map ae),.list 12 (po.map aT)])=true:=by simp [LV.pure,aG,aW ao,aW bw]
 have w1:=h.w
 have dq:HS (aX po) x:=adS J (fun y hy=>Nat.le_trans (w1.2 y hy) J) J
 have q0:=dq.ev
 have hzW:=iq b a
 have m0:=cO (cL (aX po) x) (cL (aX po) x)
 have m2:=cO (b-a) ((cL (aX po) x)*(cL (aX po) x))
 have m1:=oT 1 ((b-a)*((cL (aX po) x)*(cL (aX po) x)))
 have ib:rl 1=1:=rfl
 have u0:=h.t 0
 have v0:HS (fD po 0) x:=adS J (fun y hy=>Nat.le_trans (u0.2 y hy) J) J
 have y0:=v0.ev
 have u1:=h.t 1
 have v1:HS (fD po 1) x:=adS J (fun y hy=>Nat.le_trans (u1.2 y hy) J) J
 have y1:=v1.ev
 have u2:=h.t 2
 have v2:HS (fD po 2) x:=adS J (fun y hy=>Nat.le_trans (u2.2 y hy) J) J
 have y2:=v2.ev
 have r7:av Tryz.prog 107 [iL 1] (ae 1):=uk 1 ai ai
 refine aN Tryz.func104 (ht:=(jh (bg.pure _) rfl)) ?_
 refine bu ?_
 refine cp aq (agx d a b po ha hb cu h9 t x ht h1 h2 hx mj) ?_
 refine mQ ?_
 refine aC rfl ?_ ?_<;>intro p7 oS
 ·first | exact oS.elim | cases p7
 ·refine aJ ?_
  refine aY 6 an ?_
  refine ar ?_
  refine cp aK (aeX d (bl d a b) po R J h.c) ?_
  refine aL ?_
  refine cp aq (aft (aX po) x dq J) ?_
  refine aZ ?_
  refine fS 11 [9] an ?_
  refine cp aK (r7) ?_
  refine aJ ?_
  refine cp aq (gf (cL (aX po) x) (cL (aX po) x) J) ?_
  refine cp aq (gf (b-a) ((cL (aX po) x)*(cL (aX po) x)) J) ?_
  refine cp aq (td 1 ((b-a)*((cL (aX po) x)*(cL (aX po) x))) J) ?_
  refine im ?_
  refine cp aK (ao2 d (bl d a b) po R h) ?_
  refine ax ?_
  refine bF ?_
  refine az ?_
  refine bY (b:=_) rfl ai ?_
  refine bu ?_
  refine aY 7 an ?_
  refine ax ?_
  refine cp aq (aft (fD po 0) x v0 J) ?_
  refine cp aq (gf (1/((b-a)*((cL (aX po) x)*(cL (aX po) x)))) (cL (fD po 0) x) J) ?_
  refine bB ?_
  refine bF ?_
  refine az ?_
  refine bY (b:=_) rfl ai ?_
  refine bu ?_
  refine aY 7 an ?_
  refine ax ?_
  refine cp aq (aft (fD po 1) x v1 J) ?_
  refine cp aq (gf (1/((b-a)*((cL (aX po) x)*(cL (aX po) x)))) (cL (fD po 1) x) J) ?_
  refine bB ?_
  refine bF ?_
  refine az ?_
  refine bY (b:=_) rfl ai ?_
  refine bu ?_
  refine aY 7 an ?_
  refine ax ?_
  refine cp aq (aft (fD po 2) x v2 J) ?_
  refine cp aq (gf (1/((b-a)*((cL (aX po) x)*(cL (aX po) x)))) (cL (fD po 2) x) J) ?_
  refine bB ?_
  refine bF ?_
  refine az ?_
  refine eE (b:=_) rfl ai ?_
  refine dp ?_
  exact sN [] rfl rfl rfl cs (dJ cs rfl) ij (.pure pu) rfl (.pure rfl)
def gI (p q:V3):V3:=⟨p.y*q.z-p.z*q.y,p.z*q.x-p.x*q.z,p.x*q.y-p.y*q.x⟩
theorem yV {R:Nat} {p q:V3} (hp:cj R p) (hq:cj R q):cj (4*R+5) (gI p q):=by
 obtain⟨a1,a2,a3⟩:=hp
 obtain⟨b1,b2,b3⟩:=hq
 have g:∀ a b c d:Rat,rl a<=R->rl b<=R->rl c<=R->rl d<=R->rl (a*b-c*d)<=4*R+5:=fun a b c d h1 h2 h3 h4=>by
  have m1:=cO a b
  have m2:=cO c d
  have m3:=iq (a*b) (c*d)
  omega
 exact⟨g _ _ _ _ a2 b3 a3 b2,g _ _ _ _ a3 b1 a1 b3,g _ _ _ _ a1 b2 a2 b1⟩
def sbS (s t:Rat × Rat):Rat × Rat:=(s.1-t.2,s.2-t.1)
theorem aqQ {R S:Nat} {s t:Rat × Rat} (hs:cZ R s) (ht:cZ S t):cZ (R+S+1) (sbS s t):=by
 have m1:=iq s.1 t.2
 have m2:=iq s.2 t.1
 exact⟨by show rl (s.1-t.2)<=_;have:=hs.1;have:=ht.2;omega,by show rl (s.2-t.1)<=_;have:=hs.2;have:=ht.1;omega⟩
open fN in
theorem aga (p q:V3) (R:Nat) (hR:R<=1000000000) (hp:cj R p) (hq:cj R q):av Tryz.prog 198 [aS p,aS q] (aS (gI p q)):=by
 obtain⟨a1,a2,a3⟩:=hp
 obtain⟨y1,y2,y3⟩:=hq
 have m01:=cO p.x q.y
 have m02:=cO p.x q.z
 have m10:=cO p.y q.x
 have m12:=cO p.y q.z
 have m20:=cO p.z q.x
 have m21:=cO p.z q.y
 refine aN Tryz.func198 (ht:=(fun r=>LV.cP r _ (bg.pure _))) ?_
 refine nh ?_
 refine bF ?_
 refine az ?_
 refine bY (b:=_) rfl ai ?_
 refine dp ?_
 refine ak rfl (.bin rfl rfl (show dk .add .i64 0 1=some (.int .i64 ((1:Nat):Int)) from rfl)) ?_
 refine ak rfl (.bin rfl rfl (show dk .rem .i64 1 3=some (.int .i64 ((1:Nat):Int)) from rfl)) ?_
 refine ar ?_
 refine ak rfl (.bin rfl rfl (show dk .add .i64 0 2=some (.int .i64 ((2:Nat):Int)) from rfl)) ?_
 refine ak rfl (.bin rfl rfl (show dk .rem .i64 2 3=some (.int .i64 ((2:Nat):Int)) from rfl)) ?_
 refine ax ?_
 refine aY 17 an ?_
 refine aR ?_
 refine cp aq (gf p.y q.z J) ?_
 refine az ?_
 refine cp aq (gf p.z q.y J) ?_
 refine cp aq (p6 (p.y*q.z) (p.z*q.y) J) ?_
 refine bB ?_
 refine bF ?_
 refine az ?_
 refine bY (b:=_) rfl ai ?_
 refine dp ?_
 refine ak rfl (.bin rfl rfl (show dk .add .i64 1 1=some (.int .i64 ((2:Nat):Int)) from rfl)) ?_
 refine ak rfl (.bin rfl rfl (show dk .rem .i64 2 3=some (.int .i64 ((2:Nat):Int)) from rfl)) ?_
 refine ar ?_
 refine ak rfl (.bin rfl rfl (show dk .add .i64 1 2=some (.int .i64 ((3:Nat):Int)) from rfl)) ?_
 refine ak rfl (.bin rfl rfl (show dk .rem .i64 3 3=some (.int .i64 ((0:Nat):Int)) from rfl)) ?_
 refine ax ?_
 refine aY 17 an ?_
 refine aR ?_
 refine cp aq (gf p.z q.x J) ?_
 refine az ?_
 refine cp aq (gf p.x q.z J) ?_
 refine cp aq (p6 (p.z*q.x) (p.x*q.z) J) ?_
 refine bB ?_
 refine bF ?_
 refine az ?_
 refine bY (b:=_) rfl ai ?_
 refine dp ?_
 refine ak rfl (.bin rfl rfl (show dk .add .i64 2 1=some (.int .i64 ((3:Nat):Int)) from rfl)) ?_
 refine ak rfl (.bin rfl rfl (show dk .rem .i64 3 3=some (.int .i64 ((0:Nat):Int)) from rfl)) ?_
 refine ar ?_
 refine ak rfl (.bin rfl rfl (show dk .add .i64 2 2=some (.int .i64 ((4:Nat):Int)) from rfl)) ?_
 refine ak rfl (.bin rfl rfl (show dk .rem .i64 4 3=some (.int .i64 ((1:Nat):Int)) from rfl)) ?_
 refine ax ?_
 refine aY 17 an ?_
 refine aR ?_
 refine cp aq (gf p.x q.y J) ?_
 refine az ?_
 refine cp aq (gf p.y q.x J) ?_
 refine cp aq (p6 (p.x*q.y) (p.y*q.x) J) ?_
 refine bB ?_
 refine bF ?_
 refine az ?_
 refine eE (b:=_) rfl ai ?_
 refine bu ?_
 exact qo
open fN in
theorem aqB (s t:Rat × Rat) (R:Nat) (hR:R<=1000000000) (hs:cZ R s) (ht:cZ R t):av Tryz.prog 187 [aD s,aD t] (aD (sbS s t)):=by
 obtain⟨a1,a2⟩:=hs
 obtain⟨y1,y2⟩:=ht
 refine aN Tryz.func187 ?_
 refine bf ?_
 refine aY 11 an ?_
 refine ax ?_
 refine cp aq (p6 s.1 t.2 J) ?_
 refine ax ?_
 refine cp aq (p6 s.2 t.1 J) ?_
 refine aZ ?_
 exact rh
def kx (d:Nat) (T:Rat) (dM:List Rat) (E:Rat):List Rat:=List.replicate (d+1) T++(dM++List.replicate (d+1) E)
theorem ajC (d:Nat) (T:Rat) (dM:List Rat) (E:Rat):(kx d T dM E).length=2*(d+1)+dM.length:=by simp [kx];omega
theorem ad6 (d:Nat) (T:Rat) (dM:List Rat) (E:Rat) (i:Nat) (h:i<2*(d+1)+dM.length):(kx d T dM E).getD i 0=if i<d+1 then T else if i<d+1+dM.length then dM.getD (i-(d+1)) 0 else E:=by
 unfold kx
 split
 ·rw [vp bm,rZ J]
 ·rw [vk bm,List.length_replicate]
  split
  ·rw [vp J]
  ·rw [vk J,rZ J]
theorem apl {l:List Rat} {t:Rat} (h:∀ x∈l,x≠t):∀ i,i<=l.length->fk l t i=0
 | 0,_=>rfl
 | i+1,hi=>by rw [fk,apl h i J,if_neg (h _ (dg J))]
theorem aov (d:Nat) (T:Rat) (dM:List Rat) (E t:Rat):fk (kx d T dM E) t (kx d T dM E).length=(if T=t then d+1 else 0)+(fk dM t dM.length+(if E=t then d+1 else 0)):=by
 have h:=aei (List.replicate (d+1) T) (dM++List.replicate (d+1) E) t (dM.length+(d+1))
 have h2:=aei dM (List.replicate (d+1) E) t (d+1)
 rw [List.length_replicate] at h
 have e:(kx d T dM E).length=d+1+(dM.length+(d+1)):=by rw [ajC];omega
 rw [e]
 show fk (List.replicate (d+1) T++_) t _=_
 rw [h,h2,ab4 _ _ _ _ (Nat.le_refl _),ab4 _ _ _ _ (Nat.le_refl _)]
structure ahJ (d:Nat) (T:Rat) (dM:List Rat) (E:Rat):Prop where
 btw:∀ x∈dM,T<x/\x<E
 yX:∀ i,i+1<dM.length->dM.getD i 0<=dM.getD (i+1) 0
 tms:∀ x∈dM,fk dM x dM.length<=d
 len:dM.length<=2
 sz:∀ x∈dM,rl x<=64
theorem aoo {d:Nat} {T E:Rat} {dM:List Rat} (h1:1<=d) (h6:d<=6) (hT:rl T<=64) (hE:rl E<=64) (hTE:T<E) (h:ahJ d T dM E):yr (kx d T dM E) d:=by
 have hl:=ajC d T dM E
 have hn:=h.len
 have aQ:T≠E:=by grind
 have e0:(kx d T dM E).getD 0 0=T:=by rw [ad6 _ _ _ _ _ J,if_pos J]
 have e1:(kx d T dM E).getD ((kx d T dM E).length-1) 0=E:=by rw [hl,ad6 _ _ _ _ _ J,if_neg J,if_neg J]
 have hm:∀ x∈kx d T dM E,x=T\/x∈dM\/x=E:=fun x hx=>by
  rcases List.mem_append.1 hx with g | g
  ·exact .inl (List.mem_replicate.1 g).2
  ·rcases List.mem_append.1 g with g | g
   ·exact .inr (.inl g)
   ·exact .inr (.inr (List.mem_replicate.1 g).2)
 refine⟨h1,h6,J,J,fun i hi=>?_,by rw [e0,e1];exact aQ,fun t ht he=>?_,fun t ht g0 g1=>?_,fun x hx=>?_⟩
 ·rw [ad6 _ _ _ _ _ J,ad6 _ _ _ _ _ J]
  by_cases c1:i+1<d+1
  ·rw [if_pos J,if_pos c1];exact Rat.le_refl
  ·rw [if_neg c1]
   by_cases c2:i<d+1
   ·rw [if_pos c2]
    split
    ·exact Rat.le_of_lt (h.btw _ (dg J)).1
    ·exact Rat.le_of_lt hTE
   ·rw [if_neg c2]
    by_cases c3:i+1<d+1+dM.length
    ·rw [if_pos J,if_pos c3,show i+1-(d+1)=i-(d+1)+1 by omega]
     exact h.yX _ J
    ·rw [if_neg c3]
     split
     ·exact Rat.le_of_lt (h.btw _ (dg J)).2
     ·exact Rat.le_refl
 ·rw [aov]
  rw [e0,e1] at he
  have z:∀ s,(s=T\/s=E)->fk dM s dM.length=0:=fun s hs=>apl (fun x hx e=>by
   have:=h.btw x hx
   rcases hs with rfl | rfl
   ·rw [e] at this;exact absurd this.1 cA
   ·rw [e] at this;exact absurd this.2 cA) _ (Nat.le_refl _)
  rw [z t he]
  rcases he with rfl | rfl
  ·rw [if_pos rfl,if_neg (fun e=>aQ e.symm)]
  ·rw [if_neg aQ,if_pos rfl];omega
 ·rw [e0] at g0;rw [e1] at g1
  rw [aov,if_neg (fun e=>g0 e.symm),if_neg (fun e=>g1 e.symm)]
  rcases hm t ht with e | e | e
  ·exact absurd e g0
  ·have:=h.tms t e;omega
  ·exact absurd e g1
 ·rcases hm x hx with rfl | g | rfl
  ·exact hT
  ·exact h.sz x g
  ·exact hE
open fN in
theorem az1 (d:Nat) (kn:List Rat) (po:List aF) (R:Nat) (hR:R<=1000000) (h:jW po d R):av Tryz.prog 45 [.agg [ah d,.list 3 (kn.map ae),.list 12 (po.map aT)]] (lM (nV (po.map (·.p)))):=by
 have hl:=h.hl
 have hd:=h.hd
 have h6:=h.h6
 have yd:∀ i,i<(po.map (·.p)).length->cj R ((po.map (·.p)).getD i default):=fun i hi=>by
  rw [List.length_map] at hi
  rw [awg]
  exact(h.ok _ (qM hi)).1
 have fG:LV.pure (.agg [ah d,.list 3 (kn.map ae),.list 12 (po.map aT)])=true:=by simp [LV.pure,aG,aW ao,aW bw]
 refine aN Tryz.func45 (ht:=(fun r=>LV.cP r _ (vS.pure _))) ?_
 refine bq ?_
 refine cp aK (ayA d kn po R hR h) ?_
 refine cp aK (aB8 (po.map (·.p)) ky ky R hR yd) ?_
 refine gy ?_
 exact fW [] rfl rfl rfl cs (dJ cs rfl) T97 (.pure pu)
def jy (l:List Int) (j:Nat):Rat:=((1+dQ l j 3:Int):Rat)/((1+dQ l (bz l j) 2:Int):Rat)
def dH (l:List Int) (d:Nat) (k:List Rat) (j:Nat):Nat:=if k.length=d+1 then j else bz l j
def pK (l:List Int) (d:Nat) (k:List Rat) (t:Rat) (j:Nat):Prop:=k.length=d+1\/0<dQ l j 3\/t=k.getD (k.length-d) 0
instance (l:List Int) (d:Nat) (k:List Rat) (t:Rat) (j:Nat):Decidable (pK l d k t j):=by unfold pK;infer_instance
def mT (l:List Int) (d:Nat):Nat->List Rat->Rat->Nat->List Rat × Rat × Nat
 | 0,k,t,j=>(k,t,j)
 | n+1,k,t,j=>if pK l d k t j then mT l d n (k++[t+jy l (dH l d k j)]) (t+jy l (dH l d k j)) (bz l (bz l (dH l d k j))) else mT l d n (k++[t]) t (dH l d k j)
theorem aaK (l:List Int) (j:Nat):0<jy l j/\rl (jy l j)<=2:=by
 have h1:=mZ (l:=l) (k:=j) (n:=3) ai
 have h2:=mZ (l:=l) (k:=bz l j) (n:=2) ai
 have r1:rl ((1+dQ l j 3:Int):Rat)<=1:=abN J
 have r2:rl ((1+dQ l (bz l j) 2:Int):Rat)<=1:=abN J
 have r3:=oT ((1+dQ l j 3:Int):Rat) ((1+dQ l (bz l j) 2:Int):Rat)
 refine⟨?_,by unfold jy;omega⟩
 unfold jy
 rw [Rat.div_def]
 exact Rat.mul_pos (Rat.intCast_pos.2 J) (Rat.inv_pos.2 (Rat.intCast_pos.2 J))
theorem aAV (l:List Int) {d n:Nat} {T:Rat} (hd:1<=d) (hn:n<=2) (hT:rl T<=1) (j:Nat) :
  ∃ dM t j',mT l d n (List.replicate (d+1) T) T j=(List.replicate (d+1) T++dM,t,j')/\dM.length=n/\ahJ d T dM (t+1)/\rl t<=7/\T<t+1:=by
 have ib:rl 1=1:=rfl
 match n,hn with
 | 0,_ =>
  refine⟨[],T,j,by rw [List.append_nil];rfl,rfl,⟨fun x hx=>(by cases hx),fun i hi=>(by simp at hi),fun x hx=>(by cases hx),by decide,fun x hx=>(by cases hx)⟩,J,by grind⟩
 | 1,_ =>
  have hF:=aaK l (dH l d (List.replicate (d+1) T) j)
  have hb:pK l d (List.replicate (d+1) T) T j:=.inl aO
  refine⟨[T+jy l (dH l d (List.replicate (d+1) T) j)],T+jy l (dH l d (List.replicate (d+1) T) j),bz l (bz l (dH l d (List.replicate (d+1) T) j)),by rw [mT,if_pos hb,mT],rfl,?_,?_,?_⟩
  ·generalize jy l _=f at hF
   have:=jx T f
   refine⟨fun x hx=>?_,fun i hi=>(by simp at hi),fun x hx=>?_,by simp,fun x hx=>?_⟩
   ·rw [List.mem_singleton.1 hx];constructor<;>grind
   ·show fk _ x 1<=d
    have:=ace [T+f] x 1
    omega
   ·rw [List.mem_singleton.1 hx];omega
  ·have:=jx T (jy l (dH l d (List.replicate (d+1) T) j));omega
  ·grind
 | 2,_ =>
  have hb:pK l d (List.replicate (d+1) T) T j:=.inl aO
  have hF:=aaK l (dH l d (List.replicate (d+1) T) j)
  rw [mT,if_pos hb]
  generalize bz l (bz l (dH l d (List.replicate (d+1) T) j))=j1
  generalize jy l (dH l d (List.replicate (d+1) T) j)=f at *
  have a1:=jx T f
  rw [mT]
  by_cases tZ:pK l d (List.replicate (d+1) T++[T+f]) (T+f) j1
  ·rw [if_pos tZ,mT]
   have hG:=aaK l (dH l d (List.replicate (d+1) T++[T+f]) j1)
   generalize bz l (bz l (dH l d (List.replicate (d+1) T++[T+f]) j1))=j2
   generalize jy l (dH l d (List.replicate (d+1) T++[T+f]) j1)=g at *
   have a2:=jx (T+f) g
   refine⟨[T+f,T+f+g],T+f+g,j2,by rw [List.append_assoc];rfl,rfl,⟨fun x hx=>?_,fun i hi=>?_,fun x hx=>?_,by simp,fun x hx=>?_⟩,J,by grind⟩
   ·simp only [List.mem_cons,List.not_mem_nil,or_false] at hx
    rcases hx with rfl | rfl<;>constructor<;>grind
   ·obtain rfl:i=0:=by simp at hi;omega
    show T+f<=T+f+g
    grind
   ·show fk _ x 2<=d
    have aQ:T+f≠T+f+g:=by grind
    have e:fk [T+f,T+f+g] x 2=0+(if T+f=x then 1 else 0)+(if T+f+g=x then 1 else 0):=rfl
    rw [e]
    by_cases c:T+f=x
    ·rw [if_pos c,if_neg (fun e=>aQ (c.trans e.symm))];omega
    ·rw [if_neg c];split<;>omega
   ·simp only [List.mem_cons,List.not_mem_nil,or_false] at hx
    rcases hx with rfl | rfl<;>omega
  ·rw [if_neg tZ,mT]
   have tD:2<=d:=by
    rcases Nat.lt_or_ge d 2 with c | c
    ·exfalso
     obtain rfl:d=1:=by omega
     refine tZ (.inr (.inr ?_))
     rw [show (List.replicate (1+1) T++[T+f]).length-1=2 by simp,vk aO];simp
    ·exact c
   refine⟨[T+f,T+f],T+f,dH l d (List.replicate (d+1) T++[T+f]) j1,by rw [List.append_assoc];rfl,rfl,⟨fun x hx=>?_,fun i hi=>?_,fun x hx=>?_,by simp,fun x hx=>?_⟩,J,by grind⟩
   ·simp only [List.mem_cons,List.not_mem_nil,or_false,or_self] at hx
    subst hx;constructor<;>grind
   ·obtain rfl:i=0:=by simp at hi;omega
    exact Rat.le_refl
   ·show fk _ x 2<=d
    have:=ace [T+f,T+f] x 2
    omega
   ·simp only [List.mem_cons,List.not_mem_nil,or_false,or_self] at hx
    subst hx;omega
def uG (l:List Int) (k n:Nat):Nat:=(dQ l (bz l k) ((n+1:Nat):Int)).toNat
def we (l:List Int) (d k n:Nat):List Rat × Rat × Nat:=mT l d (uG l k n) (List.replicate (d+1) (kS l k)) (kS l k) (bz l (bz l k))
def knX (l:List Int) (d k n:Nat):List Rat:=(we l d k n).1++List.replicate (d+1) ((we l d k n).2.1+1)
theorem aeA (l:List Int) (k n:Nat):(uG l k n:Int)=dQ l (bz l k) ((n+1:Nat):Int)/\uG l k n<=n:=by
 have h:=mZ (l:=l) (k:=bz l k) (n:=((n+1:Nat):Int)) J
 unfold uG
 omega
structure kiI (l:List Int) (d N c:Nat) (K:List Rat) (t:Rat) (j:Nat) (R:List Rat × Rat × Nat):Prop where
 hj:j<=500
 hl:K.length+c=d+1+N
 ht:rl t+3*c<=1+3*N
 hK:∀ x∈K,rl x<=7
 hR:mT l d c K t j=R
theorem ar1 {K:List Rat} {t:Rat} {R:Nat} (h:∀ x∈K,rl x<=R) (ht:rl t<=R):∀ x∈K++[t],rl x<=R:=fun x hx=>by
 rcases List.mem_append.1 hx with h1 | h1
 ·exact h x h1
 ·rw [List.mem_singleton.1 h1];exact ht
theorem acH {l:List Int} {d j:Nat} {K:List Rat} (hl:l.length<=500) (hj:j<=500):dH l d K j<=500:=by
 unfold dH;split
 ·exact hj
 ·exact l6 hl hj
theorem kiI.yes {l:List Int} {d N c:Nat} {K:List Rat} {t:Rat} {j:Nat} {R:List Rat × Rat × Nat} (hl:l.length<=500) (hN:N<=2) (h:kiI l d N (c+1) K t j R) (hb:pK l d K t j) :
  kiI l d N c (K++[t+jy l (dH l d K j)]) (t+jy l (dH l d K j)) (bz l (bz l (dH l d K j))) R:=by
 have hF:=(aaK l (dH l d K j)).2
 have h1:=jx t (jy l (dH l d K j))
 have h2:=h.ht
 have h3:=h.hl
 have h4:=h.hR
 rw [mT,if_pos hb] at h4
 exact⟨l6 hl (l6 hl (acH hl h.hj)),by simp;omega,J,ar1 h.hK J,h4⟩
theorem kiI.no {l:List Int} {d N c:Nat} {K:List Rat} {t:Rat} {j:Nat} {R:List Rat × Rat × Nat} (hl:l.length<=500) (hN:N<=2) (h:kiI l d N (c+1) K t j R) (hb:¬pK l d K t j) :
  kiI l d N c (K++[t]) t (dH l d K j) R:=by
 have h2:=h.ht
 have h3:=h.hl
 have h4:=h.hR
 rw [mT,if_neg hb] at h4
 exact⟨acH hl h.hj,by simp;omega,J,ar1 h.hK J,h4⟩
namespace akG
theorem aH {p q:Prop} (k:q) (e:p=q:=by simp only [e1,e2,e3,e4,p1,p2,p3,q1,q2,q3,l1,t0,t1,r1,r2,r3,r4,Nat.zero_add,Nat.reduceMul,Nat.reduceAdd,b1,b2,b3,b4,b5,b6,i1,i2,i3,i4,i5,i6,Nat.reduceBEq,l1,amB,alq,aou,gr,abW,ekb,ekj,eix,cy,List.length_map,List.append_nil,List.replicate_zero,Nat.add_zero,kW,kJ,iA,List.length_cons,List.length_nil,List.nil_append,List.length_append,List.length_replicate,List.set_cons_zero,List.set_cons_succ,Nat.reduceEqDiff,reduceIte,if_true,if_false,dU,eo,aP bw,aP ao,cH,dO,LV.kill,bN,acB];exact rfl):p:=e.mpr k
end akG
open akG in
theorem aCL (l:List Int) (k:Nat) (hl:l.length<=500) (d:Nat) (ks:1<=d) (hd:d<=6) (n:Nat) (hn:n<=2) (hk:k<=500):lH Tryz.prog 76 ⟨2,[ik l k],true⟩ [.aA 0 2 0 0,ah d,ah n] (.list 3 ((knX l d k n).map ae)) ⟨2,[ik l (we l d k n).2.2],true⟩:=by
 have k1:=l6 (l:=l) hl hk
 have k2:=l6 (l:=l) hl k1
 have hb:=mZ (l:=l) (k:=k) (n:=4) ai
 obtain⟨mz,lI⟩:=aeA l k n
 obtain⟨ht1,ht2⟩:=apZ l k
 have h1r:rl 1=1:=rfl
 refine ud Tryz.func76 ?_
 have amB:True:=trivial
 have alq:True:=trivial
 have aou:True:=trivial
 have gr:True:=trivial
 have abW:True:=trivial
 have ekb:True:=trivial
 have ekj:True:=trivial
 have eix:True:=trivial
 refine bf ?_
 refine kj 0 rfl rfl rfl (cY l _) (.cons .ptr (.cons (.cf (.pure rfl)) .nil)) .ptr (oy l k 4 J J J J) rfl (cY l _) rfl ?_
 refine ak rfl te ?_
 refine cp aK (oQ (dQ l k 4-2) J J) ?_
 refine mH ?_
 refine ju (aw.own (t:=8) 24 3 rfl rfl) ?_
 refine dG (fun(i:Nat) L=>(((((((St.mk L.slot (hp [(0,⟨2,[ik l (bz l k)],true⟩),(7,⟨3,[ae (kS l k)],true⟩),(24,⟨3,(List.replicate i (kS l k)).map ae,true⟩)])).put (some 0) (.aA 0 2 0 0)).put (some 1) (ah d)).put (some 7) (.aA 7 3 0 0)).put (some 2) (ah n)).put (some 8) (.ref 24 3 0 i)).put (some 9) (ah i))) (fun i=>i<=d+1) (fun i=>d+1-i) 0 (Nat.zero_le _) ?_
 rintro i L1 hi
 refine bf ?_
 refine aC rfl ?_ ?_<;>intro rz rp
 ·have dA:i<=d:=by omega
  have gr:=an3 i (kS l k)
  have amB:((List.replicate i (kS l k)).map ae).take i=(List.replicate i (kS l k)).map ae:=List.take_of_length_le aO
  refine bf ?_
  refine bI rfl (.ga (d:=24) (news:=[ae ((kS l k))]) rfl rfl rfl rfl aO (.inl rfl) ai Tryz.underlying25 Tryz.underlying25 jY cJ rfl kA (.inl ⟨23,0,_,rfl,by decide,rfl,rfl,by simp,rfl,by simp [aG,ao.pure]⟩) bm bm ai) ?_
  refine ax ?_
  refine cq (aw.kill _ 23) ?_
  refine ar ?_
  refine ak rfl cB ?_
  refine aJ ?_
  exact jS
 ·obtain rfl:i=d+1:=by omega
  refine bB ?_
  refine ak rfl cB ?_
  refine kj 0 rfl rfl rfl (cY l _) (.cons .ptr (.cons (.cf (.pure rfl)) .nil)) .ptr (oy l (bz l k) ((n+1:Nat):Int) J J J J) rfl (cY l _) rfl ?_
  rw [<-mz]
  refine ax ?_
  refine lp4 (fun(c:Nat) (K:List Rat) (t:Rat) (j:Nat) L=>((((((St.mk L.slot (hp [(0,⟨2,[ik l j],true⟩),(7,⟨3,[ae t],true⟩),(24,⟨3,K.map ae,true⟩)])).put (some 0) (.aA 0 2 0 0)).put (some 1) (ah d)).put (some 7) (.aA 7 3 0 0)).put (some 8) (.ref 24 3 0 K.length)).put (some 10) (ah c))) (fun c K t j=>kiI l d (uG l k n) c K t j (we l d k n)) (fun c K t j=>c) (uG l k n) (List.replicate (d+1) (kS l k)) (kS l k) (bz l (bz l k)) ⟨k2,by simp,J,fun x hx=>by rw [(List.mem_replicate.1 hx).2];omega,rfl⟩ ?_
  rintro c K t j L2 hI
  refine aR ?_
  refine aC rfl ?_ ?_<;>intro abB yb
  ·obtain⟨e,rfl⟩:∃ e,c=e+1:=⟨c-1,J⟩
   have hj5:=hI.hj
   have hjl:=l6 (l:=l) hl hj5
   have hKl:=hI.hl
   have hrt:=hI.ht
   have hrK:=hI.hK _ (dg (p:=K) (i:=K.length-d) J)
   have aou:(K.map ae).take K.length=K.map ae:=List.take_of_length_le aO
   have hb3:=mZ (l:=l) (k:=j) (n:=3) ai
   refine az ?_
   refine fZ (fun L=>∃  (L1:St),(True)/\L=(((((((St.mk L1.slot (hp [(0,⟨2,[ik l (dH l d K j)],true⟩),(7,⟨3,[ae t],true⟩),(24,⟨3,K.map ae,true⟩)])).put (some 0) (.aA 0 2 0 0)).put (some 1) (ah d)).put (some 7) (.aA 7 3 0 0)).put (some 8) (.ref 24 3 0 K.length)).put (some 10) (ah (e+1))).put (some 53) (bL (decide (pK l d K t j))))) ?_ ?_
   ·refine aap ?_
    refine agy 0 6 15 rfl an an ?_
    simp only [List.drop_zero,List.drop_succ_cons,List.take_succ_cons,List.take_zero]
    refine aJ ?_
    refine ak rfl cB ?_
    refine aL ?_
    refine aE ?_
    refine aV 6 _ an rfl ?_
    refine dy 38 rfl ?_ ?_<;>intro agd h38
    ·have hL:K.length=d+1:=by omega
     have ekb:decide (pK l d K t j)=true:=decide_eq_true (.inl hL)
     have ekj:(dH l d K j)=j:=if_pos hL
     refine ar ?_
     refine aE ?_
     refine aV 7 _ an rfl ?_
     refine ar ?_
     refine aE ?_
     refine aV 8 _ an rfl ?_
     refine ar ?_
     refine aE ?_
     refine aV 9 _ an rfl ?_
     refine ar ?_
     refine aE ?_
     refine aV 10 _ an rfl ?_
     refine ar ?_
     refine aE ?_
     refine agy 11 19 2 rfl an an ?_
     simp only [List.drop_zero,List.drop_succ_cons,List.take_succ_cons,List.take_zero]
     refine bf ?_
     refine aE ?_
     refine aV 19 _ an rfl ?_
     try simp only [t1,cy,Int.toNat_natCast,Nat.zero_add]
     refine ar ?_
     refine aE ?_
     refine aV 20 _ an rfl ?_
     refine ar ?_
     refine aE ?_
     refine eO an ?_
     refine ar ?_
     exact acN
    ·have hL:¬K.length=d+1:=by omega
     have ekj:(dH l d K j)=bz l j:=if_neg hL
     refine ar ?_
     refine aE ?_
     refine aV 7 _ an rfl ?_
     refine kj 0 (a6 (v:=false) rfl rfl (agd) rfl) rfl rfl (cY l _) (.cons .ptr (.cons (.cf (.pure rfl)) .nil)) .ptr (oy l j 3 J J J J) rfl (cY l _) rfl ?_
     refine aE ?_
     refine aV 8 _ an rfl ?_
     refine ar ?_
     refine aE ?_
     refine aV 9 _ an rfl ?_
     refine ar ?_
     refine aE ?_
     refine aV 10 _ an rfl ?_
     refine ar ?_
     refine aE ?_
     refine agy 11 19 2 rfl an an ?_
     simp only [List.drop_zero,List.drop_succ_cons,List.take_succ_cons,List.take_zero]
     refine dy 43 rfl ?_ ?_<;>intro ahG h43
     ·have ekb:decide (pK l d K t j)=true:=decide_eq_true (.inr (.inl J))
      refine bf ?_
      refine aE ?_
      refine aV 19 _ an rfl ?_
      try simp only [t1,cy,Int.toNat_natCast,Nat.zero_add]
      refine ar ?_
      refine aE ?_
      refine aV 20 _ an rfl ?_
      refine ar ?_
      refine aE ?_
      refine eO an ?_
      refine ar ?_
      exact acN
     ·refine aZ ?_
      refine ak (a6 (v:=false) rfl rfl (ahG) rfl) (.bin rfl rfl (wo (c:=K.length-d) J J)) ?_
      refine aL ?_
      refine aE ?_
      refine aV 19 _ an rfl ?_
      try simp only [t1,cy,Int.toNat_natCast,Nat.zero_add]
      refine cp aq (avB t (K.getD (K.length-d) 0) J) ?_
      refine aE ?_
      refine aV 20 _ an rfl ?_
      have ekb:decide (pK l d K t j)=decide (t=K.getD (K.length-d) 0):=decide_eq_decide.2 ⟨fun h=>by rcases h with h | h | h<;>first | exact h | (exfalso;omega),fun h=>.inr (.inr h)⟩
      refine ar ?_
      refine aE ?_
      refine eO an ?_
      refine ar ?_
      exact acN
   ·rintro _ ⟨aDR,-,rfl⟩
    refine ar ?_
    refine aC rfl ?_ ?_<;>intro qF h53
    ·have hB:pK l d K t j:=by simpa using h53
     have hJ:=acH (l:=l) (d:=d) (j:=j) (K:=K) hl hj5
     have hJ2:=l6 (l:=l) hl hJ
     have hF:=aaK l (dH l d K j)
     have hbA:=mZ (l:=l) (k:=(dH l d K j)) (n:=3) ai
     have hbB:=mZ (l:=l) (k:=bz l (dH l d K j)) (n:=2) ai
     have haF:=jx t (jy l (dH l d K j))
     refine fZ (fun L=>∃  (L1:St),(True)/\L=((((((St.mk L1.slot (hp [(0,⟨2,[ik l (bz l (bz l (dH l d K j)))],true⟩),(7,⟨3,[ae (t+jy l (dH l d K j))],true⟩),(24,⟨3,K.map ae,true⟩)])).put (some 0) (.aA 0 2 0 0)).put (some 1) (ah d)).put (some 7) (.aA 7 3 0 0)).put (some 8) (.ref 24 3 0 K.length)).put (some 10) (ah (e+1)))) ?_ ?_
     ·refine aap ?_
      refine adu 1 rfl rfl an (.move _) ?_
      refine adu 4 rfl rfl an (.move _) ?_
      refine iR 0 2 _ _ an rfl rfl ?_ ?_
      ·refine ar ?_
       refine aE ?_
       refine aV 2 _ an rfl ?_
       refine kj 0 rfl rfl rfl (cY l _) (.cons .ptr (.cons (.cf (.pure rfl)) .nil)) .ptr (oy l (dH l d K j) 3 J J J J) rfl (cY l _) rfl ?_
       refine aE ?_
       refine adu 3 rfl rfl an (.bin rfl rfl (py J J)) ?_
       refine aV 5 _ an rfl ?_
       refine kj 0 rfl rfl rfl (cY l _) (.cons .ptr (.cons (.cf (.pure rfl)) .nil)) .ptr (oy l (bz l (dH l d K j)) 2 J J J J) rfl (cY l _) rfl ?_
       refine aE ?_
       refine aV 6 _ an rfl ?_
       refine ak rfl v8 ?_
       refine aE ?_
       refine aV 7 _ an rfl ?_
       refine cp aq (zf (1+dQ l (dH l d K j) 3) (1+dQ l (bz l (dH l d K j)) 2) J J J J J) ?_
       refine aE ?_
       refine aV 8 _ an rfl ?_
       refine cp aq (nz t (jy l (dH l d K j)) J) ?_
       refine aE ?_
       refine aV 9 _ an rfl ?_
       refine ar ?_
       refine aE ?_
       refine eO an ?_
       refine ar ?_
       exact qH
      ·refine kj 0 rfl rfl rfl (cY l _) (.cons .ptr (.cons (.cf (.pure rfl)) .nil)) .ptr (oy l (dH l d K j) 3 J J J J) rfl (cY l _) rfl ?_
       refine aE ?_
       refine adu 3 rfl rfl an (.bin rfl rfl (py J J)) ?_
       refine iR 0 5 _ _ an rfl rfl ?_ ?_
       ·refine ar ?_
        refine aE ?_
        refine aV 5 _ an rfl ?_
        refine kj 0 rfl rfl rfl (cY l _) (.cons .ptr (.cons (.cf (.pure rfl)) .nil)) .ptr (oy l (bz l (dH l d K j)) 2 J J J J) rfl (cY l _) rfl ?_
        refine aE ?_
        refine aV 6 _ an rfl ?_
        refine ak rfl v8 ?_
        refine aE ?_
        refine aV 7 _ an rfl ?_
        refine cp aq (zf (1+dQ l (dH l d K j) 3) (1+dQ l (bz l (dH l d K j)) 2) J J J J J) ?_
        refine aE ?_
        refine aV 8 _ an rfl ?_
        refine cp aq (nz t (jy l (dH l d K j)) J) ?_
        refine aE ?_
        refine aV 9 _ an rfl ?_
        refine ar ?_
        refine aE ?_
        refine eO an ?_
        refine ar ?_
        exact qH
       ·refine kj 0 rfl rfl rfl (cY l _) (.cons .ptr (.cons (.cf (.pure rfl)) .nil)) .ptr (oy l (bz l (dH l d K j)) 2 J J J J) rfl (cY l _) rfl ?_
        refine aE ?_
        refine adu 6 rfl rfl an (.bin rfl rfl (py J J)) ?_
        refine iR 0 7 _ _ an rfl rfl ?_ ?_
        ·refine ar ?_
         refine aE ?_
         refine aV 7 _ an rfl ?_
         refine cp aq (zf (1+dQ l (dH l d K j) 3) (1+dQ l (bz l (dH l d K j)) 2) J J J J J) ?_
         refine aE ?_
         refine aV 8 _ an rfl ?_
         refine cp aq (nz t (jy l (dH l d K j)) J) ?_
         refine aE ?_
         refine aV 9 _ an rfl ?_
         refine ar ?_
         refine aE ?_
         refine eO an ?_
         refine ar ?_
         exact qH
        ·refine cp aq (zf (1+dQ l (dH l d K j) 3) (1+dQ l (bz l (dH l d K j)) 2) J J J J J) ?_
         refine aE ?_
         refine aV 0 _ an rfl ?_
         refine ar ?_
         refine aE ?_
         refine aV 8 _ an rfl ?_
         refine cp aq (nz t (jy l (dH l d K j)) J) ?_
         refine aE ?_
         refine aV 9 _ an rfl ?_
         refine ar ?_
         refine aE ?_
         refine eO an ?_
         refine ar ?_
         exact qH
     ·rintro _ ⟨ayM,-,rfl⟩
      refine aZ ?_
      first | refine bI rfl (.ga (d:=24) (news:=[ae ((t+jy l (dH l d K j)))]) rfl rfl rfl rfl aO (.inl rfl) ai Tryz.underlying25 Tryz.underlying25 jY cJ rfl kA (.inl ⟨65,0,_,rfl,by decide,rfl,rfl,by simp,rfl,by simp [aG,ao.pure]⟩) bm bm ai) ?_ | refine bI rfl (.ga (d:=24) (news:=[ae (t)]) rfl rfl rfl rfl aO (.inl rfl) ai Tryz.underlying25 Tryz.underlying25 jY cJ rfl kA (.inl ⟨65,0,_,rfl,by decide,rfl,rfl,by simp,rfl,by simp [aG,ao.pure]⟩) bm bm ai) ?_
      refine ax ?_
      refine cq (aw.kill _ 65) ?_
      refine ar ?_
      refine ak rfl jz ?_
      refine aJ ?_
      exact oP e (K++[(t+jy l (dH l d K j))]) (t+jy l (dH l d K j)) (bz l (bz l (dH l d K j))) (hI.yes hl J hB)
    ·have hB:¬pK l d K t j:=by simpa using h53
     refine az ?_
     first | refine bI rfl (.ga (d:=24) (news:=[ae ((t+jy l (dH l d K j)))]) rfl rfl rfl rfl aO (.inl rfl) ai Tryz.underlying25 Tryz.underlying25 jY cJ rfl kA (.inl ⟨65,0,_,rfl,by decide,rfl,rfl,by simp,rfl,by simp [aG,ao.pure]⟩) bm bm ai) ?_ | refine bI rfl (.ga (d:=24) (news:=[ae (t)]) rfl rfl rfl rfl aO (.inl rfl) ai Tryz.underlying25 Tryz.underlying25 jY cJ rfl kA (.inl ⟨65,0,_,rfl,by decide,rfl,rfl,by simp,rfl,by simp [aG,ao.pure]⟩) bm bm ai) ?_
     refine ax ?_
     refine cq (aw.kill _ 65) ?_
     refine ar ?_
     refine ak rfl jz ?_
     refine aJ ?_
     exact oP e (K++[t]) t (dH l d K j) (hI.no hl J hB)
  ·obtain rfl:c=0:=by omega
   have hV:=hI.hR
   rw [mT] at hV
   have hj5:=hI.hj
   have hKl:=hI.hl
   have hrt:=hI.ht
   have aC6:=jx t 1
   refine az ?_
   refine aY 3 an ?_
   refine ar ?_
   refine cp aK (oQ 1 ai ai) ?_
   refine cp aq (nz t 1 J) ?_
   refine bB ?_
   refine dG (fun(i:Nat) L=>(((((St.mk L.slot (hp [(0,⟨2,[ik l j],true⟩),(7,⟨3,[ae (t+1)],true⟩),(24,⟨3,(K++List.replicate i (t+1)).map ae,true⟩)])).put (some 1) (ah d)).put (some 7) (.aA 7 3 0 0)).put (some 8) (.ref 24 3 0 (K.length+i))).put (some 11) (ah i))) (fun i=>i<=d+1) (fun i=>d+1-i) 0 (Nat.zero_le _) ?_
   rintro i L3 hi
   refine bf ?_
   refine aC rfl ?_ ?_<;>intro aDw h72
   ·have dA:i<=d:=by omega
    have abW:K++List.replicate i (t+1)++[t+1]=K++List.replicate (i+1) (t+1):=by rw [List.append_assoc,an3]
    have alq:((K++List.replicate i (t+1)).map ae).take (K.length+i)=(K++List.replicate i (t+1)).map ae:=List.take_of_length_le aO
    refine bf ?_
    refine bI rfl (.ga (d:=24) (news:=[ae (t+1)]) rfl rfl rfl rfl aO (.inl rfl) ai Tryz.underlying25 Tryz.underlying25 jY cJ rfl kA (.inl ⟨77,0,_,rfl,by decide,rfl,rfl,by simp,rfl,by simp [aG,ao.pure]⟩) bm bm ai) ?_
    refine ax ?_
    refine cq (aw.kill _ 77) ?_
    refine ar ?_
    refine ak rfl cB ?_
    refine aJ ?_
    exact jS
   ·obtain rfl:i=d+1:=by omega
    refine bu ?_
    have hE:K++List.replicate (d+1) (t+1)=knX l d k n:=by unfold knX;rw [<-hV]
    have vV:j=(we l d k n).2.2:=by rw [<-hV]
    rw [<-hE,<-vV]
    exact aAG [24] rfl rfl (eM ao rfl rfl aO) rfl rfl (cY l _)
abbrev Sp:=Rat × Rat
abbrev ez:=List Sp × Nat × List Int
abbrev gX:=List Sp × List Sp × Nat × Nat
def iW (s:Sp):Rat:=(s.1+s.2)/2
def nW (s:Sp):Sp:=(s.1,iW s)
def oD (s:Sp):Sp:=(iW s,s.2)
def uX (t:List Int):Nat->Nat
 | 0=>0
 | k+1=>if t.getD k 0<t.getD (uX t k) 0 then k else uX t k
theorem aaW {t:List Int}:∀ k,k<=t.length->0<t.length->uX t k<t.length
 | 0,_,h=>h
 | k+1,h,h0=>by
   have:=aaW k J h0
   unfold uX;split<;>omega
def eT (x:ez):Nat:=uX x.2.2 x.2.2.length
def xu (x:ez) (s:Sp):ez:=(x.1.set (eT x) s,x.2.1+1,x.2.2.set (eT x) (x.2.2.getD (eT x) 0+1))
def lU (x:ez):ez:=xu x (nW (x.1.getD (eT x) default))
def lQ (x:ez):ez:=xu x (oD (x.1.getD (eT x) default))
def yE (l:List Sp) (w:Rat):Bool:=l.any fun s=>decide (w<s.2-s.1)
abbrev iV:=List Sp->List Sp->Bool × Nat × Nat
abbrev RunT:=List ez × Nat × List gX
def k6 (v:Bool × Nat × Nat):Nat:=if v.2.1=0 then 1 else v.2.1
def kV (v:Bool × Nat × Nat):Nat:=if v.2.1=0 then 0 else v.2.2
def mr (na:Nat) (x:ez) (v:Bool × Nat × Nat):gX:=(x.1.take na,x.1.drop na,k6 v,kV v)
def nJ (D:Nat) (wd:Rat) (x:ez) (v:Bool × Nat × Nat):Bool :=
 (decide (k6 v=3\/k6 v=4) && (decide (wd=0) || !yE x.1 wd)) || decide (D<=x.2.1)
def lR (D W na:Nat) (wd:Rat) (lk:iV):RunT->RunT
 | ([],n,cs)=>([],n,cs)
 | (x :: st,n,cs) =>
  if W<=n then(st,n,cs++[mr na x (false,0,0)])
  else if (lk (x.1.take na) (x.1.drop na)).1 then(st,n+1,cs)
  else if nJ D wd x (lk (x.1.take na) (x.1.drop na)) then(st,n+1,cs++[mr na x (lk (x.1.take na) (x.1.drop na))])
  else(lU x :: lQ x :: st,n+1,cs)
def adb (D W na:Nat) (wd:Rat) (lk:iV):Nat->RunT->RunT
 | 0,s=>s
 | k+1,s=>adb D W na wd lk k (lR D W na wd lk s)
def rV (D:Nat) (x:ez):Nat:=2*2 ^ (D-x.2.1)-1
def fh (D:Nat) (st:List ez):Nat:=(st.map (rV D)).sum
theorem adD (D:Nat) (x:ez):1<=rV D x:=by
 unfold rV
 have:=Nat.one_le_two_pow (n:=D-x.2.1)
 omega
theorem ake {D:Nat} {x:ez} {s s':Sp} (h:x.2.1<D):rV D (xu x s)+rV D (xu x s')<rV D x:=by
 simp only [rV,xu]
 have h1:=Nat.one_le_two_pow (n:=D-(x.2.1+1))
 have h2:2 ^ (D-x.2.1)=2*2 ^ (D-(x.2.1+1)):=by
  rw [show D-x.2.1=(D-(x.2.1+1))+1 by omega,Nat.pow_succ,Nat.mul_comm]
 omega
theorem asc {D:Nat} {wd:Rat} {x:ez} {v:Bool × Nat × Nat} (h:nJ D wd x v=false):x.2.1<D:=by
 unfold nJ at h
 simp only [Bool.or_eq_false_iff,decide_eq_false_iff_not] at h
 omega
theorem agu {D W na:Nat} {wd:Rat} {lk:iV} {x:ez} {st:List ez} {n:Nat} {cs:List gX}:fh D (lR D W na wd lk (x :: st,n,cs)).1<fh D (x :: st):=by
 have hw:=adD D x
 have hmu:fh D (x :: st)=rV D x+fh D st:=by simp [fh]
 rw [lR]
 split
 ·show fh D st<_;omega
 ·split
  ·show fh D st<_;omega
  ·split
   ·show fh D st<_;omega
   ·rename_i h
    have hd:=asc lr
    have:=ake (x:=x) (s:=nW (x.1.getD (eT x) default)) (s':=oD (x.1.getD (eT x) default)) hd
    have e:fh D (lU x :: lQ x :: st)=rV D (lU x)+(rV D (lQ x)+fh D st):=by simp [fh]
    show fh D (lU x :: lQ x :: st)<_
    rw [e,hmu]
    unfold lU lQ
    omega
theorem amm {D W na:Nat} {wd:Rat} {lk:iV} {n:Nat} {cs:List gX}:∀ k,adb D W na wd lk k ([],n,cs)=([],n,cs)
 | 0=>rfl
 | k+1=>by rw [adb,lR,amm k]
def yq (D W na:Nat) (wd:Rat) (lk:iV) (s R:RunT):Prop:=∃ k,fh D s.1<=k/\adb D W na wd lk k s=R
theorem yq.step {D W na:Nat} {wd:Rat} {lk:iV} {x:ez} {st:List ez} {n:Nat} {cs:List gX} {R:RunT} (h:yq D W na wd lk (x :: st,n,cs) R) :
  yq D W na wd lk (lR D W na wd lk (x :: st,n,cs)) R:=by
 obtain⟨k,h1,h2⟩:=h
 have hmu:fh D (x :: st)=rV D x+fh D st:=by simp [fh]
 have hw:=adD D x
 match k,h1,h2 with
 | 0,h1,_=>exact absurd (show fh D (x :: st)<=0 from h1) J
 | k+1,h1,h2 =>
  have:=agu (D:=D) (W:=W) (na:=na) (wd:=wd) (lk:=lk) (x:=x) (st:=st) (n:=n) (cs:=cs)
  exact⟨k,by have:fh D (x :: st)<=k+1:=h1;omega,h2⟩
theorem yq.nil {D W na:Nat} {wd:Rat} {lk:iV} {n:Nat} {cs:List gX} {R:RunT} (h:yq D W na wd lk ([],n,cs) R):R=([],n,cs):=by
 obtain⟨k,_,h2⟩:=h
 rw [amm] at h2;exact h2.symm
def rQ (D W na:Nat) (wd:Rat) (lk:iV) (s:RunT):RunT:=adb D W na wd lk (fh D s.1) s
theorem abw (D W na:Nat) (wd:Rat) (lk:iV) (s:RunT):yq D W na wd lk s (rQ D W na wd lk s):=⟨_,Nat.le_refl _,rfl⟩
theorem abF {D W na:Nat} {wd:Rat} {lk:iV} (I:RunT->Prop) (hI:∀ x st n cs,I (x :: st,n,cs)->I (lR D W na wd lk (x :: st,n,cs))) :
  ∀ (m:Nat) {s R:RunT},fh D s.1<=m->I s->yq D W na wd lk s R->I R/\R.1=[]
 | m,([],n,cs),R,_,hs,h=>by rw [h.nil];exact⟨hs,rfl⟩
 | 0,(x :: st,n,cs),R,hm,_,_=>by
   have hmu:fh D (x :: st)=rV D x+fh D st:=by simp [fh]
   have hw:=adD D x
   exact absurd (show fh D (x :: st)<=0 from hm) J
 | m+1,(x :: st,n,cs),R,hm,hs,h=>by
   have:=agu (D:=D) (W:=W) (na:=na) (wd:=wd) (lk:=lk) (x:=x) (st:=st) (n:=n) (cs:=cs)
   exact abF I hI m (by have:fh D (x :: st)<=m+1:=hm;omega) (hI x st n cs hs) h.step
theorem dA (p q t:Rat):lD [p,q] t=[p+t*(q-p),q]:=by
 simp only [lD,List.length_cons,List.length_nil,rK,iP]
 simp
 grind
def mB (s:Rat × Rat):Rat × Rat:=(-s.2,-s.1)
def d2S (p q r s:Rat × Rat):Rat × Rat:=sbS (yk p s) (yk q r)
def kf (s t:Rat × Rat):Bool:=decide (fO s.1 t.1<=gg s.2 t.2)
def meB (a b:oE):Bool:=kf a.x b.x && kf a.y b.y && kf a.z b.z
def fT (a b c:V3):Rat:=1/de a (gI b c)
def qE (a b c:V3):V3:=⟨(iZ (fT a b c) (gI b c)).x,(iZ (fT a b c) (gI c a)).x,(iZ (fT a b c) (gI a b)).x⟩
def p8 (a b c:V3):V3:=⟨(iZ (fT a b c) (gI b c)).y,(iZ (fT a b c) (gI c a)).y,(iZ (fT a b c) (gI a b)).y⟩
def sr (a b c:V3):V3:=⟨(iZ (fT a b c) (gI b c)).z,(iZ (fT a b c) (gI c a)).z,(iZ (fT a b c) (gI a b)).z⟩
def vP (u v:V3):V3:=⟨u.x,(iZ (-1) v).x,0⟩
def wB (u v:V3):V3:=⟨u.y,(iZ (-1) v).y,0⟩
def w7:V3:=⟨0,0,1⟩
def tI (r:V3) (l:List V3):Rat × Rat:=gz (l.map (de r))
def jB (r:V3) (p q:List V3):Rat × Rat:=sbS (tI r p) (tI r q)
def ue (s t:Rat × Rat):Bool:=decide (cM s.1=cM s.2) && decide (cM t.1=cM t.2) && decide (cM s.1*cM t.1<0)
def aoP (u v:V3) (pc pd:List V3):Bool:=ue (jB (qE (vP u v) (wB u v) w7) [pc.getD 0 default] pd) (jB (qE (vP u v) (wB u v) w7) [pc.getD (pc.length-1) default] pd)
def amI (u v:V3) (pc pd:List V3):Bool:=ue (jB (p8 (vP u v) (wB u v) w7) pc [pd.getD 0 default]) (jB (p8 (vP u v) (wB u v) w7) pc [pd.getD (pd.length-1) default])
def oK (sc sd:oE) (u v:V3) (pc pd:List V3):Nat :=
 if iU (d2S sc.x (mB sd.x) sc.y (mB sd.y)) 0 then 0 else if de (vP u v) (gI (wB u v) w7)=0 then 2 else if aoP u v pc pd && amI u v pc pd then 3 else 2
def crV (u v:V3):Rat:=u.x*v.y-u.y*v.x
section
variable {u v:V3} (h:crV u v≠0)
include h
end
def jg (n:Nat) (q:Rat):Prop:=∃ z:Int,q=(z:Rat)/((2 ^ n:Nat):Int)
theorem two_pos (n:Nat):(0:Rat)<((2 ^ n:Nat):Int):=by
 have:=Nat.one_le_two_pow (n:=n)
 exact Rat.intCast_pos.2 J
theorem anU (n:Nat):(((2 ^ (n+1):Nat):Int):Rat)=((2 ^ n:Nat):Int)*2:=by
 rw [Nat.pow_succ];push_cast;rfl
theorem jg.mul {n:Nat} {q:Rat} (h:jg n q):∃ z:Int,q*((2 ^ n:Nat):Int)=z:=by
 obtain⟨z,rfl⟩:=h
 exact⟨z,Rat.div_mul_cancel (by have:=two_pos n;grind)⟩
theorem jg.of {n:Nat} {q:Rat} {z:Int} (h:q*((2 ^ n:Nat):Int)=z):jg n q:=⟨z,by
 have:=two_pos n
 rw [<-h,Rat.mul_div_cancel cA]⟩
theorem jg.succ {n:Nat} {q:Rat} (h:jg n q):jg (n+1) q:=by
 obtain⟨z,e⟩:=h.mul
 refine jg.of (z:=z*2) ?_
 rw [anU,<-Rat.mul_assoc,e];push_cast;rfl
theorem jg.md {n:Nat} {p q:Rat} (hp:jg n p) (hq:jg n q):jg (n+1) ((p+q)/2):=by
 obtain⟨z,e⟩:=hp.mul
 obtain⟨y,f⟩:=hq.mul
 refine jg.of (z:=z+y) ?_
 rw [anU]
 have h2:(p+q)/2*2=p+q:=Rat.div_mul_cancel ai
 have:(p+q)/2*(((2 ^ n:Nat):Int)*2:Rat)=(p+q)/2*2*((2 ^ n:Nat):Int):=by grind
 rw [this,h2]
 push_cast
 push_cast at e f
 rw [<-e,<-f];grind
theorem jg.sub {n:Nat} {p q:Rat} (hp:jg n p) (hq:jg n q):jg n (p-q):=by
 obtain⟨z,e⟩:=hp.mul
 obtain⟨y,f⟩:=hq.mul
 refine jg.of (z:=z-y) ?_
 push_cast
 push_cast at e f
 rw [<-e,<-f];grind
theorem aj8 (z:Int):jg 0 (z:Rat):=⟨z,by
 have:(((2 ^ 0:Nat):Int):Rat)=1:=rfl
 rw [this];grind⟩
theorem jg.le {n m:Nat} {q:Rat} (h:jg n q) (hm:n<=m):jg m q:=by
 induction m with
 | zero =>
      obtain rfl:n=0:=by omega
      exact h
 | succ m ih =>
  rcases Nat.lt_or_ge n (m+1) with g | g
  ·exact(ih J).succ
  ·obtain rfl:n=m+1:=by omega
   exact h
theorem jg.rl {n:Nat} {q:Rat} (h:jg n q) (hn:n<=24) (h1:-64<=q) (h2:q<=64):Go.Lg.rl q<=1:=by
 obtain⟨z,e⟩:=h.mul
 have hp:=two_pos n
 have zX:2 ^ n<=2 ^ 24:=Nat.pow_le_pow_right ai hn
 have uz:z<=64*((2 ^ n:Nat):Int):=by
  have:(z:Rat)<=((64*((2 ^ n:Nat):Int):Int):Rat):=by
   rw [<-e];rw [Rat.intCast_mul]
   exact Rat.mul_le_mul_of_nonneg_right h2 (Rat.le_of_lt hp)
  exact Rat.intCast_le_intCast.1 this
 have yi:-64*((2 ^ n:Nat):Int)<=z:=by
  have:((-64*((2 ^ n:Nat):Int):Int):Rat)<=(z:Rat):=by
   rw [<-e];rw [Rat.intCast_mul]
   exact Rat.mul_le_mul_of_nonneg_right h1 (Rat.le_of_lt hp)
  exact Rat.intCast_le_intCast.1 this
 have:q=(z:Rat)/((2 ^ n:Nat):Int):=by rw [<-e,Rat.mul_div_cancel cA]
 rw [this]
 exact aa1 J J
def pJ:Sp:=(0,1)
section
variable {a u p v:V3}
end
def jo (x:ez):LV:=.agg [.list 6 (x.1.map aD),ah x.2.1,.list 1 (x.2.2.map eW)]
def eY (c:gX):LV:=.agg [.list 6 (c.1.map aD),.list 6 (c.2.1.map aD),ah c.2.2.1,ah c.2.2.2]
def vdL (v:Bool × Nat × Nat):LV:=.agg [.v (.bool v.1),ah v.2.1,ah v.2.2]
def prW (d w:Nat) (wd:Rat):LV:=.agg [ah d,ah w,ae wd]
theorem sn (x:ez):(jo x).pure=true:=by simp [jo,LV.pure,aG,aW bS,aW m8]
theorem agO (c:gX):(eY c).pure=true:=by simp [eY,LV.pure,aG,aW bS]
theorem aBu (v:Bool × Nat × Nat):(vdL v).pure=true:=by simp [vdL,LV.pure,aG]
theorem ayS (d w:Nat) (wd:Rat):(prW d w wd).pure=true:=by simp [prW,LV.pure,aG,ao.pure]
theorem ax3 (x:ez):(jo x).au=3:=rfl
theorem ahq (c:gX):(eY c).au=4:=rfl
theorem aaI:gE jo 3 true:=⟨ax3,fun _=>rfl,sn⟩
theorem aa8:gE eY 4 true:=⟨ahq,fun _=>rfl,agO⟩
theorem aaS (l:List gX):aG (l.map eY)=true:=aW aa8 l
structure adi (P:Program) (f:Nat) (cap:List LV) (D na n:Nat) (lk:iV) (I:ez->Prop):Prop where
 len:∀ x,I x->x.1.length=n/\x.2.2.length=n
 tm:∀ x,I x->∀ t∈x.2.2,0<=t/\t<=1000
 dep:∀ x,I x->x.2.1<=D
 sp:∀ x,I x->∀ s∈x.1,cZ 1000 s/\s.1<=s.2
 half:∀ x,I x->x.2.1<D->I (lU x)/\I (lQ x)
 look:∀ x,I x->av P f ([.list 6 ((x.1.take na).map aD),.list 6 ((x.1.drop na).map aD)]++cap) (vdL (lk (x.1.take na) (x.1.drop na)))
 kd:∀ x,I x->(lk (x.1.take na) (x.1.drop na)).2.1<=4/\(lk (x.1.take na) (x.1.drop na)).2.2<=4
def lX (n:Nat) (s:Sp):Prop:=jg n s.1/\jg n s.2/\0<=s.1/\s.1<s.2/\s.2<=1
def kD (D:Nat) (x:ez):Prop:=∃ (s t:Sp) (i j:Int),x.1=[s,t]/\x.2.2=[i,j]/\(0<=i/\i<=x.2.1/\0<=j/\j<=x.2.1)/\x.2.1<=D/\lX x.2.1 s/\lX x.2.1 t
theorem lX.succ {n:Nat} {s:Sp} (h:lX n s):lX (n+1) s:=⟨h.1.succ,h.2.1.succ,h.2.2⟩
theorem lX.half {n:Nat} {s:Sp} (h:lX n s):lX (n+1) (nW s)/\lX (n+1) (oD s):=by
 obtain⟨h1,h2,h3,h4,h5⟩:=h
 have hm:=h1.md h2
 have e:(s.1+s.2)/2*2=s.1+s.2:=Rat.div_mul_cancel ai
 unfold nW oD iW
 exact⟨⟨h1.succ,hm,h3,by show s.1<(s.1+s.2)/2;grind,by show (s.1+s.2)/2<=1;grind⟩,⟨hm,h2.succ,by show 0<=(s.1+s.2)/2;grind,by show (s.1+s.2)/2<s.2;grind,h5⟩⟩
theorem lX.rl {n:Nat} {s:Sp} (h:lX n s) (hn:n<=24):Go.Lg.rl s.1<=1/\Go.Lg.rl s.2<=1:=by
 obtain⟨h1,h2,h3,h4,h5⟩:=h
 exact⟨h1.rl hn cA cA,h2.rl hn cA cA⟩
end Go.Proofs.YtckppbhafancnaaGreat
end
