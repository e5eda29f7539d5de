/- Texts K21, LgX, LgC, LgD, LgF, U1, Z1, Z2, U2, U3, U4, U7, A3, Y0, K25, K26, A4 of this proof, joined. -/
import Derived.Test.YtckppbhafancnaaGreatQN5
set_option linter.unusedVariables false
set_option linter.unusedSimpArgs false
section
set_option linter.unusedVariables false
set_option linter.unusedSimpArgs false
set_option maxHeartbeats 8000000
set_option maxRecDepth 100000
attribute [local irreducible] Go.Lg.opsL Go.Lg.cy Go.Lg.mR Go.Lg.oF
namespace Go.Proofs.YtckppbhafancnaaGreat
open Go.Lg
def bl (d:Nat) (a b:Rat):List Rat:=List.replicate (d+1) a++List.replicate (d+1) b
theorem jV (d:Nat) (a b:Rat):(bl d a b).length=2*(d+1):=by simp [bl];omega
theorem fR (d:Nat) (a b:Rat) (i:Nat) (h:i<2*(d+1)):(bl d a b).getD i 0=if i<d+1 then a else b:=by
 unfold bl
 split
 ·rw [vk bm,r7 J]
 ·rw [vc bm,List.length_replicate,r7 J]
theorem xi (d:Nat) (a b:Rat):(bl d a b).getD 0 0=a:=by rw [fR _ _ _ _ J,if_pos J]
theorem aar (d:Nat) (a b:Rat):(bl d a b).getD (2*(d+1)-1) 0=b:=by rw [fR _ _ _ _ J,if_neg J]
theorem aaG {d:Nat} {a b:Rat} {R:Nat} (ha:rl a<=R) (hb:rl b<=R):∀ x∈bl d a b,rl x<=R:=fun x hx=>by
 rcases List.mem_append.1 hx with g | g
 ·rw [(List.mem_replicate.1 g).2];exact ha
 ·rw [(List.mem_replicate.1 g).2];exact hb
theorem awj {d m:Nat} {a b:Rat} (h:m<2*(d+1)) (h2:m<=d):(bl d a b).take m++[a]=(bl d a b).take (m+1):=by
 have e:=fR d a b m h
 rw [if_pos J] at e
 rw [<-aal (l:=bl d a b) (k:=m) (by rw [jV];exact h),e]
theorem ash {d m:Nat} {a b:Rat} (h:m<2*(d+1)) (h2:¬m<=d):(bl d a b).take m++[b]=(bl d a b).take (m+1):=by
 have e:=fR d a b m h
 rw [if_neg J] at e
 rw [<-aal (l:=bl d a b) (k:=m) (by rw [jV];exact h),e]
theorem asr {a b:Rat} (h:a<b):gj a b=a:=by unfold gj;rw [if_neg cA]
theorem auo {a b:Rat} (h:a<b):fQ a b=b:=by unfold fQ;rw [if_pos h]
theorem anz {p:List Rat} {x:Rat} (hl:p.length<=7) (hp:∀ y∈p,rl y<=7000000) (hx:rl x<=100000):HS p x:=by
 have h1:=iq 1 x
 have h0:rl 1=1:=rfl
 refine⟨rl (1-x)+rl x+1,Nat.le_refl _,J,fun y hy=>?_⟩
 have h2:=hp y hy
 have h3:2 ^ p.length<=2 ^ 7:=Nat.pow_le_pow_right ai hl
 have h4:(rl y+(rl (1-x)+rl x+1))*2 ^ p.length<=8000000*2 ^ 7:=Nat.mul_le_mul J h3
 omega
theorem att {p:List Rat} {x:Rat} {R S:Nat} (hl:p.length<=7) (hp:∀ y∈p,rl y<=R) (hR:1<=R) (hx:rl (1-x)+rl x+1<=S):∀ y∈lF p x,rl y<=(R+S)*64:=fun y hy=>by
 obtain⟨j,hj,rfl⟩:=List.mem_iff_getElem.1 hy
 have gY:j<p.length:=by rw [vU] at hj;exact hj
 have e:(lF p x)[j]=(lF p x).getD j 0:=by rw [List.getD_eq_getElem?_getD,List.getElem?_eq_getElem hj];rfl
 rw [e,afg gY]
 have h1:=afR (a:=1-x) (b:=x) (p.length-1-j) (fun i=>p.getD (j+i) 0) R (fun i=>ga hR hp _)
 have h2:2 ^ (p.length-1-j)<=64:=Nat.pow_le_pow_right (n:=2) ai (show p.length-1-j<=6 by omega)
 exact Nat.le_trans h1 (Nat.mul_le_mul J h2)
theorem aBv {n:Nat} (h:2*n<=9223372036854775807):dp .mul .i64 2 (n:Nat)=some (.int .i64 ((2*n:Nat):Int)):=by
 rw [aeN J J];congr 2
theorem aqb (d sz:Nat) (x z:LV) (Z:Nat->Prop) (μ:Nat->Option Nat) (w:World) (cs:List Value) (h:ay Z μ w (.agg [x,.v (.slice none 0 0),z]) cs):ay Z μ w (.agg [x,.ref d sz 0 0,z]) cs:=by
 simp only [ay,b8] at h ⊢
 obtain⟨c1,c2,e1,e2,e3,c3,c4,e4,e5,e6,c5,c6,e7,e8,e9,e10⟩:=h
 exact⟨c1,c2,e1,e2,e3,c3,c4,e4,e5,.inl ⟨e6.1,trivial⟩,c5,c6,e7,e8,e9,e10⟩
namespace aq6
theorem aH {p q:Prop} (k:q) (e:p=q:=by simp only [e1,e2,e3,e4,p1,p2,p3,q1,q2,q3,l1,t0,t1,r1,r2,r3,r4,Nat.zero_add,Nat.reduceMul,Nat.reduceAdd,b1,b2,b3,b4,b5,b6,i1,i2,i3,i4,i5,i6,Nat.reduceBEq,fD,gv,k5,kI,iz,List.length_cons,List.length_nil,List.nil_append,List.map_nil,List.take_nil,List.append_nil,List.set_cons_zero,List.set_cons_succ,Nat.reduceEqDiff,reduceIte,if_true,if_false,dW,ec,aP bg,aP bw,aP ao,cH,dO,LV.kill,bN];exact rfl):p:=e.mpr k
end aq6
open aq6 in
theorem azW (d:Nat) (kn:List Rat) (po:List aF) (R:Nat) (hR:R<=1000000) (h:ke po d R):av Tryz.prog 99 [.agg [ah d,.list 3 (kn.map ae),.list 12 (po.map aT)]] (.list 9 ((po.map (·.p)).map aS)):=by
 have hl:=h.hl
 have hd:=h.hd
 have h6:=h.h6
 have fG:LV.pure (.agg [ah d,.list 3 (kn.map ae),.list 12 (po.map aT)])=true:=by simp [LV.pure,aG,aW ao,aW bw]
 refine aN Tryz.func99 (ht:=(fun g=>LV.cP g _ (et bg _ _))) ?_
 have fD:True:=trivial
 have gv:True:=trivial
 refine yS ?_
 refine jo ((aw.kill _ 1).trans (aw.own (t:=3) 17 9 rfl rfl)) ?_
 refine dJ (fun(i:Nat) L=>(((((St.mk L.slot (hp [(17,⟨9,((po.map (·.p)).take i).map aS,true⟩)])).put (some 3) (.ref 17 9 0 i)).put (some 7) (.list 12 (po.map aT))).put (some 8) (ah po.length)).put (some 9) (ah i))) (fun i=>i<=po.length) (fun i=>po.length-i) 0 (Nat.zero_le _) ?_
 rintro i L1 hi
 refine aA ?_
 refine aC rfl ?_ ?_<;>intro l9 rR
 ·have dB:i<po.length:=by omega
  have gv:=zO (·.p) po dB
  have xx:((po.map (·.p)).take i).length=i:=by rw [List.length_take,List.length_map];omega
  have fD:(((po.map (·.p)).take i).map aS).take i=((po.map (·.p)).take i).map aS:=List.take_of_length_le kB
  refine im ?_
  refine bI rfl (.fX (d:=17) (news:=[aS (po.getD i default).p]) rfl rfl rfl rfl bm (.inl rfl) ai Tryz.underlying165 Tryz.underlying165 Z40 ig cs B40 (.inl ⟨16,0,_,rfl,by decide,rfl,rfl,by simp,rfl,by simp [aG,bg.pure]⟩) bm bm ai) ?_
  refine ax ?_
  refine cq ((aw.kill _ 5).trans (aw.kill _ 16)) ?_
  refine ak rfl cB ?_
  refine aJ ?_
  exact jX
 ·obtain rfl:i=po.length:=by omega
  have hE:(po.map (·.p)).take po.length=(po.map (·.p)):=List.take_of_length_le aO
  refine bu ?_
  simp only [hE]
  exact mz [17] rfl rfl (eN bg rfl rfl aO)
open fP in
theorem akO (q:aF) (R:Nat) (hR:R<=1000000) (h:ow R q):av Tryz.prog 153 [aT q] (.agg [ae (q.w*q.p.x),ae (q.w*q.p.y),ae (q.w*q.p.z),ae q.w]):=by
 obtain⟨⟨a1,a2,a3⟩,a4,_⟩:=h
 have hA:=iw q.w 0 (by have:rl 0=1:=rfl;omega)
 rw [Rat.add_zero] at hA
 refine aN Tryz.func153 (ht:=(fun g=>LV.cP g _ pu)) ?_
 refine nj ?_
 refine bG ?_
 refine aA ?_
 refine bY (b:=_) rfl ai ?_
 refine nn ?_
 refine cp aq (gr q.w q.p.x J) ?_
 refine a6 ?_
 refine cq (aw.kill _ 5) ?_
 refine ax ?_
 refine bG ?_
 refine aA ?_
 refine bY (b:=_) rfl ai ?_
 refine nn ?_
 refine cp aq (gr q.w q.p.y J) ?_
 refine a6 ?_
 refine cq (aw.kill _ 5) ?_
 refine ax ?_
 refine bG ?_
 refine aA ?_
 refine bY (b:=_) rfl ai ?_
 refine nn ?_
 refine cp aq (gr q.w q.p.z J) ?_
 refine a6 ?_
 refine cq (aw.kill _ 5) ?_
 refine ax ?_
 refine bG ?_
 refine aA ?_
 refine eF (b:=_) rfl ai ?_
 refine bq ?_
 refine ak rfl ob ?_
 refine cp aq (hA) ?_
 refine bp ?_
 exact fS [] rfl rfl rfl cs (dG cs rfl) yN (.pure pu)
namespace apO
theorem aH {p q:Prop} (k:q) (e:p=q:=by simp only [e1,e2,e3,e4,p1,p2,p3,q1,q2,q3,l1,t0,t1,r1,r2,r3,r4,Nat.zero_add,Nat.reduceMul,Nat.reduceAdd,b1,b2,b3,b4,b5,b6,i1,i2,i3,i4,i5,i6,Nat.reduceBEq,amK,arB,ady,arc,akb,alf,acM,amG,k5,kI,iz,List.length_cons,List.length_nil,List.nil_append,List.map_nil,List.take_nil,List.append_nil,List.set_cons_zero,List.set_cons_succ,Nat.reduceEqDiff,reduceIte,if_true,if_false,dW,ec,aP bg,aP bw,aP ao,cH,dO,LV.kill,bN];exact rfl):p:=e.mpr k
end apO
open apO in
theorem aed (d:Nat) (kn:List Rat) (po:List aF) (R:Nat) (hR:R<=1000000) (h:ke po d R):av Tryz.prog 93 [.agg [ah d,.list 3 (kn.map ae),.list 12 (po.map aT)]] (.agg [.list 3 ((bj po 0).map ae),.list 3 ((bj po 1).map ae),.list 3 ((bj po 2).map ae),.list 3 ((aX po).map ae)]):=by
 have hl:=h.hl
 have hd:=h.hd
 have h6:=h.h6
 have fG:LV.pure (.agg [ah d,.list 3 (kn.map ae),.list 12 (po.map aT)])=true:=by simp [LV.pure,aG,aW ao,aW bw]
 have g7:=n9 po 0
 have mj:=n9 po 1
 have lr:=n9 po 2
 have vR:=mD po
 refine aN Tryz.func93 (ht:=(fun g=>LV.cP g _ (by simp [LV.pure,aG,aW ao]))) ?_
 have amK:True:=trivial
 have arB:True:=trivial
 have ady:True:=trivial
 have arc:True:=trivial
 have akb:True:=trivial
 have alf:True:=trivial
 have acM:True:=trivial
 have amG:True:=trivial
 refine yS ?_
 refine jo (((aw.kill _ 1).trans (aw.cell 3 rfl (fun Z μ w cs h=>aws 1001 1002 1003 1004 3 Z μ w cs h))).trans ((aw.tH _ 1001 3 rfl).trans ((aw.tH _ 1002 3 rfl).trans ((aw.tH _ 1003 3 rfl).trans (aw.tH _ 1004 3 rfl))))) ?_
 refine dJ (fun(j:Nat) L=>((((((St.mk L.slot (hp [(2,⟨4,[.agg [.v (.slice none 0 0),.v (.slice none 0 0),.v (.slice none 0 0),.v (.slice none 0 0)]],true⟩),(3,⟨4,[.agg [.ref 1001 3 0 j,.ref 1002 3 0 j,.ref 1003 3 0 j,.ref 1004 3 0 j]],true⟩),(1001,⟨3,((bj po 0).take j).map ae,true⟩),(1002,⟨3,((bj po 1).take j).map ae,true⟩),(1003,⟨3,((bj po 2).take j).map ae,true⟩),(1004,⟨3,((aX po).take j).map ae,true⟩)])).put (some 2) (.az 2 4 0 0)).put (some 3) (.az 3 4 0 0)).put (some 9) (.list 12 (po.map aT))).put (some 10) (ah po.length)).put (some 11) (ah j))) (fun j=>j<=po.length) (fun j=>po.length-j) 0 (Nat.zero_le _) ?_
 rintro j L1 hj
 refine aA ?_
 refine aC rfl ?_ ?_<;>intro aav h12
 ·have gY:j<po.length:=by omega
  have eP:=h.ok _ (qI gY)
  have akb:(bj po 0).take j++[(po.getD j default).w*(po.getD j default).p.x]=(bj po 0).take (j+1):=zO (fun q:aF=>q.w*q.p.at 0) po gY
  have alf:(bj po 1).take j++[(po.getD j default).w*(po.getD j default).p.y]=(bj po 1).take (j+1):=zO (fun q:aF=>q.w*q.p.at 1) po gY
  have acM:(bj po 2).take j++[(po.getD j default).w*(po.getD j default).p.z]=(bj po 2).take (j+1):=zO (fun q:aF=>q.w*q.p.at 2) po gY
  have amG:(aX po).take j++[(po.getD j default).w]=(aX po).take (j+1):=zO (fun q:aF=>q.w) po gY
  have amK:(((bj po 0).take j).map ae).take j=((bj po 0).take j).map ae:=List.take_of_length_le wj
  have arB:(((bj po 1).take j).map ae).take j=((bj po 1).take j).map ae:=List.take_of_length_le wj
  have ady:(((bj po 2).take j).map ae).take j=((bj po 2).take j).map ae:=List.take_of_length_le wj
  have arc:(((aX po).take j).map ae).take j=((aX po).take j).map ae:=List.take_of_length_le wj
  refine gz ?_
  refine cp aK (akO (po.getD j default) R hR eP) ?_
  refine ax ?_
  refine bG ?_
  refine aA ?_
  refine bY (b:=_) rfl ai ?_
  refine dj ?_
  refine fY 6 [0] an ?_
  refine aA ?_
  refine bI rfl (.fX (d:=1001) (news:=[ae ((po.getD j default).w*(po.getD j default).p.x)]) rfl rfl rfl rfl bm (.inl rfl) ai Tryz.underlying155 Tryz.underlying155 ko cK rfl kA (.inl ⟨26,0,_,rfl,by decide,rfl,rfl,by simp,rfl,by simp [aG,ao.pure]⟩) bm bm ai) ?_
  refine a6 ?_
  refine cq ((aw.kill _ 7).trans (aw.kill _ 26)) ?_
  refine ax ?_
  refine bG ?_
  refine aA ?_
  refine bY (b:=_) rfl ai ?_
  refine dj ?_
  refine fY 6 [0] an ?_
  refine aA ?_
  refine bI rfl (.fX (d:=1002) (news:=[ae ((po.getD j default).w*(po.getD j default).p.y)]) rfl rfl rfl rfl bm (.inl rfl) ai Tryz.underlying155 Tryz.underlying155 ko cK rfl kA (.inl ⟨26,0,_,rfl,by decide,rfl,rfl,by simp,rfl,by simp [aG,ao.pure]⟩) bm bm ai) ?_
  refine a6 ?_
  refine cq ((aw.kill _ 7).trans (aw.kill _ 26)) ?_
  refine ax ?_
  refine bG ?_
  refine aA ?_
  refine bY (b:=_) rfl ai ?_
  refine dj ?_
  refine fY 6 [0] an ?_
  refine aA ?_
  refine bI rfl (.fX (d:=1003) (news:=[ae ((po.getD j default).w*(po.getD j default).p.z)]) rfl rfl rfl rfl bm (.inl rfl) ai Tryz.underlying155 Tryz.underlying155 ko cK rfl kA (.inl ⟨26,0,_,rfl,by decide,rfl,rfl,by simp,rfl,by simp [aG,ao.pure]⟩) bm bm ai) ?_
  refine a6 ?_
  refine cq ((aw.kill _ 7).trans (aw.kill _ 26)) ?_
  refine ax ?_
  refine bG ?_
  refine aA ?_
  refine bY (b:=_) rfl ai ?_
  refine dj ?_
  refine fY 6 [0] an ?_
  refine aA ?_
  refine bI rfl (.fX (d:=1004) (news:=[ae ((po.getD j default).w)]) rfl rfl rfl rfl bm (.inl rfl) ai Tryz.underlying155 Tryz.underlying155 ko cK rfl kA (.inl ⟨26,0,_,rfl,by decide,rfl,rfl,by simp,rfl,by simp [aG,ao.pure]⟩) bm bm ai) ?_
  refine a6 ?_
  refine cq ((aw.kill _ 7).trans (aw.kill _ 26)) ?_
  refine ax ?_
  refine bG ?_
  refine aA ?_
  refine eF (b:=_) rfl ai ?_
  refine aA ?_
  refine cq (aw.kill _ 5) ?_
  refine ak rfl cB ?_
  refine aJ ?_
  exact vx
 ·obtain rfl:j=po.length:=by omega
  have hE0:(bj po 0).take po.length=(bj po 0):=List.take_of_length_le J
  have hE1:(bj po 1).take po.length=(bj po 1):=List.take_of_length_le J
  have wP:(bj po 2).take po.length=(bj po 2):=List.take_of_length_le J
  have hE3:(aX po).take po.length=(aX po):=List.take_of_length_le J
  refine bu ?_
  simp only [hE0,hE1,wP,hE3]
  exact fS [1001,1002,1003,1004] rfl rfl rfl cs (dG cs rfl) arH (.agg (.cons (eN ao rfl rfl g7.symm) (.cons (eN ao rfl rfl mj.symm) (.cons (eN ao rfl rfl lr.symm) (.cons (eN ao rfl rfl vR.symm) .nil)))))
namespace ao1
theorem aH {p q:Prop} (k:q) (e:p=q:=by simp only [e1,e2,e3,e4,p1,p2,p3,q1,q2,q3,l1,t0,t1,r1,r2,r3,r4,Nat.zero_add,Nat.reduceMul,Nat.reduceAdd,b1,b2,b3,b4,b5,b6,i1,i2,i3,i4,i5,i6,Nat.reduceBEq,cx,fU,bX,gf,List.length_map,List.set_cons_zero,List.set_cons_succ,Nat.reduceEqDiff,reduceIte,if_true,if_false,dW,ec,aP bg,aP bw,aP ao,cH,dO,LV.kill,bN];exact rfl):p:=e.mpr k
end ao1
open ao1 in
theorem ad1 (d:Nat) (a b:Rat) (po:List aF) (ha:rl a<=100) (hb:rl b<=100) (cu:a<b) (h9:d<=6):av Tryz.prog 41 [.agg [ah d,.list 3 ((bl d a b).map ae),.list 12 (po.map aT)]] (aD (a,b)):=by
 have fU:=jV d a b
 have bX:=xi d a b
 have gf:=aar d a b
 have fG:LV.pure (.agg [ah d,.list 3 ((bl d a b).map ae),.list 12 (po.map aT)])=true:=by simp [LV.pure,aG,aW ao,aW bw]
 have hS:=zJ a b J
 rw [asr cu,auo cu] at hS
 refine aN Tryz.func41 ?_
 refine gz ?_
 refine aC rfl ?_ ?_<;>intro tj h6
 ·omega
 ·refine aJ ?_
  refine aY 13 an ?_
  refine bq ?_
  refine ak rfl jm ?_
  refine aL ?_
  try simp only [t1,cx,fU,bX,gf,List.length_map]
  refine cp aq (hS) ?_
  refine ax ?_
  exact rv
open fP in
theorem agn (d:Nat) (a b:Rat) (po:List aF) (ha:rl a<=100) (hb:rl b<=100) (cu:a<b) (h9:d<=6) (t x:Rat) (ht:rl t<=100) (h1:a<=t) (h2:t<=b) (hx:(t-a)/(b-a)=x) (mO:0<po.length):av Tryz.prog 91 [.agg [ah d,.list 3 ((bl d a b).map ae),.list 12 (po.map aT)],ae t] (.a7 [ae x,ae (b-a),bL true]):=by
 have fU:=jV d a b
 have bX:=xi d a b
 have gf:=aar d a b
 have fG:LV.pure (.agg [ah d,.list 3 ((bl d a b).map ae),.list 12 (po.map aT)])=true:=by simp [LV.pure,aG,aW ao,aW bw]
 have uU:=iq t a
 have yE:=iq b a
 have hD:=ad1 d a b po ha hb cu h9
 have hW:av Tryz.prog 164 [aD (a,b)] (ae (b-a)):=agX (a,b) (by show rl b+rl a<=_;omega)
 have hQ:av Tryz.prog 169 [ae (t-a),ae (b-a)] (.a7 [ae x,iL 0]):=by
  have:=tT (t-a) (b-a) J
  rw [if_neg cA,hx] at this
  exact this
 have hH:av Tryz.prog 103 [aD (a,b),ae t] (bL true):=by
  have:=aek (a,b) t (by show rl a+rl t<=_;omega) (by show rl t+rl b<=_;omega)
  unfold iW at this
  rw [decide_eq_true h1,decide_eq_true h2] at this
  exact this
 refine aN Tryz.func91 (ht:=(aeq (ao.pure _) (ao.pure _) rfl)) ?_
 refine bu ?_
 refine cp aK (hD) ?_
 refine bu ?_
 refine dy 15 rfl ?_ ?_<;>intro nB k6
 ·omega
 ·refine aL ?_
  refine cp aq (hH) ?_
  refine ax ?_
  refine aC rfl ?_ ?_<;>intro xw yp
  ·first | exact yp.elim | cases xw
  ·refine a6 ?_
   refine cp aK (hW) ?_
   refine ax ?_
   refine fY 9 [8] an ?_
   refine aJ ?_
   refine cp aq (py t a J) ?_
   refine ar ?_
   refine cp aq (hQ) ?_
   refine bf ?_
   refine aan ?_
   refine gu 2 rfl rfl an (.pure (.move _)) jy gg ?_
   refine gu 3 rfl rfl an (.pure biA) jy gg ?_
   refine iX 0 1 _ _ an rfl rfl ?_ ?_
   ·refine ar ?_
    refine aE ?_
    refine iX 1 4 _ _ an rfl rfl ?_ ?_
    ·refine ar ?_
     refine aE ?_
     refine aV 4 _ an rfl ?_
     refine ar ?_
     refine aE ?_
     refine aV 5 _ an rfl ?_
     refine ar ?_
     refine aE ?_
     refine aV 6 _ an rfl ?_
     refine ar ?_
     refine aE ?_
     refine eO an ?_
     refine aL ?_
     exact ajq
    ·refine ar ?_
     refine aE ?_
     refine aV 1 _ an rfl ?_
     refine ar ?_
     refine aE ?_
     refine aV 5 _ an rfl ?_
     refine ar ?_
     refine aE ?_
     refine aV 6 _ an rfl ?_
     refine ar ?_
     refine aE ?_
     refine eO an ?_
     refine aL ?_
     exact ajq
   ·refine ar ?_
    refine aE ?_
    refine aV 0 _ an rfl ?_
    refine ar ?_
    refine aE ?_
    refine aV 4 _ an rfl ?_
    refine ar ?_
    refine aE ?_
    refine aV 5 _ an rfl ?_
    refine ar ?_
    refine aE ?_
    refine aV 6 _ an rfl ?_
    refine ar ?_
    refine aE ?_
    refine eO an ?_
    refine aL ?_
    exact ajq
namespace ai1
theorem aH {p q:Prop} (k:q) (e:p=q:=by simp only [e1,e2,e3,e4,p1,p2,p3,q1,q2,q3,l1,t0,t1,r1,r2,r3,r4,Nat.zero_add,Nat.reduceMul,Nat.reduceAdd,b1,b2,b3,b4,b5,b6,i1,i2,i3,i4,i5,i6,Nat.reduceBEq,List.getD_cons_zero,List.set_cons_zero,List.set_cons_succ,Nat.reduceEqDiff,reduceIte,if_true,if_false,dW,ec,aP bg,aP bw,aP ao,cH,dO,LV.kill,bN];exact rfl):p:=e.mpr k
end ai1
open ai1 in
theorem akp (n0 n1 n2 w:Rat) (R:Nat) (hR:R<=1000000000) (h0:rl n0<=R) (h1:rl n1<=R) (h2:rl n2<=R) (hw:rl w<=R) (kJ:0<w):av Tryz.prog 96 [.agg [ae n0,ae n1,ae n2,ae w]] (aT ⟨⟨n0/w,n1/w,n2/w⟩,w⟩):=by
 have hA:=iw w 0 (by have:rl 0=1:=rfl;omega)
 rw [Rat.add_zero] at hA
 have aQ:w≠0:=by grind
 have hQ0:av Tryz.prog 169 [ae n0,ae w] (.a7 [ae (n0/w),iL 0]):=by
  have:=tT n0 w J
  rwa [if_neg aQ] at this
 have hQ1:av Tryz.prog 169 [ae n1,ae w] (.a7 [ae (n1/w),iL 0]):=by
  have:=tT n1 w J
  rwa [if_neg aQ] at this
 have hQ2:av Tryz.prog 169 [ae n2,ae w] (.a7 [ae (n2/w),iL 0]):=by
  have:=tT n2 w J
  rwa [if_neg aQ] at this
 refine aN Tryz.func96 (ht:=(fun g=>LV.cP g _ (bw.pure _))) ?_
 refine bf ?_
 try simp only [List.getD_cons_zero]
 refine aL ?_
 refine ak rfl ob ?_
 refine cp aq (hA) ?_
 refine pY (bdW rfl) ?_
 refine bp ?_
 refine bG ?_
 refine aA ?_
 refine bY (b:=_) rfl ai ?_
 refine bC ?_
 refine fY 12 [9] an ?_
 refine aA ?_
 refine cp aq (hQ0) ?_
 refine dk ?_
 refine bG ?_
 refine aA ?_
 refine bY (b:=_) rfl ai ?_
 refine bC ?_
 refine fY 12 [9] an ?_
 refine aA ?_
 refine cp aq (hQ1) ?_
 refine dk ?_
 refine bG ?_
 refine aA ?_
 refine bY (b:=_) rfl ai ?_
 refine bC ?_
 refine fY 12 [9] an ?_
 refine aA ?_
 refine cp aq (hQ2) ?_
 refine dk ?_
 refine bG ?_
 refine aA ?_
 refine eF (b:=_) rfl ai ?_
 refine bu ?_
 exact fS [] rfl rfl rfl cs (dG cs rfl) rQ (.pure pu)
namespace alA
theorem aH {p q:Prop} (k:q) (e:p=q:=by simp only [e1,e2,e3,e4,p1,p2,p3,q1,q2,q3,l1,t0,t1,r1,r2,r3,r4,Nat.zero_add,Nat.reduceMul,Nat.reduceAdd,b1,b2,b3,b4,b5,b6,i1,i2,i3,i4,i5,i6,Nat.reduceBEq,List.take_zero,fD,alr,akG,gv,cx,g7,mj,lr,vR,List.length_map,k5,kI,iz,List.length_cons,List.length_nil,List.nil_append,List.map_nil,List.take_nil,List.append_nil,List.set_cons_zero,List.set_cons_succ,Nat.reduceEqDiff,reduceIte,if_true,if_false,dW,ec,aP bg,aP bw,aP ao,cH,dO,LV.kill,bN];exact rfl):p:=e.mpr k
end alA
open alA in
theorem avM (d:Nat) (a b:Rat) (po:List aF) (ha:rl a<=100) (hb:rl b<=100) (cu:a<b) (h9:d<=6) (lo hi x y:Rat) (nQ:rl lo<=100) (rM:rl hi<=100) (k1:a<=lo) (k2:lo<hi) (k3:hi<=b) (hx:(lo-a)/(b-a)=x) (hy:(hi-a)/(b-a)=y) (eT:x<1) (tF:rl (1-x)+rl x+1<=20) (hyr:rl (1-y)+rl y+1<=20) (R:Nat) (hR:R<=1000000) (h:ke po d R) (hN:∀ k,∀ z∈bj po k,rl z<=100000) (hW:∀ z∈aX po,rl z<=100000) (fw:0<=x) (gR:0<=y) (kg:y<=1):av Tryz.prog 43 [.agg [ah d,.list 3 ((bl d a b).map ae),.list 12 (po.map aT)],ae lo,ae hi] (.a7 [.agg [ah d,.list 3 ((bl d lo hi).map ae),.list 12 ((kt po x y).map aT)],iL 0]):=by
 have hl:=h.hl
 have hd:=h.hd
 have h6:=h.h6
 have fG:LV.pure (.agg [ah d,.list 3 ((bl d a b).map ae),.list 12 (po.map aT)])=true:=by simp [LV.pure,aG,aW ao,aW bw]
 have hOx:=agn d a b po ha hb cu h9 lo x nQ k1 cA hx J
 have hOy:=agn d a b po ha hb cu h9 hi y rM cA k3 hy J
 have hcm:¬0<=fh lo hi:=fun e=>by have:=sM.1 e;grind
 have hrx:rl x<=20:=by omega
 have hry:rl y<=20:=by omega
 have qD:rl 0=1:=rfl
 have zG:=iw lo 0 J
 have hAh:=iw hi 0 J
 rw [Rat.add_zero] at zG hAh
 have fU:=jV d lo hi
 have hw3:=acy h
 have mS:=abc h 0
 have oW:=abc h 1
 have hq2:=abc h 2
 have g7:(dH (bj po 0) x y).length=d+1:=by rw [uY];omega
 have mj:(dH (bj po 1) x y).length=d+1:=by rw [uY];omega
 have lr:(dH (bj po 2) x y).length=d+1:=by rw [uY];omega
 have vR:(dH (aX po) x y).length=d+1:=by rw [uY];omega
 have hsy:=iq y x
 have mN:∀ l:List Rat,aG (l.map ae)=true:=fun l=>aW ao l
 have aia:∀ q0 vN q2' q3':Rat,LV.pure (.agg [ae q0,ae vN,ae q2',ae q3'])=true:=fun _ _ _ _=>by simp [LV.pure,aG,ao.pure]
 have sX:=iq 1 x
 have hdv:=oH (y-x) (1-x)
 have aQ:1-x≠0:=by grind
 have hP:∀ p:List Rat,p.length=d+1->(∀ z∈p,rl z<=100000)->av Tryz.prog 94 [.list 3 (p.map ae),ae x,ae y] (.list 3 ((dH p x y).map ae)):=fun p hp hz=>by
  have:=aus p x y J J (fun z hh=>Nat.le_trans (hz z hh) ai) J (fun _=>⟨anz J (fun z hh=>Nat.le_trans (hz z hh) ai) J,anz (by rw [vU];omega) (fun z hh=>Nat.le_trans (att J hz ai tF z hh) ai) J⟩) (fun e=>absurd e aQ)
  rwa [amj] at this
 have hP0:=hP (bj po 0) J (hN 0)
 have hP1:=hP (bj po 1) J (hN 1)
 have hP2:=hP (bj po 2) J (hN 2)
 have hP3:=hP (aX po) J hW
 refine aN Tryz.func43 (ht:=(jg (by simp [LV.pure,aG,aW ao,aW bw]) rfl)) ?_
 have fD:True:=trivial
 have alr:True:=trivial
 have akG:True:=trivial
 have gv:True:=trivial
 refine dj ?_
 refine cp aq (hOx) ?_
 refine gz ?_
 refine cp aq (hOy) ?_
 refine im ?_
 refine ak (aZ (v:=false) rfl rfl ((rfl)) rfl) (.move _) ?_
 refine ak (aZ (v:=false) rfl rfl ((rfl)) rfl) (.not rfl) ?_
 refine ak rfl (.oX rfl ((rfl))) ?_
 refine ar ?_
 refine ak (aZ (v:=false) rfl rfl ((rfl)) rfl) ij ?_
 refine ak (aZ (v:=false) rfl rfl ((rfl)) rfl) ij ?_
 refine gI (aZ (v:=false) rfl rfl ((rfl)) rfl) (.cons eI (.cons eI .nil)) (lW lo hi J) ?_
 refine ak (aZ (v:=false) rfl rfl ((rfl)) rfl) (.bin rfl rfl rfl) ?_
 refine ak rfl (.oX rfl ((rfl))) ?_
 refine aL ?_
 refine aC rfl ?_ ?_<;>intro aD9 h46
 ·first | exact hcm h46 | omega
 ·refine bp ?_
  refine cp aK (aed d (bl d a b) po R hR h) ?_
  refine ax ?_
  refine bG ?_
  refine aA ?_
  refine bY (b:=_) rfl ai ?_
  refine im ?_
  refine cp fH (hP0) ?_
  refine bC ?_
  refine bG ?_
  refine aA ?_
  refine bY (b:=_) rfl ai ?_
  refine im ?_
  refine cp fH (hP1) ?_
  refine bC ?_
  refine bG ?_
  refine aA ?_
  refine bY (b:=_) rfl ai ?_
  refine im ?_
  refine cp fH (hP2) ?_
  refine bC ?_
  refine bG ?_
  refine aA ?_
  refine bY (b:=_) rfl ai ?_
  refine im ?_
  refine cp fH (hP3) ?_
  refine bC ?_
  refine bG ?_
  refine aA ?_
  refine eF (b:=_) rfl ai ?_
  refine mV ?_
  refine ak rfl cB ?_
  refine ak rfl (.bin rfl rfl (aBv J)) ?_
  refine ax ?_
  refine jo ((aw.cell 17 rfl (fun Z μ w cs h=>aqb 83 3 _ _ Z μ w cs h)).trans (aw.tH _ 83 3 rfl)) ?_
  refine dJ (fun(m:Nat) L=>(((((((((St.mk L.slot (hp [(3,⟨3,[.agg [ah d,.list 3 ((bl d a b).map ae),.list 12 (po.map aT)]],true⟩),(4,⟨3,[ae lo],true⟩),(5,⟨3,[ae hi],true⟩),(6,⟨3,[.agg [.v (.int .i64 0),.v (.slice none 0 0),.v (.slice none 0 0)]],true⟩),(8,⟨3,[ae x],true⟩),(9,⟨3,[ae (b-a)],true⟩),(11,⟨3,[ae y],true⟩),(12,⟨3,[ae (b-a)],true⟩),(14,⟨4,[.agg [.list 3 ((dH (bj po 0) x y).map ae),.list 3 ((dH (bj po 1) x y).map ae),.list 3 ((dH (bj po 2) x y).map ae),.list 3 ((dH (aX po) x y).map ae)]],true⟩),(17,⟨3,[.agg [ah d,.ref 83 3 0 m,.v (.slice none 0 0)]],true⟩),(83,⟨3,((bl d lo hi).take m).map ae,true⟩)])).put (some 3) (.az 3 3 0 0)).put (some 4) (.az 4 3 0 0)).put (some 5) (.az 5 3 0 0)).put (some 6) (.az 6 3 0 0)).put (some 14) (.az 14 4 0 0)).put (some 17) (.az 17 3 0 0)).put (some 67) (ah (2*(d+1)))).put (some 68) (ah m))) (fun m=>m<=2*(d+1)) (fun m=>2*(d+1)-m) 0 (Nat.zero_le _) ?_
  rintro m L2 hm
  refine aA ?_
  refine aC rfl ?_ ?_<;>intro xn h69
  ·have dZ:m<2*(d+1):=by omega
   have jB:((bl d lo hi).take m).length=m:=by rw [List.length_take];omega
   have fD:(((bl d lo hi).take m).map ae).take m=((bl d lo hi).take m).map ae:=List.take_of_length_le kB
   refine avG ?_
   refine aC rfl ?_ ?_<;>intro aDQ h75
   ·have yC:¬m<=d:=by omega
    have akG:=ash (a:=lo) (b:=hi) dZ yC
    refine a6 ?_
    refine aY 6 an ?_
    refine ax ?_
    first | refine cp aq zG ?_ | refine cp aq hAh ?_
    refine ar ?_
    first | refine bI rfl (.app (news:=[ae lo]) rfl rfl rfl rfl rfl kB (.inl rfl) ai Tryz.underlying25 Tryz.underlying25 ko cK rfl kA (.inl ⟨82,0,_,rfl,by decide,rfl,rfl,by simp,rfl,by simp [aG,ao.pure]⟩) bm bm ai) ?_ | refine bI rfl (.app (news:=[ae hi]) rfl rfl rfl rfl rfl kB (.inl rfl) ai Tryz.underlying25 Tryz.underlying25 ko cK rfl kA (.inl ⟨82,0,_,rfl,by decide,rfl,rfl,by simp,rfl,by simp [aG,ao.pure]⟩) bm bm ai) ?_
    refine a6 ?_
    refine cq ((aw.kill _ 19).trans (aw.kill _ 82)) ?_
    refine ak rfl cB ?_
    refine aJ ?_
    exact iG (m+1) J
   ·have yC:m<=d:=by omega
    have alr:=awj (a:=lo) (b:=hi) dZ yC
    refine aL ?_
    refine aY 6 an ?_
    refine ax ?_
    first | refine cp aq zG ?_ | refine cp aq hAh ?_
    refine ar ?_
    first | refine bI rfl (.app (news:=[ae lo]) rfl rfl rfl rfl rfl kB (.inl rfl) ai Tryz.underlying25 Tryz.underlying25 ko cK rfl kA (.inl ⟨82,0,_,rfl,by decide,rfl,rfl,by simp,rfl,by simp [aG,ao.pure]⟩) bm bm ai) ?_ | refine bI rfl (.app (news:=[ae hi]) rfl rfl rfl rfl rfl kB (.inl rfl) ai Tryz.underlying25 Tryz.underlying25 ko cK rfl kA (.inl ⟨82,0,_,rfl,by decide,rfl,rfl,by simp,rfl,by simp [aG,ao.pure]⟩) bm bm ai) ?_
    refine a6 ?_
    refine cq ((aw.kill _ 19).trans (aw.kill _ 82)) ?_
    refine ak rfl cB ?_
    refine aJ ?_
    exact iG (m+1) J
  ·obtain rfl:m=2*(d+1):=by omega
   have hEk:(bl d lo hi).take (2*(d+1))=(bl d lo hi):=List.take_of_length_le J
   simp only [hEk]
   refine gz ?_
   refine jo ((aw.cell 17 rfl (fun Z μ w cs h=>abS 117 12 _ _ Z μ w cs h)).trans (aw.tH _ 117 12 rfl)) ?_
   refine dJ (fun(j:Nat) L=>(((((((((St.mk L.slot (hp [(3,⟨3,[.agg [ah d,.list 3 ((bl d a b).map ae),.list 12 (po.map aT)]],true⟩),(4,⟨3,[ae lo],true⟩),(5,⟨3,[ae hi],true⟩),(6,⟨3,[.agg [.v (.int .i64 0),.v (.slice none 0 0),.v (.slice none 0 0)]],true⟩),(8,⟨3,[ae x],true⟩),(9,⟨3,[ae (b-a)],true⟩),(11,⟨3,[ae y],true⟩),(12,⟨3,[ae (b-a)],true⟩),(14,⟨4,[.agg [.list 3 ((dH (bj po 0) x y).map ae),.list 3 ((dH (bj po 1) x y).map ae),.list 3 ((dH (bj po 2) x y).map ae),.list 3 ((dH (aX po) x y).map ae)]],true⟩),(17,⟨3,[.agg [ah d,.ref 83 3 0 (2*(d+1)),.ref 117 12 0 j]],true⟩),(83,⟨3,(bl d lo hi).map ae,true⟩),(117,⟨12,((kt po x y).take j).map aT,true⟩)])).put (some 3) (.az 3 3 0 0)).put (some 4) (.az 4 3 0 0)).put (some 5) (.az 5 3 0 0)).put (some 6) (.az 6 3 0 0)).put (some 14) (.az 14 4 0 0)).put (some 17) (.az 17 3 0 0)).put (some 88) (ah (d+1))).put (some 89) (ah j))) (fun j=>j<=d+1) (fun j=>d+1-j) 0 (Nat.zero_le _) ?_
   rintro j L3 hj
   refine aA ?_
   refine aC rfl ?_ ?_<;>intro ayo h90
   ·have gY:j<d+1:=by omega
    have hpj:=ad8 h fw eT gR kg (j:=j) J
    have jB:((kt po x y).take j).length=j:=by rw [List.length_take,qG];omega
    have fD:(((kt po x y).take j).map aT).take j=((kt po x y).take j).map aT:=List.take_of_length_le kB
    have gv:(kt po x y).take j++[yG po x y j]=(kt po x y).take (j+1):=by
     rw [<-ahD (x:=x) (y:=y) (show j<po.length by omega),List.take_add_one,List.getD_eq_getElem?_getD,List.getElem?_eq_getElem (by rw [qG];omega)];rfl
    have hcw:rl ((dH (aX po) x y).getD j 0)<=500000000:=by
     rw [acr h eT J]
     exact Nat.le_trans (aa1 (R:=100000) tF hyr h6 J fun i=>ga ai hW i) ai
    have atr:rl ((dH (bj po 0) x y).getD j 0)<=500000000:=by
     rw [abA h eT 0 J]
     exact Nat.le_trans (aa1 (R:=100000) tF hyr h6 J fun i=>ga ai (hN 0) i) ai
    have awF:rl ((dH (bj po 1) x y).getD j 0)<=500000000:=by
     rw [abA h eT 1 J]
     exact Nat.le_trans (aa1 (R:=100000) tF hyr h6 J fun i=>ga ai (hN 1) i) ai
    have aw6:rl ((dH (bj po 2) x y).getD j 0)<=500000000:=by
     rw [abA h eT 2 J]
     exact Nat.le_trans (aa1 (R:=100000) tF hyr h6 J fun i=>ga ai (hN 2) i) ai
    have hFP:av Tryz.prog 96 [.agg [ae ((dH (bj po 0) x y).getD j 0),ae ((dH (bj po 1) x y).getD j 0),ae ((dH (bj po 2) x y).getD j 0),ae ((dH (aX po) x y).getD j 0)]] (aT (yG po x y j)):=akp _ _ _ _ 500000000 ai atr awF aw6 hcw hpj
    refine bC ?_
    refine aY 25 an ?_
    refine xL ?_
    have aDS:=aia ((dH (bj po 0) x y).getD j 0) ((dH (bj po 1) x y).getD j 0) ((dH (bj po 2) x y).getD j 0) ((dH (aX po) x y).getD j 0)
    refine cp aK (hFP) ?_
    refine ar ?_
    refine bI rfl (.app (news:=[aT (yG po x y j)]) rfl rfl rfl rfl rfl kB (.inl rfl) ai Tryz.underlying26 Tryz.underlying26 Z42 rQ cs B42 (.inl ⟨116,0,_,rfl,by decide,rfl,rfl,by simp,rfl,by simp [aG,bw.pure]⟩) bm bm ai) ?_
    refine a6 ?_
    refine cq (aw.kill _ 116) ?_
    refine ak rfl cB ?_
    refine aJ ?_
    exact vx
   ·obtain rfl:j=d+1:=by omega
    have hEp:(kt po x y).take (d+1)=(kt po x y):=List.take_of_length_le (by rw [qG];omega)
    refine dj ?_
    simp only [hEp]
    exact sE [83,117] rfl rfl rfl cs (dG cs rfl) jH (.agg (.cons (.pure rfl) (.cons (eN (l:=bl d lo hi) ao rfl rfl fU.symm) (.cons (eN (l:=kt po x y) bw rfl rfl (by rw [qG];omega)) .nil)))) rfl (.pure rfl)
end Go.Proofs.YtckppbhafancnaaGreat
end
section
set_option linter.unusedVariables false
set_option linter.unusedSimpArgs false
namespace Go.Lg
section
variable {P:Program} {W w w':World} {X:XS} {Z0 Z Zr:Nat->Prop} {μ dE:Nat->Option Nat} {H:bK} {a:Act} {L L':St} {n:Nat} {ops:Array Oper}
def acB (P:Program) (ops:Array Oper) (o:Oper) (L L':St):Prop :=
 ∀ (n:Nat) (W:World) (X:XS) (Z0:Nat->Prop) (a:Act) (w:World) (K:Act->World->Prop) (Q:Exit->Act->World->Prop),fa n W X Z0 L a w->(∀ t,o.dst=some t->t<n) ->
  (∀ a' w',fa n W X Z0 L' a' w'->K a' w')->if Region.wanted o (yielded ops a.tmps) then o.wp P a w K Q else K (a.put o.dst undef) w
variable {Q:iM->St->Prop}
end
end Go.Lg
namespace Go.Lg
section
variable {P:Program} {W w w':World} {X X0:XS} {Z0 Z Zr:Nat->Prop} {μ dE:Nat->Option Nat} {H H' Hr:bK} {a:Act} {L L':St} {n d:Nat} {ops:Array Oper} {σ:Nat->Nat}
def td (μ dE:Nat->Option Nat) (d:Nat):Nat->Option Nat:=fun c=>if 1000000+d*16<c/\c<1000000+d*16+16 then(dE (c-(1000000+d*16))).or (μ c) else μ c
theorem Core.aA6 (hc:Core W X Z0 μ Z H w) (hr:Core w X0 Z dE Zr Hr w') (hσ:∀ k id,dE k=some id->k≠0->k<16/\σ k=dK d k/\μ (dK d k)=none)
  (hb:∀ id,X0.x id->μ (σ 0)=some id/\¬ Z id) (hy:∀ id,X0.y id->(∀ c,μ c≠some id)/\¬ Z id/\(W.heap.size<=id\/X.y id)) (h0:∀ id,dE 0=some id->X0.x id) (hH:∀ k id blk,dE k=some id->Hr k=some blk->H' (σ k)=some ⟨blk.sz,cX σ blk.vals,blk.mt⟩)
  (hold:∀ c id,μ c=some id->¬ X0 id->H' c=H c) :
  Core W X Z0 (td μ dE d) Zr H' w'/\(∀ c id,μ c=some id->td μ dE d c=some id)/\Frame Z μ w w'/\(∀ k id,dE k=some id->td μ dE d (σ k)=some id):=by
 have adO:∀ c id,μ c=some id->td μ dE d c=some id:=fun c id h=>by
  unfold td
  split
  ·rename_i o7
   cases hq:dE (c-(1000000+d*16)) with
   | none=>simpa using h
   | some id' =>
    have:=(hσ _ _ hq J).2.2
    have e:dK d (c-(1000000+d*16))=c:=by unfold dK;omega
    rw [e,h] at this;cases this
  ·exact h
 have aui:∀ k id,dE k=some id->k≠0->td μ dE d (dK d k)=some id:=fun k id h hk=>by
  have:=(hσ _ _ h hk).1
  unfold td dK
  rw [if_pos J]
  have e:1000000+d*16+k-(1000000+d*16)=k:=by omega
  rw [e,h];rfl
 have kD:∀ k id,dE k=some id->td μ dE d (σ k)=some id:=fun k id h=>by
  by_cases hk:k=0
  ·subst hk;exact adO _ _ (hb id (h0 id h)).1
  ·rw [(hσ _ _ h hk).2.1];exact aui k id h hk
 have hinv:∀ c id,td μ dE d c=some id->(∃ k,k≠0/\c=dK d k/\dE k=some id)\/μ c=some id:=fun c id h=>by
  unfold td at h
  split at h
  ·rename_i o7
   cases hq:dE (c-(1000000+d*16)) with
   | none=>rw [hq] at h;exact .inr lJ
   | some id' =>
    rw [hq] at h
    simp only [Option.some_or,Option.some.injEq] at h
    subst h
    exact .inl ⟨c-(1000000+d*16),J,by unfold dK;omega,hq⟩
  ·exact .inr h
 have bX:∀ k id,dE k=some id->k≠0->w.heap.size<=id\/X0.y id:=fun k id h hk=>by
  rcases hr.own k id h with h1 | h1 | h1
  ·exact .inl h1
  ·exact absurd (hr.x0 k id h h1) hk
  ·exact .inr h1
 have ahQ:∀ k id c,dE k=some id->k≠0->μ c=some id->False:=fun k id c h hk h1=>by
  rcases bX k id h hk with h2 | h2
  ·have:=hc.lt h1;omega
  ·exact(hy id h2).1 c h1
 have oE:∀ k,k<w.heap.size->¬ X0 k->w'.heap[k]?=w.heap[k]?:=fun k hk hx=>hr.cd.block k hk hx
 have dt:Frame Z μ w w':=by
  refine⟨fun id h=>oE id (hc.kf id h) (fun e=>e.elim (fun e=>(hb id e).2 h) (fun e=>(hy id e).2.1 h)),fun c id h cc T fz sQ=>?_⟩
  by_cases e:X0 id
  ·exact hr.cd.sw id e cc T fz sQ
  ·exact⟨cc,(oE id (hc.lt h) e).trans sQ,rfl⟩
 have hX:∀ k,k<W.heap.size->¬ X k->¬ X0 k:=fun k hk hx e=>by
  rcases e with e | e
  ·rcases hc.own (σ 0) k (hb k e).1 with h | h
   ·omega
   ·exact hx h
  ·rcases(hy k e).2.2 with h | h
   ·omega
   ·exact hx (.inr h)
 refine⟨⟨?_,hr.kf,fun id h=>hr.iJ id (hc.iJ id h),?_,?_,?_,?_,hc.mw,fun id h=>adO 0 id (hc.x1 id h),?_,?_,?_⟩,adO,dt,kD⟩
 ·refine⟨hr.cd.os.trans hc.cd.os,hr.cd.tape.trans hc.cd.tape,hr.cd.output.trans hc.cd.output,Nat.le_trans hc.cd.size hr.cd.size,fun k hk hx=>?_,fun k hx c T fz h=>?_⟩
  ·exact(oE k (by have:=hc.cd.size;omega) (hX k hk hx)).trans (hc.cd.block k hk hx)
  ·obtain⟨c',g1,g2⟩:=hc.cd.sw k hx c T fz h
   by_cases e:X0 k
   ·obtain⟨c2,g3,g4⟩:=hr.cd.sw k e c' T fz g1
    exact⟨c2,g3,g4.trans g2⟩
   ·exact⟨c',(oE k (Array.getElem?_eq_some_iff.1 g1).1 e).trans g1,g2⟩
 ·intro id h
  rcases hr.jW id h with h | h | h
  ·exact hc.jW id h
  ·exact .inr (.inl (Nat.le_trans hc.cd.size h))
  ·exact .inr (hy id h).2.2
 ·intro c c' id h h'
  rcases hinv c id h with⟨k,k0,rfl,h1⟩ | h1<;>rcases hinv c' id h' with⟨k',k0',rfl,h2⟩ | h2
  ·rw [hr.inj k k' id h1 h2]
  ·exact(ahQ k id _ h1 k0 h2).elim
  ·exact(ahQ k' id _ h2 k0' h1).elim
  ·exact hc.inj c c' id h1 h2
 ·intro c id h
  rcases hinv c id h with⟨k,k0,rfl,h1⟩ | h1
  ·rcases bX k id h1 k0 with h2 | h2
   ·exact .inl (Nat.le_trans hc.cd.size h2)
   ·exact(hy id h2).2.2.imp (fun h=>h) .inr
  ·exact hc.own c id h1
 ·intro c id h hx
  rcases hinv c id h with⟨k,k0,rfl,h1⟩ | h1
  ·exact(ahQ k id 0 h1 k0 (hc.x1 id hx)).elim
  ·exact hc.x0 c id h1 hx
 all_goals
  have ua:∀ c id,td μ dE d c=some id->(∃ k blk,c=σ k/\dE k=some id/\Hr k=some blk/\qS Zr dE w' blk id)\/(¬ X0 id/\μ c=some id):=fun c id h=>by
   rcases hinv c id h with⟨k,k0,rfl,h1⟩ | h1
   ·obtain⟨blk,g1,g2⟩:=hr.heap k id h1
    exact .inl ⟨k,blk,(hσ k id h1 k0).2.1.symm,h1,g1,g2⟩
   ·by_cases e:X0 id
    ·have e:X0.x id:=e.resolve_right (fun e=>(hy id e).1 c h1)
     have yD:=hc.inj c (σ 0) id h1 (hb id e).1
     have h2:=hr.x1 id e
     obtain⟨blk,g1,g2⟩:=hr.heap 0 id h2
     exact .inl ⟨0,blk,yD,h2,g1,g2⟩
    ·exact .inr ⟨e,h1⟩
 ·intro c id blk h g eA hz
  rcases ua c id h with⟨k,b0,rfl,h1,g1,g2⟩ | ⟨e,h1⟩
  ·rw [hH k id b0 h1 g1] at g;cases g
   exact hr.il k id b0 h1 g1 eA hz
  ·rw [hold c id h1 e] at g
   rcases hr.jW id hz with hz | hz | hz
   ·exact hc.il c id blk h1 g eA hz
   ·have:=hc.lt h1;omega
   ·exact(e (.inr hz)).elim
 ·intro c id blk h g eA
  rcases ua c id h with⟨k,b0,rfl,h1,g1,g2⟩ | ⟨e,h1⟩
  ·rw [hH k id b0 h1 g1] at g;cases g
   exact hr.bR k id b0 h1 g1 eA
  ·rw [hold c id h1 e] at g
   exact hr.iJ id (hc.bR c id blk h1 g eA)
 ·intro c id h
  rcases ua c id h with⟨k,b0,rfl,h1,g1,cc,T,part,rest,q1,q2,q3⟩ | ⟨e,h1⟩
  ·exact⟨_,hH k id b0 h1 g1,cc,T,part,rest,q1,q2,aM.bJ σ kD _ _ _ q3⟩
  ·obtain⟨bk,g1,g2⟩:=hc.heap c id h1
   exact⟨bk,by rw [hold c id h1 e];exact g1,g2.mono hr.iJ adO dt (oE id (hc.lt h1) e)⟩
def qV (blk:a8) (bs:List a8):bK:=fun n=>if n=0 then some blk else bs[n-1]?
def qE (σ:Nat->Nat):Nat->List a8->St->St
 | _,[],L=>L
 | k,b :: bs,L=>qE σ (k+1) bs (L.bF (σ k) (some ⟨b.sz,cX σ b.vals,b.mt⟩))
theorem ane:∀ (bs:List a8) (k:Nat) (L:St),(qE σ k bs L).slot=L.slot
 | [],_,_=>rfl
 | b :: bs,k,L=>by rw [qE,ane bs];rfl
theorem ad7:∀ (bs:List a8) (k:Nat) (L:St) (c:Nat),(∀ j,k<=j->j<k+bs.length->c≠σ j)->(qE σ k bs L).heap c=L.heap c
 | [],_,_,_,_=>rfl
 | b :: bs,k,L,c,h=>by
   rw [qE,ad7 bs (k+1) _ c (fun j h1 h2=>h j J (by simp only [List.length_cons];omega))]
   show (if c=σ k then _ else L.heap c)=_
   rw [if_neg (h k (Nat.le_refl _) (by simp only [List.length_cons];omega))]
theorem aqI:∀ (bs:List a8) (k:Nat) (L:St) (i:Nat) (b:a8),(∀ j j',k<=j->j<j'->j'<k+bs.length->σ j≠σ j')->bs[i]?=some b->(qE σ k bs L).heap (σ (k+i))=some ⟨b.sz,cX σ b.vals,b.mt⟩
 | [],_,_,i,_,_,h=>by simp at h
 | x :: xs,k,L,0,b,hi,h=>by
   simp only [List.getElem?_cons_zero,Option.some.injEq] at h;subst h
   show (qE σ k (x :: xs) L).heap (σ k)=_
   rw [qE,ad7 xs (k+1) _ _ (fun j h1 h2=>hi k j (Nat.le_refl _) J (by simp only [List.length_cons];omega))]
   simp [St.bF]
 | x :: xs,k,L,i+1,b,hi,h=>by
   rw [qE]
   have:=aqI xs (k+1) (L.bF (σ k) (some ⟨x.sz,cX σ x.vals,x.mt⟩)) i b (fun j j' h1 h2 h3=>hi j j' J h2 (by simp only [List.length_cons];omega)) lJ
   rwa [show k+1+i=k+(i+1) by omega] at this
def kR (b d:Nat):Nat->Nat:=fun k=>if k=0 then b else dK d k
end
end Go.Lg
namespace Go.Lg
section
variable {P:Program} {W w w':World} {X X0:XS} {Z0 Z Zr:Nat->Prop} {μ dE:Nat->Option Nat} {H H' Hr:bK} {a:Act} {L L':St} {n d:Nat} {ops:Array Oper} {σ:Nat->Nat}
def ph (own:List Nat):Nat->Nat:=fun b=>if b=0 then 0 else own.idxOf b+1
def wq (μ:Nat->Option Nat) (own:List Nat):Nat->Option Nat:=fun k=>if k=0 then μ 0 else(own[k-1]?).bind μ
theorem aA3 {own:List Nat} {k id:Nat} (hnd:own.Nodup) (h:wq μ own k=some id):(k=0/\μ 0=some id)\/∃ b,k≠0/\own[k-1]?=some b/\μ b=some id:=by
 unfold wq at h
 split at h
 ·rename_i e;exact .inl ⟨e,h⟩
 ·rename_i e
  rw [Option.bind_eq_some_iff] at h
  obtain⟨b,g1,g2⟩:=h
  exact .inr ⟨b,e,g1,g2⟩
theorem ayB {own:List Nat} {H:bK} (hc:∀ c id,μ c=some id->H c≠none) (zF:∀ c,c≠0->H c≠none->c∈own):∀ c id,μ c=some id->wq μ own (ph own c)=some id:=fun c id h=>by
 by_cases h0:c=0
 ·subst h0;simpa [ph,wq] using h
 ·have hm:=zF c h0 (hc c id h)
  have hl:=List.idxOf_lt_length_of_mem hm
  have he:own[own.idxOf c]?=some c:=by rw [List.getElem?_eq_getElem hl,List.getElem_idxOf hl]
  simp [ph,wq,h0,he,h]
theorem akM {bc:Nat->Option Nat} (f:Nat->Nat) (hm:∀ c id,μ c=some id->bc (f c)=some id) (hc:Core W X Z0 μ Z L.heap w) (hr:∀ t,a9 Z μ w (L.slot t) (a.tmps.getD t undef)) :
  ∀ (rs:List ResultVar) (xs:List LV),wX P L rs xs->(∀ x∈xs,x≠.any/\∀ l,x≠.a7 l)->∃ us,(rs.mapM (wk a.tmps)).run P w=.ok us w/\eY Z bc w (cX f xs) us
 | _,_,.nil,_=>⟨[],rfl,rfl⟩
 | _,_,.cons (vs:=vs) (xs:=xs) h t,hx=>by
   obtain⟨u,q1,q2⟩:=agH hc hr h (hx _ aO)
   obtain⟨us,q3,q4⟩:=akM f hm hc hr _ _ t (fun y hy=>hx y (by simp [hy]))
   refine⟨u :: us,?_,u,us,rfl,q2.bJ f hm,q4⟩
   rw [List.mapM_cons,Sem.run_bind,q1]
   simp only [Result.andThen_ok,Sem.run_bind,q3,Sem.run_pure]
theorem asz {ys:List LV} {us:List Value} (h:eY Z μ w ys us):a9 Z μ w (aeF ys) (if h:us.toArray.size=1 then us.toArray[0] else .tuple us.toArray):=by
 have wM:=aas _ _ h
 match ys,us,h,wM with
 | [y],[u],q2,_ =>
  obtain⟨v,iN,e,g1,g2⟩:=q2
  simp only [List.cons.injEq] at e
  obtain⟨rfl,_⟩:=e
  have hnt:∀ l,y≠.a7 l:=fun l e=>by subst e;have:=g1.2 rfl;simp [ay] at this
  exact a9.pE hnt g1
 | [],[],q2,_=>exact⟨_,rfl,by simpa using q2⟩
 | y :: y' :: ys,u :: u' :: us,q2,_=>exact⟨(u :: u' :: us).toArray,by simp,by simpa using q2⟩
theorem Core.atf {own:List Nat} {Hr:bK} {bs:List a8} (hc:Core W X Z0 μ Z H w) (hnd:own.Nodup) (g7:0∉own) (zF:∀ c,c≠0->H c≠none->c∈own)
  (pV:∀ (k b:Nat),own[k]?=some b->∃ blk:a8,H b=some blk/\bs[k]?=some ⟨blk.sz,cX (ph own) blk.vals,blk.mt⟩)
  (g8:∀ k,k≠0->Hr k=bs[k-1]?) (qD:∀ id blk,μ 0=some id->H 0=some blk->Hr 0=some ⟨blk.sz,cX (ph own) blk.vals,blk.mt⟩) :
  Core W X Z0 (wq μ own) Z Hr w/\∀ c id,μ c=some id->wq μ own (ph own c)=some id:=by
 have hhm:∀ c id,μ c=some id->H c≠none:=fun c id h e=>by obtain⟨bk,g,_⟩:=hc.heap c id h;rw [e] at g;cases g
 have hm:=ayB (μ:=μ) (own:=own) hhm zF
 have ua:∀ k id,wq μ own k=some id->∃ c blk,μ c=some id/\H c=some blk/\qS Z μ w blk id/\Hr k=some ⟨blk.sz,cX (ph own) blk.vals,blk.mt⟩/\((k=0/\c=0)\/(k≠0/\c≠0/\own[k-1]?=some c)):=fun k id h=>by
  rcases aA3 hnd h with⟨rfl,h0⟩ | ⟨b,k0,g1,g2⟩
  ·obtain⟨blk,q1,q2⟩:=hc.heap 0 id h0
   exact⟨0,blk,h0,q1,q2,qD id blk h0 q1,.inl ⟨rfl,rfl⟩⟩
  ·obtain⟨blk,q1,q2⟩:=hc.heap b id g2
   obtain⟨blk',j1,j2⟩:=pV _ _ g1
   rw [q1] at j1;cases j1
   exact⟨b,blk,g2,q1,q2,by rw [g8 k k0];exact j2,.inr ⟨k0,fun e=>g7 (e ▸ List.mem_of_getElem? g1),g1⟩⟩
 refine⟨⟨hc.cd,hc.kf,hc.iJ,hc.jW,?_,?_,?_,hc.mw,fun id h=>by simpa [wq] using hc.x1 id h,?_,?_,?_⟩,hm⟩
 ·intro k k' id h h'
  obtain⟨c,_,g1,_,_,_,g2⟩:=ua k id h
  obtain⟨c',_,g1',_,_,_,g2'⟩:=ua k' id h'
  have e:=hc.inj c c' id g1 g1'
  subst e
  rcases g2 with⟨rfl,c0⟩ | ⟨k0,c0,q⟩<;>rcases g2' with⟨rfl,c0'⟩ | ⟨k0',c0',q'⟩
  ·rfl
  ·exact absurd c0 c0'
  ·exact absurd c0' c0
  ·obtain⟨l1,e1⟩:=List.getElem?_eq_some_iff.1 q
   obtain⟨l2,e2⟩:=List.getElem?_eq_some_iff.1 q'
   have hp:=List.pairwise_iff_getElem.1 hnd
   rcases Nat.lt_trichotomy (k-1) (k'-1) with h | h | h
   ·exact absurd (e1.trans e2.symm) (hp _ _ l1 l2 h)
   ·omega
   ·exact absurd (e2.trans e1.symm) (hp _ _ l2 l1 h)
 ·intro k id h
  obtain⟨c,_,g1,_⟩:=ua k id h
  exact hc.own c id g1
 ·intro k id h hx
  obtain⟨c,_,g1,_,_,_,g2⟩:=ua k id h
  have:=hc.x0 c id g1 hx
  rcases g2 with⟨rfl,_⟩ | ⟨_,c0,_⟩
  ·rfl
  ·exact absurd this c0
 ·intro k id blk h g eA
  obtain⟨c,b0,g1,g2,g3,g4,_⟩:=ua k id h
  rw [g4] at g;cases g
  exact hc.il c id b0 g1 g2 eA
 ·intro k id blk h g eA
  obtain⟨c,b0,g1,g2,g3,g4,_⟩:=ua k id h
  rw [g4] at g;cases g
  exact hc.bR c id b0 g1 g2 eA
 ·intro k id h
  obtain⟨c,b0,g1,g2,⟨cc,T,part,rest,j1,j2,j3⟩,g4,_⟩:=ua k id h
  exact⟨_,g4,cc,T,part,rest,j1,j2,aM.bJ _ hm _ _ _ j3⟩
def gV (b b':Nat):Nat->Nat:=fun k=>if k=b then b' else k
def St.move (L:St) (b b':Nat):St :=
 ⟨fun t=>(L.slot t).bJ (gV b b'),fun c=>if c=b' then(L.heap b).map fun x=>⟨x.sz,cX (gV b b') x.vals,x.mt⟩ else if c=b then none else(L.heap c).map fun x=>⟨x.sz,cX (gV b b') x.vals,x.mt⟩⟩
theorem aw.axK {L:St} {b b':Nat} (hb:b≠0) (o7:b'≠0) (aQ:b≠b') (hf:L.heap b'=none):aw L (L.move b b'):=by
 rintro n W X Z0 a w ⟨dL,bB,μ,Z,hc,hr⟩
 have qc:μ b'=none:=qX hc hf
 let bc:Nat->Option Nat:=fun c=>if c=b' then μ b else if c=b then none else μ c
 have hm:∀ c id,μ c=some id->bc (gV b b' c)=some id:=fun c id h=>by
  by_cases e:c=b
  ·subst e;simp [bc,gV,h]
  ·have e':c≠b':=by rintro rfl;rw [qc] at h;cases h
   simp [bc,gV,e,e',h]
 have hinv:∀ c id,bc c=some id->∃ c0,μ c0=some id/\c=gV b b' c0:=fun c id h=>by
  simp only [bc] at h
  split at h
  ·rename_i e;exact⟨b,h,by simp [gV,e]⟩
  ·split at h
   ·cases h
   ·rename_i e1 e2;exact⟨c,h,by simp [gV,e2]⟩
 have uL:∀ c c' id id',μ c=some id->μ c'=some id'->gV b b' c=gV b b' c'->c=c':=fun c c' id id' h h' e=>by
  have e1:c≠b':=by rintro rfl;rw [qc] at h;cases h
  have e2:c'≠b':=by rintro rfl;rw [qc] at h';cases h'
  unfold gV at e
  split at e<;>split at e<;>first | omega | (subst_vars;first | rfl | (exact absurd rfl (by assumption)) | (exfalso;apply e2;exact e.symm) | (exfalso;apply e1;exact e))
 have hH:∀ c id blk,μ c=some id->L.heap c=some blk->(L.move b b').heap (gV b b' c)=some ⟨blk.sz,cX (gV b b') blk.vals,blk.mt⟩:=fun c id blk h g=>by
  by_cases e:c=b
  ·subst e;simp [St.move,gV,g]
  ·have e':c≠b':=by rintro rfl;rw [qc] at h;cases h
   simp [St.move,gV,e,e',g]
 refine⟨dL,bB,bc,Z,⟨hc.cd,hc.kf,hc.iJ,hc.jW,?_,?_,?_,hc.mw,?_,?_,?_,?_⟩,fun t=>a9.bJ _ hm (hr t)⟩
 ·intro c c' id h h'
  obtain⟨d,g1,rfl⟩:=hinv c id h
  obtain⟨d',g2,rfl⟩:=hinv c' id h'
  rw [hc.inj d d' id g1 g2]
 ·intro c id h
  obtain⟨d,g1,rfl⟩:=hinv c id h
  exact hc.own d id g1
 ·intro c id h hx
  obtain⟨d,g1,rfl⟩:=hinv c id h
  have:=hc.x0 d id g1 hx
  subst this
  simp [gV,Ne.symm hb]
 ·intro id h
  have:=hm 0 id (hc.x1 id h)
  simpa [gV,Ne.symm hb] using this
 ·intro c id blk h g eA
  obtain⟨d,g1,rfl⟩:=hinv c id h
  obtain⟨b0,j1,j2⟩:=hc.heap d id g1
  rw [hH d id b0 g1 j1] at g;cases g
  exact hc.il d id b0 g1 j1 eA
 ·intro c id blk h g eA
  obtain⟨d,g1,rfl⟩:=hinv c id h
  obtain⟨b0,j1,j2⟩:=hc.heap d id g1
  rw [hH d id b0 g1 j1] at g;cases g
  exact hc.bR d id b0 g1 j1 eA
 ·intro c id h
  obtain⟨d,g1,rfl⟩:=hinv c id h
  obtain⟨b0,j1,cc,T,part,rest,q1,q2,q3⟩:=hc.heap d id g1
  exact⟨_,hH d id b0 g1 j1,cc,T,part,rest,q1,q2,aM.bJ _ hm _ _ _ q3⟩
theorem am8 {b b':Nat} (f:a8->a8) (aQ:b≠b'):∀ (l:List (Nat × a8)),(∀ p∈l,p.1≠b')->∀ c,hp (l.map fun p=>(gV b b' p.1,f p.2)) c=if c=b' then(hp l b).map f else if c=b then none else(hp l c).map f
 | [],_,c=>by simp [hp]
 | (d,y) :: t,hl,c=>by
   have ih:=am8 f aQ t (fun p hp=>hl p (by simp [hp])) c
   have hd:d≠b':=hl (d,y) aO
   have hpc:∀ (e:Nat) (z:a8) (u:List (Nat × a8)) (x:Nat),hp ((e,z) :: u) x=if x=e then some z else hp u x:=fun e z u x=>by
    simp only [hp]
    by_cases h:x=e
    ·simp [h]
    ·have:Nat.beq x e=false:=by rw [<-Bool.not_eq_true,Nat.beq_eq];exact h
     rw [this,if_neg h];rfl
   simp only [List.map_cons,hpc,ih]
   by_cases h1:d=b
   ·subst h1
    simp only [gV,if_true]
    by_cases h2:c=b'
    ·simp [h2]
    ·by_cases h3:c=d
     ·subst h3;simp [h2]
     ·simp [h2,h3]
   ·have e1:gV b b' d=d:=by simp [gV,h1]
    rw [e1]
    by_cases h2:c=b'
    ·subst h2
     have:c≠d:=fun e=>hd e.symm
     simp [this,Ne.symm h1]
    ·by_cases h3:c=b
     ·subst h3
      simp [h2,Ne.symm h1]
     ·by_cases h4:c=d
      ·subst h4;simp [h2,h3]
      ·simp [h2,h3,h4]
theorem aw.avA {L:St} {b b':Nat} {l:List (Nat × a8)} (hl:L.heap=hp l) (hb:b≠0) (o7:b'≠0) (aQ:b≠b') :
  aw L ⟨fun t=>((L.slot t).kill b').bJ (gV b b'),hp ((nd b' l).map fun p=>(gV b b' p.1,(⟨p.2.sz,cX (gV b b') p.2.vals,p.2.mt⟩:a8)))⟩:=by
 have hk:(L.kill b').heap=hp (nd b' l):=by
  funext c
  rw [afp]
  simp only [St.kill,hl]
 have hn:∀ p∈nd b' l,p.1≠b':=by
  clear hk hl
  induction l with
  | nil=>simp [nd]
  | cons q t ih =>
   obtain⟨d,y⟩:=q
   simp only [nd]
   by_cases h:d=b'
   ·subst h;simpa using ih
   ·have:Nat.beq d b'=false:=by rw [<-Bool.not_eq_true,Nat.beq_eq];exact h
    rw [this]
    simp only [cond_false,List.mem_cons]
    rintro p (rfl | hp)
    ·exact h
    ·exact ih p hp
 refine(aw.kill L b' o7).trans ((aw.axK (b:=b) (b':=b') hb o7 aQ (by simp [St.kill])).trans (aw.of_eq ?_))
 simp only [St.move,St.mk.injEq]
 refine⟨rfl,?_⟩
 funext c
 rw [am8 (fun x=>⟨x.sz,cX (gV b b') x.vals,x.mt⟩) aQ _ hn c,hk]
end
section
variable {Z Z':Nat->Prop} {μ bc:Nat->Option Nat} {w:World}
mutual
theorem LV.agE (f:Nat->Nat):∀ (x:LV),(x.bJ f).pure=x.pure
 | .any=>rfl
 | .v _=>rfl
 | .list sz l=>by simp only [LV.bJ,LV.pure,aaR f l]
 | .agg l=>by simp only [LV.bJ,LV.pure,aaR f l]
 | .ref ..=>rfl
 | .iV ..=>rfl
 | .az ..=>rfl
 | .bW c=>by simp only [LV.bJ,LV.pure,LV.agE f c]
 | .cV g l=>by simp only [LV.bJ,LV.pure,aaR f l]
 | .a7 l=>by simp [LV.bJ,LV.pure]
theorem aaR (f:Nat->Nat):∀ (l:List LV),aG (cX f l)=aG l
 | []=>rfl
 | x :: xs=>by simp only [cX,aG,LV.agE f x,aaR f xs]
end
mutual
theorem ay.unren (f:Nat->Nat) (hm:∀ b id,μ (f b)=some id->bc b=some id):∀ (lv:LV) (cs:List Value),ay Z μ w (lv.bJ f) cs->ay Z bc w lv cs
 | .any,_,h=>by simpa [ay,LV.bJ] using h
 | .v x,cs,h=>by simpa [ay,LV.bJ] using h
 | .list sz l,cs,h=>by
   have h9:aG l=true:=by
    simp only [ay,LV.bJ] at h
    obtain⟨a,len,cap,h1,h2,h3,h4,h9⟩:=h
    rwa [aaR] at h9
   rw [LV.cP f (.list sz l) (by simpa [LV.pure] using h9)] at h
   exact ay.ja (fun _ h=>h) (fun _ _=>rfl) _ _ (by simpa [LV.pure] using h9) h
 | .agg l,cs,h=>by
   simp only [ay,LV.bJ] at h ⊢
   exact b8.unren f hm l cs h
 | .ref b sz off len,cs,h=>by
   simp only [ay,LV.bJ] at h ⊢
   rcases h with h | ⟨id,cap,c,T,fz,h1,h2,h3⟩
   ·exact nN
   exact .inr ⟨id,cap,c,T,fz,h1,hm _ _ h2,h3⟩
 | .iV b sz off len cap,cs,h=>by
   simp only [ay,LV.bJ] at h ⊢
   obtain⟨id,c,T,fz,h1,h2,h3⟩:=h
   exact⟨id,c,T,fz,h1,hm _ _ h2,h3⟩
 | .az b sz i o,cs,h=>by
   simp only [ay,LV.bJ] at h ⊢
   obtain⟨id,h1,h2⟩:=h
   exact⟨id,h1,hm _ _ h2⟩
 | .bW c,cs,h=>by
   have h9:c.pure=true:=by
    simp only [ay,LV.bJ] at h
    obtain⟨blk,off,cc,T,fz,part,rest,h1,h2,h3,h4,h5,h6,h7⟩:=h
    rwa [LV.agE] at h7
   rw [LV.cP f (.bW c) (by simpa [LV.pure] using h9)] at h
   exact ay.ja (fun _ h=>h) (fun _ _=>rfl) _ _ (by simpa [LV.pure] using h9) h
 | .cV g cap,cs,h=>by
   have h9:aG cap=true:=by
    simp only [ay,LV.bJ] at h
    obtain⟨vs,h1,h2,h3⟩:=h
    rwa [aaR] at h3
   rw [LV.cP f (.cV g cap) (by simpa [LV.pure] using h9)] at h
   exact ay.ja (fun _ h=>h) (fun _ _=>rfl) _ _ (by simpa [LV.pure] using h9) h
 | .a7 _,_,h=>by simp [ay,LV.bJ] at h
theorem aM.unren (f:Nat->Nat) (hm:∀ b id,μ (f b)=some id->bc b=some id) (sz:Nat):∀ (l:List LV) (cs:List Value),aM Z μ w sz (cX f l) cs->aM Z bc w sz l cs
 | [],cs,h=>by simpa [aM,cX] using h
 | x :: xs,cs,h=>by
   simp only [aM,cX] at h ⊢
   obtain⟨c1,c2,h1,h2,h3,h4⟩:=h
   exact⟨c1,c2,h1,h2,ay.unren f hm x c1 h3,aM.unren f hm sz xs c2 h4⟩
theorem b8.unren (f:Nat->Nat) (hm:∀ b id,μ (f b)=some id->bc b=some id):∀ (l:List LV) (cs:List Value),b8 Z μ w (cX f l) cs->b8 Z bc w l cs
 | [],cs,h=>by simpa [b8,cX] using h
 | x :: xs,cs,h=>by
   simp only [b8,cX] at h ⊢
   obtain⟨c1,c2,h1,h2,h3,h4⟩:=h
   exact⟨c1,c2,h1,by rw [<-LV.adR f];exact h2,ay.unren f hm x c1 h3,b8.unren f hm xs c2 h4⟩
end
theorem eQ.unren (f:Nat->Nat) (hm:∀ b id,μ (f b)=some id->bc b=some id) {lv:LV} {v:Value} (h:eQ Z μ w (lv.bJ f) v):eQ Z bc w lv v :=
 ⟨fun e=>let ⟨cs,h1,h2⟩:=h.1 (by rwa [LV.afk]);⟨cs,h1,ay.unren f hm _ _ h2⟩,fun e=>ay.unren f hm _ _ (h.2 (by rwa [LV.afk]))⟩
end
def XS.two (i0:Nat) (nr:Nat->Option Nat):XS:=⟨fun k=>k=i0,fun id=>∃ k,k≠0/\nr k=some id⟩
def xY (P:Program) (f:FuncId) (blk c1:a8) (args:List LV) (r:LV) (blk':a8) (bs:List a8):Prop :=
 afV P f/\∀ (W:World) (Z0:Nat->Prop) (vs:List Value) (i0:Nat) (nr:Nat->Option Nat),(∀ id,Z0 id->id<W.heap.size)->nr 0=some i0 ->
  (∀ k id,nr k=some id->¬ Z0 id/\∃ b,qV blk [c1] k=some b/\qS Z0 nr W b id)->(∀ k k' id,nr k=some id->nr k'=some id->k=k')->eY Z0 nr W args vs ->
  Calls P f vs.toArray W fun e w'=>∃ v μ Z,e=.returned v/\Core W (XS.two i0 nr) Z0 μ Z (qV blk' bs) w'/\a9 Z μ w' r v
def ajC (P:Program) (rs:List ResultVar) (L:St) (r:LV) (blk':a8) (bs:List a8):Prop :=
 ∃ (xs:List LV) (own:List Nat) (b0:a8),L.heap 0=some b0/\blk'=⟨b0.sz,cX (ph own) b0.vals,b0.mt⟩/\wX P L rs xs/\(∀ x∈xs,x≠.any/\∀ l,x≠.a7 l)/\own.Nodup/\0∉own/\(∀ c,c≠0->L.heap c≠none->c∈own) /\
  (∀ (k b:Nat),own[k]?=some b->∃ blk:a8,L.heap b=some blk/\bs[k]?=some ⟨blk.sz,cX (ph own) blk.vals,blk.mt⟩)/\r=aeF (cX (ph own) xs)
def ahg (P:Program) (rs:List ResultVar) (L:St) (r:LV) (blk':a8) (bs:List a8):Prop:=∃ L0,aw L L0/\ajC P rs L0 r blk' bs
section
variable {P:Program} {W w w':World} {X X0:XS} {Z0 Z Zr:Nat->Prop} {μ dE:Nat->Option Nat} {H H' Hr:bK} {a:Act} {L L':St} {n d:Nat} {ops:Array Oper} {σ:Nat->Nat}
def StC (args:List LV) (blk c1:a8):St:=⟨fun t=>args.getD t .any,qV blk [c1]⟩
theorem awE (args:List LV) (blk c1:a8):StC args blk c1=St.mk (fun t=>args.getD t .any) (hp [(0,blk),(1,c1)]):=by
 simp only [StC,St.mk.injEq,true_and]
 funext c
 simp only [hp,qV]
 match c with
 | 0=>rfl
 | 1=>rfl
 | c+2=>rw [if_neg J,nM (show c+2≠0 by omega),nM (show c+2≠1 by omega)];simp
theorem aAi {f:FuncId} {fn:Func} {c:Code} {args:List LV} {r:LV} {blk c1 blk':a8} {bs:List a8} (gE:P.follows .mixedOrders=true) (hf:P.funcs[f]?=some fn) (hb:fn.body=some c)
  (hn:(fn.name== "runtime.NumGoroutine")=false) (hd:jN fn.ntmps c=true) (hlen:args.length<=fn.ntmps) (eA:blk.mt=true) (ah1:c1.mt=true)
  (h:cy P c (fun e L=>match e with | .exit _=>False | _=>ahg P fn.results.toList L r blk' bs) (St.mk (fun t=>args.getD t .any) (hp [(0,blk),(1,c1)]))):xY P f blk c1 args r blk' bs:=by
 rw [<-awE] at h
 refine⟨⟨fn,hf,by rw [hb];rfl,hn⟩,fun W Z0 vs i0 nr hz h0 px abh hargs=>?_⟩
 have pj:=aas _ _ hargs
 refine calls_of_wp hf hb ?_
 have an1:∀ k id,nr k=some id->id<W.heap.size:=fun k id e=>by
  obtain⟨_,bk,_,c,T,part,rest,h1,_⟩:=px k id e
  exact(Array.getElem?_eq_some_iff.1 h1).1
 have axn:∀ k bk,qV blk [c1] k=some bk->bk.mt=true:=fun k bk e=>by
  unfold qV at e
  split at e
  ·cases e;exact eA
  ·rename_i hk
   have:=List.mem_of_getElem? e
   simp only [List.mem_singleton] at this
   subst this;exact ah1
 have mZ:fa fn.ntmps W (XS.two i0 nr) Z0 (StC args blk c1) ⟨vs.toArray++Array.replicate (fn.ntmps-vs.toArray.size) undef,[]⟩ W:=by
  refine⟨rfl,by simp;omega,nr,Z0,⟨Kept.refl _ _,hz,fun _ h=>h,fun _ h=>.inl h,abh,fun b id e=>?_,fun b id e hx=>?_,fun id e=>?_,fun id e=>?_,fun b id bk e _ _=>(px b id e).1,
   fun b id bk e g hm=>?_,fun b id e=>?_⟩,fun t=>?_⟩
  ·by_cases fo:b=0
   ·subst fo;rw [h0] at e;cases e;exact .inr (.inl rfl)
   ·exact .inr (.inr ⟨b,fo,e⟩)
  ·rw [show id=i0 from hx] at e;exact abh _ _ _ e h0
  ·rcases e with e | ⟨k,_,e⟩
   ·rw [show id=i0 from e];exact an1 _ _ h0
   ·exact an1 _ _ e
  ·rw [show id=i0 from e];exact h0
  ·rw [axn b bk g] at hm;cases hm
  ·exact(px b id e).2
  ·have e:vs.toArray++Array.replicate (fn.ntmps-vs.toArray.size) undef=(vs++List.replicate (fn.ntmps-vs.toArray.size) undef).toArray:=by apply Array.ext';simp
   show a9 Z0 nr W ((wv args).slot t) ((vs.toArray++Array.replicate (fn.ntmps-vs.toArray.size) undef).getD t undef)
   rw [e]
   exact afv args vs _ hargs t
 refine wp_mono (wi gE c _ _ _ _ mZ h hd) fun e a w q=>?_
 have main:∀ L,ahg P fn.results.toList L r blk' bs->fa fn.ntmps W (XS.two i0 nr) Z0 L a w ->
   a.defers=[]/\∃ v,(results fn a.tmps).run P w=.ok v w/\∃ v' μ Z,Ending.returned v=.returned v'/\Core W (XS.two i0 nr) Z0 μ Z (qV blk' bs) w/\a9 Z μ w r v':=by
  rintro L ⟨L0,hwk,xs,own,b0,fo,azF,h1,hx,h2,h3,h4,h5,h6⟩ hsL
  obtain⟨dL,bB,μ,Z,hc,hr⟩:=hwk _ _ _ _ _ _ hsL
  obtain⟨k1,k2⟩:=hc.atf (Hr:=qV blk' bs) h2 h3 h4 h5 (fun k hk=>by simp [qV,hk]) (fun id blk e g=>by rw [fo] at g;cases g;simp [qV,azF])
  obtain⟨us,q1,q2⟩:=akM (ph own) k2 hc hr _ _ h1 hx
  have n5:(fn.results.mapM (wk a.tmps)).run P w=.ok us.toArray w:=by
   rw [Array.mapM_eq_mapM_toList,Sem.run_map,q1];rfl
  refine⟨dL,(if h:us.toArray.size=1 then us.toArray[0] else .tuple us.toArray),?_,_,_,Z,rfl,k1,?_⟩
  ·rw [agR,Sem.run_bind,n5]
   rfl
  ·subst h6;exact asz q2
 cases e with
 | normal=>obtain⟨L,q1,q2⟩:=q;exact main L q1 q2
 | ret=>obtain⟨L,q1,q2⟩:=q;exact main L q1 q2
 | exit id=>obtain⟨L,q1,q2⟩:=q;exact q1.elim
 | _=>exact q.elim
def yV (b c d:Nat):Nat->Nat:=fun k=>if k=0 then b else if k=1 then c else dK d 0
inductive acz (H:bK) (σ:Nat->Nat):LV->LV->Prop
 | cf {x y} (h:cG H x y):acz H σ x y
 | bJ {y} (h:y≠.any/\∀ l,y≠.a7 l):acz H σ (y.bJ σ) y
inductive acY (H:bK) (σ:Nat->Nat):List LV->List LV->Prop
 | nil:acY H σ [] []
 | cons {x y xs ys} (h:acz H σ x y) (t:acY H σ xs ys):acY H σ (x :: xs) (y :: ys)
theorem acz.sound (hc:Core W X Z0 μ Z H w) {x y:LV} {v:Value} (h:acz H σ x y) (hr:a9 Z μ w x v):eQ Z (fun k=>μ (σ k)) w y v:=by
 cases h with
 | cf h=>exact cG.z6 hc h hr
 | bJ hn =>
  refine eQ.unren σ (fun _ _ h=>h) ?_
  cases y with
  | any=>exact absurd rfl hn.1
  | a7 l=>exact absurd rfl (hn.2 l)
  | _=>exact hr
theorem amx (hc:Core W X Z0 μ Z H w) {ρ:Operand->LV}:∀ (xs:List Operand) (args:List LV),acY H σ (xs.map ρ) args->(∀ x∈xs,a9 Z μ w (ρ x) (a.eval x)) ->
  eY Z (fun k=>μ (σ k)) w args (xs.map a.eval)
 | [],_,h,_=>by cases h;rfl
 | x :: xs,_,h,hr=>by
   generalize hq:(x :: xs).map ρ=q at h
   cases h with
   | nil=>cases hq
   | cons h t =>
    simp only [List.map_cons,List.cons.injEq] at hq
    obtain⟨rfl,rfl⟩:=hq
    exact⟨_,_,rfl,h.sound hc (hr x aO),amx hc xs _ t (fun y hy=>hr y (by simp [hy]))⟩
theorem aqv {f:FuncId} {xs:Array Operand} {ri:Array TypeId} {args:List LV} {r:LV} {b c sz csz:Nat} {vals cvals:List LV} {blk':a8} {bs:List a8} {dst:Option Tmp} {ty:TypeId} {pos:String} {af:Array Edge} {g:Option (Nat × Bool)} (d:Nat)
  (hg:dC ops L ⟨dst,.call ⟨.value (.func f),xs,ri⟩,ty,pos,af,g⟩ true) (sf:b≠c) (yD:c≠0)
  (hb:L.heap b=some ⟨sz,cX (yV b c d) vals,true⟩) (lS:L.heap c=some ⟨csz,cX (yV b c d) cvals,true⟩)
  (ha:acY L.heap (yV b c d) (xs.toList.map L.ev) args) (hn:Names b (xs.toList.map L.ev))
  (hk:xY P f ⟨sz,vals,true⟩ ⟨csz,cvals,true⟩ args r blk' bs) (hlen:bs.length<16) (hf:∀ k,k<16->L.heap (dK d k)=none) :
  acB P ops ⟨dst,.call ⟨.value (.func f),xs,ri⟩,ty,pos,af,g⟩ L ((qE (kR b d) 1 bs ((L.kill c).bF b (some ⟨blk'.sz,cX (kR b d) blk'.vals,blk'.mt⟩))).put dst (r.bJ (kR b d))):=by
 intro n W X Z0 a w K Q ⟨dL,aoI,μ,Z,hc,hr⟩ hd hK
 rw [aab hr hg]
 simp only [if_true]
 have gi:∀ t,dst=some t->t<a.tmps.size:=fun t h=>by rw [aoI];exact hd t h
 obtain⟨i0,nF⟩:=Names.mu (μ:=μ) (Z:=Z) (w:=w) (a:=a) xs.toList hn (fun x _=>jU (L:=L) hr x)
 have hargs:=amx (a:=a) hc xs.toList args ha (fun x _=>jU (L:=L) hr x)
 have eu:(execOp a.eval (Oper.mk dst (.call ⟨.value (.func f),xs,ri⟩) ty pos af g)).run P w=.ok (.enter f (xs.map a.eval)) w:=by
  have:=afu (P:=P) (w:=w) (args:=xs.map a.eval) hk.1
  simp only [execOp,resolve,Act.eval,Deferred.ofValue,Sem.run_bind,Sem.run_pure,Result.andThen_ok,invoke]
  simpa using this
 unfold Oper.wp
 rw [eu,Oper.upon_enter]
 have hun:μ (dK d 0)=none:=qX hc (hf 0 J)
 have ae5:∀ k id,μ (yV b c d k)=some id->(k=0/\μ b=some id)\/(k=1/\μ c=some id):=fun k id e=>by
  unfold yV at e
  split at e
  ·exact .inl ⟨by assumption,e⟩
  ·split at e
   ·exact .inr ⟨by assumption,e⟩
   ·rw [hun] at e;cases e
 have pH:=hc.il b i0 _ nF hb rfl
 have:=hk.2 w Z (xs.toList.map a.eval) i0 (fun k=>μ (yV b c d k)) hc.kf (by simpa [yV] using nF) (fun k id e=>by
  rcases ae5 k id e with⟨rfl,e1⟩ | ⟨rfl,e1⟩
  ·obtain⟨ae2,g1,cc,T,part,rest,q1,q2,q3⟩:=hc.heap b id e1
   rw [hb] at g1;cases g1
   exact⟨hc.il b id _ e1 hb rfl,_,rfl,cc,T,part,rest,q1,q2,aM.unren _ (fun _ _ h=>h) _ _ _ q3⟩
  ·obtain⟨ae2,g1,cc,T,part,rest,q1,q2,q3⟩:=hc.heap c id e1
   rw [lS] at g1;cases g1
   exact⟨hc.il c id _ e1 lS rfl,_,rfl,cc,T,part,rest,q1,q2,aM.unren _ (fun _ _ h=>h) _ _ _ q3⟩)
  (fun k k' id e e'=>by
   rcases ae5 k id e with⟨rfl,e1⟩ | ⟨rfl,e1⟩<;>rcases ae5 k' id e' with⟨rfl,e2⟩ | ⟨rfl,e2⟩
   ·rfl
   ·exact absurd (hc.inj _ _ _ e1 e2) sf
   ·exact absurd (hc.inj _ _ _ e2 e1) sf
   ·rfl) hargs
 rw [show (xs.toList.map a.eval).toArray=xs.map a.eval from by apply Array.ext';simp] at this
 refine this.mono ?_
 rintro e w' ⟨v,dE,Zr,rfl,z7,hv⟩
 have abh:∀ j j',1<=j->j<j'->j'<1+bs.length->kR b d j≠kR b d j':=fun j j' h1 h2 _ e=>by
  unfold kR at e
  rw [if_neg J,if_neg J] at e
  unfold dK at e;omega
 have amR:∀ k id,dE k=some id->k≠0->k<16/\∃ blk,bs[k-1]?=some blk:=fun k id h h0=>by
  obtain⟨bk,q1,_⟩:=z7.heap k id h
  simp only [qV,if_neg h0] at q1
  have:=(List.getElem?_eq_some_iff.1 q1).1
  exact⟨J,bk,q1⟩
 have rq:=hc.kill c yD
 have hinv:∀ e id,jh μ c e=some id->e≠c/\μ e=some id:=fun e id h=>by
  unfold jh at h;split at h
  ·cases h
  ·exact⟨by assumption,h⟩
 have qz:jh μ c b=some i0:=by unfold jh;rw [if_neg sf];exact nF
 obtain⟨h1,h2,h3,h4⟩:=rq.aA6 (d:=d) (σ:=kR b d) (H':=(qE (kR b d) 1 bs ((L.kill c).bF b (some ⟨blk'.sz,cX (kR b d) blk'.vals,blk'.mt⟩))).heap) z7
  (fun k id h h0=>⟨(amR k id h h0).1,by unfold kR;rw [if_neg h0],by
   unfold jh;split
   ·rfl
   ·exact qX hc (hf k (amR k id h h0).1)⟩)
  (fun id e=>by rw [show id=i0 from e];exact⟨qz,pH⟩)
  (fun id ⟨k,k0,e⟩=>by
   rcases ae5 k id e with⟨rfl,e1⟩ | ⟨rfl,e1⟩
   ·exact absurd rfl k0
   ·refine⟨fun e he=>(hinv e id he).1 (hc.inj _ _ _ (hinv e id he).2 e1),hc.il c id _ e1 lS rfl,?_⟩
    rcases hc.own c id e1 with h | h | h
    ·exact nN
    ·exact absurd (hc.x0 c id e1 h) yD
    ·exact .inr h)
  (fun id h=>by have:=z7.x1 i0 rfl;rw [h] at this;cases this;rfl)
  (fun k id bk h g=>by
   by_cases h0:k=0
   ·subst h0
    simp only [qV,if_true,Option.some.injEq] at g;subst g
    rw [ad7 _ _ _ _ (fun j h1 h2 e=>by
     unfold kR at e
     rw [if_pos rfl,if_neg J] at e
     have:=hf j J
     rw [<-e,hb] at this;cases this)]
    simp [St.bF,kR]
   ·simp only [qV,if_neg h0] at g
    have:=aqI (σ:=kR b d) bs 1 ((L.kill c).bF b (some ⟨blk'.sz,cX (kR b d) blk'.vals,blk'.mt⟩)) (k-1) bk abh g
    rwa [show 1+(k-1)=k by omega] at this)
  (fun e id h ne=>by
   have awq:e≠b:=by rintro rfl;rw [qz] at h;cases h;exact ne (.inl rfl)
   rw [ad7 _ _ _ _ (fun j h1 h2 ej=>by
    have hj:=hf j J
    unfold kR at ej
    rw [if_neg J] at ej
    subst ej
    have:=(hinv _ _ h).2
    rw [qX hc hj] at this;cases this)]
   simp [St.bF,awq])
 refine hK _ _ ⟨by rw [put_defers];exact dL,by rw [oq];exact aoI,_,Zr,by rw [jT];exact h1,?_⟩
 refine oR (L:=qE (kR b d) 1 bs ((L.kill c).bF b (some ⟨blk'.sz,cX (kR b d) blk'.vals,blk'.mt⟩))) gi (fun t=>?_) (hv.bJ _ h4)
 rw [ane]
 exact(ada c hr t).mono z7.iJ h2 h3
end
end Go.Lg
namespace Go.Lg
theorem aw.aul {L:St} {b d sz csz:Nat} {m:Bool} {vals aqY:List LV} (aQ:b≠d) (hd:L.heap d=none) (hb:L.heap b=some ⟨sz,vals,m⟩)
  (hv:∀ (Z:Nat->Prop) (μ:Nat->Option Nat) (w:World) (part:List Value),aM Z μ w sz vals part->aM Z μ w sz aqY part) :
  aw L ((L.bF d (some ⟨csz,[],true⟩)).bF b (some ⟨sz,aqY,m⟩)):=by
 rintro n W X Z0 a w ⟨dL,bB,μ,Z,hc,hr⟩
 have jG:∀ id,μ d≠some id:=fun id e=>by rw [qX hc hd] at e;cases e
 refine⟨dL,bB,μ,Z,⟨hc.cd,hc.kf,hc.iJ,hc.jW,hc.inj,hc.own,hc.x0,hc.mw,hc.x1,fun c id blk g1 g2 g3=>?_,fun c id blk g1 g2 g3=>?_,fun c id g1=>?_⟩,hr⟩
 ·simp only [St.bF] at g2
  split at g2
  ·rename_i e;subst e;cases g2;exact hc.il c id _ g1 hb g3
  ·split at g2
   ·rename_i e;subst e;exact absurd g1 (jG id)
   ·exact hc.il c id blk g1 g2 g3
 ·simp only [St.bF] at g2
  split at g2
  ·rename_i e;subst e;cases g2;exact hc.bR c id _ g1 hb g3
  ·split at g2
   ·rename_i e;subst e;exact absurd g1 (jG id)
   ·exact hc.bR c id blk g1 g2 g3
 ·obtain⟨bk,j1,cc,T,part,rest,j2,j3,j4⟩:=hc.heap c id g1
  simp only [St.bF]
  split
  ·rename_i e;subst e
   rw [hb] at j1;cases j1
   exact⟨_,rfl,cc,T,part,rest,j2,j3,hv _ _ _ _ j4⟩
  ·split
   ·rename_i e;subst e;exact absurd g1 (jG id)
   ·exact⟨bk,j1,cc,T,part,rest,j2,j3,j4⟩
theorem avN {p q:LV} {d c sz:Nat} (Z:Nat->Prop) (μ:Nat->Option Nat) (w:World) (part:List Value) (h:aM Z μ w sz [.agg [p,.v (.slice none 0 0),q]] part):aM Z μ w sz [.agg [p,.ref d c 0 0,q]] part:=by
 simp only [aM,ay,b8] at h ⊢
 obtain⟨c1,c2,h1,h2,⟨d1,d2,e1,e2,e3,f1,f2,g1,g2,g3,g4⟩,h3⟩:=h
 exact⟨c1,c2,h1,h2,⟨d1,d2,e1,e2,e3,f1,f2,g1,by simpa [LV.au] using g2,.inl ⟨g3.1,trivial⟩,g4⟩,h3⟩
theorem aw.anG {L:St} {t b sz off len cp:Nat} (h:L.slot t=.iV b sz off len cp):aw L (L.put (some t) (.ref b sz off len)):=by
 rintro n W X Z0 a w ⟨dL,bB,μ,Z,hc,hr⟩
 refine⟨dL,bB,μ,Z,by rw [jT];exact hc,fun s=>?_⟩
 rw [fO]
 split
 ·rename_i cQ
  subst cQ
  have e:=hr s
  rw [h] at e
  have e3:=e.2 rfl
  simp only [ay] at e3
  obtain⟨id,c,T,fz,q1,q2,q3,q4,q5⟩:=e3
  exact⟨by simp [LV.isAgg],fun _=>by simp only [ay];exact .inr ⟨id,cp,c,T,fz,q1,q2,q3,q4,q5⟩⟩
 ·exact hr s
theorem avo {P:Program} {f:FuncId} {blk c1 blk':a8} {sz n:Nat} {args:List LV} {r:LV} {bs:List a8} (hn:0<n) (h:∀ cp,n<=cp->xY P f blk c1 (.iV 1 sz 0 n cp :: args) r blk' bs):xY P f blk c1 (.ref 1 sz 0 n :: args) r blk' bs:=by
 refine⟨(h n (Nat.le_refl _)).1,fun W Z0 vs i0 nr hz h0 px abh hargs=>?_⟩
 obtain⟨v,iN,rfl,hv,apl⟩:=hargs
 have h3:=hv.2 rfl
 simp only [ay] at h3
 rcases h3 with⟨_,e⟩ | ⟨id,cap,c,T,fz,q1,q2,q3,q4,q5⟩
 ·omega
 exact(h cap q3).2 W Z0 (v :: iN) i0 nr hz h0 px abh ⟨v,iN,rfl,⟨by simp [LV.isAgg],fun _=>by simp only [ay];exact⟨id,c,T,fz,q1,q2,q3,q4,q5⟩⟩,apl⟩
theorem an9 {P:Program} {L:St} {t b sz len:Nat} {b0:a8} {l:List (Nat × a8)} {v:List LV} (hs:L.slot t=.ref b sz 0 len) (hl:L.heap=hp l) (h0:hp l 0=some b0) (mO:aG b0.vals=true) (fo:b≠0)
  (zF:∀ c∈l.map (·.1),c≠0->c=b) (h1:hp l b=some ⟨sz,v,true⟩) (hv:aG v=true):ajC P [.tmp t] L (.ref 1 sz 0 len) b0 [⟨sz,v,true⟩]:=by
 have hdm:∀ (l:List (Nat × a8)) (c:Nat),hp l c≠none->c∈l.map (·.1):=fun l=>by
  induction l with
  | nil=>exact fun c h=>absurd rfl h
  | cons p t ih =>
   obtain⟨d,y⟩:=p
   intro c h
   by_cases e:c=d
   ·simp [e]
   ·have:Nat.beq c d=false:=by rw [<-Bool.not_eq_true,Nat.beq_eq];exact e
    simp only [hp,this,cond_false] at h
    simp only [List.map_cons,List.mem_cons]
    exact .inr (ih c h)
 have jc:ph [b] b=1:=by simp [ph,fo]
 refine⟨[.ref b sz 0 len],[b],b0,by rw [hl];exact h0,by rw [mE _ _ mO],.cons hs .nil,fun x hx=>by rw [List.mem_singleton.1 hx];exact⟨by simp,by simp⟩,by simp,by simpa using fun e:0=b=>fo e.symm,fun c hc hh=>?_,fun k c hk=>?_,?_⟩
 ·rw [hl] at hh
  exact List.mem_singleton.2 (zF c (hdm l c hh) hc)
 ·cases k with
  | zero =>
   simp only [List.getElem?_cons_zero,Option.some.injEq] at hk
   subst hk
   exact⟨⟨sz,v,true⟩,by rw [hl];exact h1,by simp only [List.getElem?_cons_zero,mE _ _ hv]⟩
  | succ k=>simp at hk
 ·simp only [cX,LV.bJ,jc];rfl
end Go.Lg
end
section
set_option linter.unusedVariables false
set_option linter.unusedSimpArgs false
set_option maxHeartbeats 4000000
namespace Go.Lg
section
variable {P:Program} {W w:World} {X:XS} {Z0 Z:Nat->Prop} {μ:Nat->Option Nat} {a:Act} {n:Nat} {ops:Array Oper}
def aqs (P:Program) (l:List Oper) (m:Nat) (K:St->Prop) (L:St):Prop:=∃ o L2,l[m]?=some o/\acB P l.toArray o L L2/\K L2
theorem azs {l:List Oper} {id:Nat} {L:St} {Q:iM->St->Prop} (gE:P.follows .mixedOrders=true) (m:Nat) (hm:vi l.toArray m []=true) (hl:l.length=m+1) (h:opsL P true l.toArray (l.take m) L (aqs P l m (Q .normal))):cy P (.region id l.toArray true) Q L:=by
 refine aeY fun n W X Z0 a w hs hd id=>?_
 have gi:∀ o∈l.toArray.toList,∀ t,o.dst=some t->t<n:=fun o ho t ht=>by
  simp only [jN,List.all_eq_true] at hd
  have:=hd o ho
  rw [ht] at this
  simpa using this
 obtain⟨f,f0,fs,o9,L9,k1,k2,k3⟩:=xu _ _ h
 have bE:(l.take m).length=m:=by rw [List.length_take];omega
 rw [bE] at k2
 unfold vi at hm
 simp only [Bool.and_eq_true,decide_eq_true_eq,List.all_eq_true,List.mem_range] at hm
 obtain⟨⟨⟨tw,h1⟩,h2⟩,h3⟩:=hm
 have fN:∀ i o,l.toArray[i]?=some o->l.toArray.getD i default=o:=fun i o h=>by rw [Array.getD_eq_getD_getElem?,h];rfl
 have lY:∀ i o,l.toArray[i]?=some o->i<l.toArray.size:=fun i o h=>(Array.getElem?_eq_some_iff.1 h).1
 have bB:l.toArray.size=m+1:=by simpa using hl
 have ng:=aaE l.toArray l.toArray.toList [] (fun i=>by simp) (fun i t h=>by simp at h)
 let g:Nat->St:=fun i=>if i<=m then f i else L9
 have gl:∀ i,i<=m->g i=f i:=fun i hi=>if_pos hi
 have gm:g (m+1)=L9:=if_neg J
 refine ajG (m:=m) (fr:=[]) (f:=g) (K:=Q .normal) (L:=L) gE hs (by rw [gl 0 (Nat.zero_le _)];exact f0) (fun i o ho hor=>?_) (fun i o ho gG=>?_) (by rw [bB,gm];exact k3) tw (fun i o h j hj=>?_) (fun i o h uL j hj=>?_) (fun i o h gG=>?_) (fun i j oi oj d hi hj gG ku aQ m8=>?_) (fun j o hj hjf=>by simp at hjf) gi (fun L' a' w' hk kC=>⟨L',hk,kC⟩)
 ·have hi:i<m:=hor.resolve_right (fun e=>e rfl)
  rw [gl i J,gl (i+1) J]
  exact fs i o (by rw [List.getElem?_take,if_pos hi];simpa using ho)
 ·have:i=m:=by have:=lY i o ho;omega
  subst this
  have jZ:l[i]?=some o:=by simpa using ho
  rw [k1] at jZ;cases jZ
  rw [gl i (Nat.le_refl _),gm]
  exact fun a w K Q hs hd hK=>k2 n W X Z0 a w K Q hs hd hK
 ·have:=(h1 i (lY i o h)).1 j (by rw [fN i o h];exact hj)
  simpa using this
 ·have:=(h1 i (lY i o h)).2
  rw [if_pos uL] at this
  have:=(List.all_eq_true.1 this) j (by simpa using hj)
  simp only [Bool.or_eq_true,Bool.and_eq_true,beq_iff_eq,List.contains_iff_mem] at this
  rcases this with g9 | g9
  ·exact .inl (ng i j (by simpa using g9))
  ·exact absurd g9.2 aO
 ·have:=(h1 i (lY i o h)).2
  rw [if_neg J] at this
  rw [fN i o h] at this
  simpa using this
 ·have:=h2 i gG j ku
  simp only [Bool.or_eq_true,beq_iff_eq] at this
  rcases this with h | h
  ·exact absurd h aQ
  ·unfold xS at h
   rw [fN j oj hj,fN i oi hi,m8] at h
   simp only [Bool.and_eq_true,bne_iff_ne,ne_eq,Bool.or_eq_true,Bool.not_eq_true'] at h
   refine⟨h.1,fun pR=>?_⟩
   rcases h.2 with h' | h'
   ·rw [List.contains_iff_mem.2 pR] at h';cases h'
   ·split
    ·rename_i bE;rw [if_pos bE] at h';exact ng i j h'
    ·rename_i bE;rw [if_neg bE] at h';exact ng j i h'
theorem ayQ {l:List Oper} {m:Nat} {K:St->Prop} {ops:Array Oper} {o:Oper} {L L2:St} (h1:l[m]?=some o) (h2:acB P l.toArray o L L2) (h3:K L2):opsL P true ops [] L (aqs P l m K):=by
 unfold opsL
 exact⟨o,L2,h1,h2,h3⟩
def an0 (P:Program) (l:List Oper) (m:Nat) (K:St->Prop) (L:St):Prop:=∃ o L2,l[m]?=some o/\acB P l.toArray o L L2/\opsL P true l.toArray (l.drop (m+1)) L2 K
theorem auU {l:List Oper} {id:Nat} {L:St} {Q:iM->St->Prop} (gE:P.follows .mixedOrders=true) (m:Nat) (hm:vi l.toArray m []=true) (hl:m<l.length) (h:opsL P true l.toArray (l.take m) L (an0 P l m (Q .normal))):cy P (.region id l.toArray true) Q L:=by
 refine aeY fun n W X Z0 a w hs hd id=>?_
 have gi:∀ o∈l.toArray.toList,∀ t,o.dst=some t->t<n:=fun o ho t ht=>by
  simp only [jN,List.all_eq_true] at hd
  have:=hd o ho
  rw [ht] at this
  simpa using this
 obtain⟨f,f0,fs,o9,L9,k1,k2,k3⟩:=xu _ _ h
 obtain⟨f2,e0,es,ek⟩:=xu _ _ k3
 have bE:(l.take m).length=m:=by rw [List.length_take];omega
 rw [bE] at k2
 unfold vi at hm
 simp only [Bool.and_eq_true,decide_eq_true_eq,List.all_eq_true,List.mem_range] at hm
 obtain⟨⟨⟨tw,h1⟩,h2⟩,h3⟩:=hm
 have fN:∀ i o,l.toArray[i]?=some o->l.toArray.getD i default=o:=fun i o h=>by rw [Array.getD_eq_getD_getElem?,h];rfl
 have lY:∀ i o,l.toArray[i]?=some o->i<l.toArray.size:=fun i o h=>(Array.getElem?_eq_some_iff.1 h).1
 have bB:l.toArray.size=l.length:=by simp
 have ng:=aaE l.toArray l.toArray.toList [] (fun i=>by simp) (fun i t h=>by simp at h)
 let g:Nat->St:=fun i=>if i<=m then f i else f2 (i-(m+1))
 have gl:∀ i,i<=m->g i=f i:=fun i hi=>if_pos hi
 have gm:∀ i,m<i->g i=f2 (i-(m+1)):=fun i hi=>if_neg J
 refine ajG (m:=m) (fr:=[]) (f:=g) (K:=Q .normal) (L:=L) gE hs (by rw [gl 0 (Nat.zero_le _)];exact f0) (fun i o ho hor=>?_) (fun i o ho gG=>?_) (by rw [bB,gm _ hl,<-List.length_drop];exact ek) tw (fun i o h j hj=>?_) (fun i o h uL j hj=>?_) (fun i o h gG=>?_) (fun i j oi oj d hi hj gG ku aQ m8=>?_) (fun j o hj hjf=>by simp at hjf) gi (fun L' a' w' hk kC=>⟨L',hk,kC⟩)
 ·have hi:i<m:=hor.resolve_right (fun e=>e rfl)
  rw [gl i J,gl (i+1) J]
  exact fs i o (by rw [List.getElem?_take,if_pos hi];simpa using ho)
 ·by_cases hem:i=m
  ·subst hem
   have jZ:l[i]?=some o:=by simpa using ho
   rw [k1] at jZ;cases jZ
   rw [gl i (Nat.le_refl _),gm _ (Nat.lt_succ_self _),Nat.sub_self,e0]
   exact fun a w K Q hs hd hK=>k2 n W X Z0 a w K Q hs hd hK
  ·have cQ:=es (i-(m+1)) o (by rw [List.getElem?_drop,show m+1+(i-(m+1))=i by omega];simpa using ho)
   rw [gm i J,gm (i+1) J,show i+1-(m+1)=i-(m+1)+1 by omega]
   exact fun a w K Q hs hd hK=>aaa hs cQ hd hK
 ·have:=(h1 i (lY i o h)).1 j (by rw [fN i o h];exact hj)
  simpa using this
 ·have:=(h1 i (lY i o h)).2
  rw [if_pos uL] at this
  have:=(List.all_eq_true.1 this) j (by simpa using hj)
  simp only [Bool.or_eq_true,Bool.and_eq_true,beq_iff_eq,List.contains_iff_mem] at this
  rcases this with g9 | g9
  ·exact .inl (ng i j (by simpa using g9))
  ·exact absurd g9.2 aO
 ·have:=(h1 i (lY i o h)).2
  rw [if_neg J] at this
  rw [fN i o h] at this
  simpa using this
 ·have:=h2 i gG j ku
  simp only [Bool.or_eq_true,beq_iff_eq] at this
  rcases this with h | h
  ·exact absurd h aQ
  ·unfold xS at h
   rw [fN j oj hj,fN i oi hi,m8] at h
   simp only [Bool.and_eq_true,bne_iff_ne,ne_eq,Bool.or_eq_true,Bool.not_eq_true'] at h
   refine⟨h.1,fun pR=>?_⟩
   rcases h.2 with h' | h'
   ·rw [List.contains_iff_mem.2 pR] at h';cases h'
   ·split
    ·rename_i bE;rw [if_pos bE] at h';exact ng i j h'
    ·rename_i bE;rw [if_neg bE] at h';exact ng j i h'
theorem aCg {l:List Oper} {m:Nat} {K:St->Prop} {ops:Array Oper} {o:Oper} {L L2:St} (h1:l[m]?=some o) (h2:acB P l.toArray o L L2) (h3:opsL P true l.toArray (l.drop (m+1)) L2 K):opsL P true ops [] L (an0 P l m K):=by
 unfold opsL
 exact⟨o,L2,h1,h2,h3⟩
end
end Go.Lg
end
section
set_option linter.unusedVariables false
set_option linter.unusedSimpArgs false
namespace Go.Proofs.YtckppbhafancnaaGreat
open Go.Lg
section
variable {f:FuncId} {fn:Func} {c:Code} {args:List LV} {r:LV}
theorem fnC {blk c1 blk':a8} {bs:List a8} (hf:Tryz.prog.funcs[f]?=some fn)
  (h:cy Tryz.prog c (fun e L=>match e with | .exit _=>False | _=>ahg Tryz.prog fn.results.toList L r blk' bs) (St.mk (fun t=>args.getD t .any) (hp [(0,blk),(1,c1)])))
  (hb:fn.body=some c:=by exact rfl) (hn:(fn.name== "runtime.NumGoroutine")=false:=by decide +kernel) (hd:jN fn.ntmps c=true:=by decide +kernel) (hlen:args.length<=fn.ntmps:=by exact Nat.le_of_ble_eq_true rfl) (eA:blk.mt=true:=by exact rfl) (ah1:c1.mt=true:=by exact rfl):xY Tryz.prog f blk c1 args r blk' bs:=aAi fol hf hb hn hd hlen eA ah1 h
end
end Go.Proofs.YtckppbhafancnaaGreat
end
section
set_option linter.unusedVariables false
set_option linter.unusedSimpArgs false
set_option maxHeartbeats 8000000
set_option maxRecDepth 100000
attribute [local irreducible] Go.Lg.opsL Go.Lg.cy Go.Lg.mR Go.Lg.oF
namespace Go.Proofs.YtckppbhafancnaaGreat
open Go.Lg
namespace aoB
theorem aH {p q:Prop} (k:q) (e:p=q:=by simp only [e1,e2,e3,e4,p1,p2,p3,q1,q2,q3,l1,t0,t1,r1,r2,r3,r4,Nat.zero_add,Nat.reduceMul,Nat.reduceAdd,b1,b2,b3,b4,b5,b6,i1,i2,i3,i4,i5,i6,Nat.reduceBEq,Nat.sub_zero,Nat.add_zero,hln,hls,hcA,hcB,hcC,hcD,Nat.reduceEqDiff,reduceIte,if_true,if_false,aP ao,cH,LV.kill,bN];exact rfl):p:=e.mpr k
end aoB
open aoB in
theorem aBL (k:List Rat) (i:Nat) (t:Rat) (cp:Nat) (hi:i<k.length) (fG:k.length<=cp) (hl:k.length<=1000):xY Tryz.prog 240 ⟨3,[ae t],true⟩ ⟨3,(k.map ae),true⟩ [.iV 1 3 0 k.length cp,ah i,.ref 0 3 0 1] (.ref 1 3 0 (k.length+1)) ⟨3,[ae t],true⟩ [⟨3,((k.take i++t :: k.drop i).map ae),true⟩]:=by
 have wD:(k.map ae).length=k.length:=List.length_map _
 have hln:i+(k.length+1-i)=k.length+1:=by omega
 have hls:k.length+1-(i+1)=k.length-i:=by omega
 have tv:(List.replicate (k.length+1-i) (ae 0))=ae 0 :: List.replicate (k.length-i) (ae 0):=by rw [show k.length+1-i=(k.length-i)+1 by omega,List.replicate_succ]
 have hti:((k.map ae).take i).length=i:=by rw [List.length_take,wD];omega
 have hcA:((k.map ae).take i++(List.replicate (k.length+1-i) (ae 0))).take i++[ae t]++((k.map ae).take i++(List.replicate (k.length+1-i) (ae 0))).drop (i+[ae t].length)=((k.map ae).take i++ae t :: List.replicate (k.length-i) (ae 0)):=by
  rw [tv,List.take_left' hti,<-List.drop_drop,List.drop_left' hti]
  simp
 have kT:((k.map ae).drop i).length=k.length-i:=by rw [List.length_drop,wD]
 have hcB:((k.map ae).take i++ae t :: List.replicate (k.length-i) (ae 0)).take (i+1)++((k.map ae).drop i)++((k.map ae).take i++ae t :: List.replicate (k.length-i) (ae 0)).drop (i+1+((k.map ae).drop i).length)=((k.take i++t :: k.drop i).map ae):=by
  have e1x:((k.map ae).take i++ae t :: List.replicate (k.length-i) (ae 0))=((k.map ae).take i++[ae t])++List.replicate (k.length-i) (ae 0):=by simp
  have h1:((k.map ae).take i++[ae t]).length=i+1:=by simp [hti]
  rw [e1x,List.take_left' h1,<-List.drop_drop,List.drop_left' h1,kT,List.drop_of_length_le (l:=List.replicate (k.length-i) (ae 0)) aO]
  simp
 have hdE:(k.map ae).drop (i+1+((k.map ae).drop i).length)=[]:=List.drop_of_length_le (by rw [kT,wD];omega)
 have hcC:(k.map ae).take (i+1)++((k.map ae).drop i)++(k.map ae).drop (i+1+((k.map ae).drop i).length)=(k.map ae).take (i+1)++((k.map ae).drop i):=by rw [hdE,List.append_nil]
 have hcD:((k.map ae).take (i+1)++((k.map ae).drop i)).take i++[ae t]++((k.map ae).take (i+1)++((k.map ae).drop i)).drop (i+[ae t].length)=((k.take i++t :: k.drop i).map ae):=by
  have h1:((k.map ae).take (i+1)).length=i+1:=by rw [List.length_take,wD];omega
  rw [List.take_append_of_le_length J,List.take_take,Nat.min_eq_left J]
  rw [show i+[ae t].length=i+1 from rfl,List.drop_left' h1]
  simp
 have oQ:aG ((k.take i++t :: k.drop i).map ae)=true:=aW ao _
 refine fnC Tryz.func240 ?_
 refine bq ?_
 refine ak rfl (.aax (a:=i) (h:=k.length) rfl Tryz.underlying25 cK (fun y hy=>by cases hy;exact⟨_,rfl⟩) (fun h=>by cases h) (fun y hy=>by cases hy) (fun _=>rfl) J J J) ?_
 refine mA ?_
 refine eF (b:=_) rfl (rfl) ?_
 refine im ?_
 refine eF (b:=_) rfl (beq_eq_false_iff_ne.2 J) ?_
 refine aR ?_
 refine ak rfl (.bin rfl rfl (ue (a:=k.length) (b:=1) J)) ?_
 refine ar ?_
 refine ak rfl (.adm rfl rfl UN.h) ?_
 refine aJ ?_
 refine aC rfl ?_ ?_<;>intro aju h31
 ·refine ax ?_
  refine ak rfl (.aax (a:=0) (h:=i) rfl Tryz.underlying25 cK (fun y hy=>by cases hy) (fun _=>rfl) (fun y hy=>by cases hy;exact⟨_,rfl⟩) (fun h=>by cases h) J J J) ?_
  refine aL ?_
  refine ak rfl (.bin rfl rfl (ue (a:=k.length) (b:=1) J)) ?_
  refine ar ?_
  refine ak rfl (.bin rfl rfl (wS (a:=k.length+1) (b:=i) (c:=k.length+1-i) J J)) ?_
  refine aoD rfl rfl (.abO (d:=40) (n:=k.length+1-i) (len:=i) (cp:=cp) (b:=1) (sz:=3) (z:=ae 0) (blk:=⟨3,(k.map ae),true⟩) Tryz.underlying25 Tryz.underlying3 (nP ▸ ko) (by rw [ao.isAgg];exact cK) (ao.au 0) kA rfl rfl rfl (by rw [wD];omega) rfl rfl J ai J J) ?_
  refine aR ?_
  try refine aH ?_
  refine ak rfl ahc ?_
  refine ar ?_
  try refine aH ?_
  refine bI rfl (.abC (b:=40) (sz:=3) (off:=i) (n1:=k.length+1-i) (c:=0) (off2:=0) (n2:=1) (news:=[ae t]) rfl rfl rfl rfl (by rw [List.length_append,hti];omega) Tryz.underlying25 Tryz.underlying25 cK rfl rfl rfl (by show 1=min _ _;rw [Nat.min_eq_left J]) (Nat.zero_lt_one) (Nat.le_refl 1) rfl) ?_
  refine aJ ?_
  refine aAm 8 an (aw.anG (t:=0) rfl) ?_
  try refine aH ?_
  refine aJ ?_
  refine ak rfl (.bin rfl rfl (ue (a:=i) (b:=1) J)) ?_
  refine ak rfl ajR ?_
  refine aL ?_
  refine ak rfl (.tL (a:=i) (h:=k.length) rfl Tryz.underlying25 cK (fun y hy=>by cases hy;exact⟨_,rfl⟩) (fun h=>by cases h) (fun y hy=>by cases hy) (fun _=>rfl) om om om) ?_
  try refine aH ?_
  refine bI rfl (.abC (b:=40) (sz:=3) (off:=i+1) (n1:=k.length-i) (c:=1) (off2:=i) (n2:=k.length-i) (news:=((k.map ae).drop i)) rfl rfl rfl rfl (by rw [List.length_append,hti,List.length_cons,List.length_replicate];omega) Tryz.underlying25 Tryz.underlying25 cK rfl rfl rfl (by show _=min _ _;rw [kT,Nat.min_self]) (by rw [kT];omega) (by rw [kT,wD];omega) (List.take_length).symm) ?_
  refine bC ?_
  refine⟨_,aw.kill _ 1,?_⟩
  try refine aH ?_
  exact an9 rfl rfl rfl (by simp [aG,ao.pure]) ai aO rfl oQ
 ·refine aR ?_
  refine ak rfl (.bin rfl rfl (ue (a:=k.length) (b:=1) J)) ?_
  refine ak rfl (.aax (a:=0) (h:=k.length+1) rfl Tryz.underlying25 cK (fun y hy=>by cases hy) (fun _=>rfl) (fun y hy=>by cases hy;exact⟨_,rfl⟩) (fun h=>by cases h) J J J) ?_
  refine a6 ?_
  refine cq (aw.anG (t:=0) rfl) ?_
  try refine aH ?_
  refine ax ?_
  refine ak rfl (.bin rfl rfl (ue (a:=i) (b:=1) J)) ?_
  refine ak rfl ajR ?_
  try refine aH ?_
  refine aoD rfl rfl (.ovl (ag:=true) Tryz.func278 rfl rfl rfl rfl Tryz.underlying25 cK rfl rfl ai ai J ai) ?_
  refine aJ ?_
  refine bY (b:=_) rfl (rfl) ?_
  refine ar ?_
  refine aY 8 an ?_
  refine aJ ?_
  refine ak rfl (.bin rfl rfl (ue (a:=i) (b:=1) J)) ?_
  refine ak rfl ajR ?_
  refine aL ?_
  refine ak rfl ahc ?_
  try refine aH ?_
  refine bI rfl (.abC (b:=1) (sz:=3) (off:=i+1) (n1:=k.length-i) (c:=1) (off2:=i) (n2:=k.length+1-i) (news:=((k.map ae).drop i)) rfl rfl rfl rfl (by rw [wD];omega) Tryz.underlying25 Tryz.underlying25 cK rfl rfl rfl (by show _=min _ _;rw [kT,Nat.min_eq_right J]) (by rw [kT];omega) (by rw [kT,wD];omega) (List.take_length).symm) ?_
  refine aA ?_
  refine ak rfl ahc ?_
  refine ar ?_
  try refine aH ?_
  refine bI rfl (.abC (b:=1) (sz:=3) (off:=i) (n1:=k.length+1-i) (c:=0) (off2:=0) (n2:=1) (news:=[ae t]) rfl rfl rfl rfl (by rw [List.length_append,List.length_take,wD,kT];omega) Tryz.underlying25 Tryz.underlying25 cK rfl rfl rfl (by show 1=min _ _;rw [Nat.min_eq_left J]) (Nat.zero_lt_one) (Nat.le_refl 1) rfl) ?_
  refine bC ?_
  refine⟨_,aw.refl _,?_⟩
  try refine aH ?_
  exact an9 rfl rfl rfl (by simp [aG,ao.pure]) ai aO rfl oQ
theorem auB (k:List Rat) (i:Nat) (t:Rat) (hi:i<k.length) (hl:k.length<=1000) :
  xY Tryz.prog 240 ⟨3,[ae t],true⟩ ⟨3,(k.map ae),true⟩ [.ref 1 3 0 k.length,ah i,.ref 0 3 0 1] (.ref 1 3 0 (k.length+1)) ⟨3,[ae t],true⟩ [⟨3,((k.take i++t :: k.drop i).map ae),true⟩] :=
 avo J fun cp h=>aBL k i t cp hi h hl
theorem fy0 (bs:List Nat):uM bs []=[]:=rfl
theorem fyc (bs:List Nat) (c:Nat) (y:a8) (l:List (Nat × a8)):uM bs ((c,y) :: l)=(c,⟨y.sz,y.vals,y.mt && !bs.contains c⟩) :: uM bs l:=rfl
theorem aCz {l:List (Nat × a8)} {c:Nat} (h:∀ x∈l.map (·.1),x≠c):hp l c=none:=by
 induction l with
 | nil=>rfl
 | cons q t ih =>
  obtain⟨d,y⟩:=q
  have e:Nat.beq c d=false:=by
   rw [<-Bool.not_eq_true,Nat.beq_eq]
   exact fun e=>h d aO e.symm
  simp only [hp,e,cond_false]
  exact ih fun x hx=>h x (by simp only [List.map_cons,List.mem_cons];exact .inr hx)
theorem aA8 {P:Program} {L:St} {a:Nat} {T:TypeId} {b sz t:Nat} {x y x' y':LV} {m:Bool} {n:Nat} {ag:Bool} {blk:a8} (h:L.slot a=.az b sz 0 0) (hb:L.heap b=some ⟨sz,[x],m⟩)
  (hx:x.au=sz) (bV:x.at 0 n ag=some x) (hT:bo P T n ag) (hi:tI L.heap 0 x y) (h':L.slot t=x') (lT:tI L.heap 0 x' y') (fo:L.heap 0=some blk) (hm:blk.mt=true) (hp:aG blk.vals=true):vf P [.cell a T,.tmp t] L (.a7 [y,y']) blk :=
 ⟨[x,x'],[y,y'],L.heap,.cons ⟨b,sz,0,0,_,x,n,ag,h,hb,rfl,rfl,hx,bV,hT⟩ (.cons h' .nil),bK.le_refl _,.cons hi (.cons lT .nil),fo,hm,hp,rfl⟩
def zn (f:Rat) (v:List Rat) (j:Nat):List Rat:=(List.range v.length).map fun i=>if j<i then v.getD (i-1) 0+f*(v.getD i 0-v.getD (i-1) 0) else v.getD i 0
theorem afd (f:Rat) (v:List Rat) (j:Nat):(zn f v j).length=v.length:=by simp [zn]
theorem agM (f:Rat) (v:List Rat) (j i:Nat) (h:i<v.length):(zn f v j).getD i 0=if j<i then v.getD (i-1) 0+f*(v.getD i 0-v.getD (i-1) 0) else v.getD i 0:=by
 unfold zn
 rw [List.getD_eq_getElem?_getD,List.getElem?_map,List.getElem?_range h]
 rfl
theorem ab0 {p q:List Rat} (h:p.length=q.length) (hg:∀ i,i<p.length->p.getD i 0=q.getD i 0):p=q:=by
 refine List.ext_getElem h fun i h1 h2=>?_
 have:=hg i h1
 rwa [List.getD_eq_getElem?_getD,List.getD_eq_getElem?_getD,List.getElem?_eq_getElem h1,List.getElem?_eq_getElem h2] at this
def uf (F:Rat->Rat) (args v:List Rat):Nat->List Rat
 | 0=>v
 | r+1=>zn (F (args.getD r 0)) (uf F args v r) r
theorem ab5 (F:Rat->Rat) (args v:List Rat):∀ r,(uf F args v r).length=v.length
 | 0=>rfl
 | r+1=>by rw [uf,afd,ab5 F args v r]
def v7 (Q R:Nat):Nat->Nat
 | 0=>R
 | r+1=>3*v7 Q R r+Q+2
theorem are {Q R:Nat} (hR:1<=R):∀ r,1<=v7 Q R r
 | 0=>hR
 | r+1=>by have:=are (Q:=Q) hR r;unfold v7;omega
theorem amo {Q R:Nat} (hR:1<=R):∀ {r s},r<=s->v7 Q R r<=v7 Q R s
 | r,0,h=>by
         obtain rfl:r=0:=by omega
         exact Nat.le_refl _
 | r,s+1,h=>by
  rcases Nat.lt_or_ge s r with g | g
  ·obtain rfl:r=s+1:=by omega
   exact Nat.le_refl _
  ·have:=amo (Q:=Q) hR (r:=r) (s:=s) g
   show _<=3*v7 Q R s+Q+2
   omega
def vP (d:Nat) (a b:Rat) (v args:List Rat):Rat:=(uf (fun t=>(t-a)/(b-a)) args v d).getD d 0
theorem aAP (v:List Rat) (j i:Nat) (h:i<v.length) (hj:j<i):(zn 0 v j).getD i 0=v.getD (i-1) 0:=by
 rw [agM _ _ _ _ h,if_pos hj];grind
theorem aBM (v:List Rat) (j:Nat):zn 1 v j=v:=ab0 (afd _ _ _) fun i hi=>by
 rw [afd] at hi
 rw [agM _ _ _ _ hi];split<;>grind
theorem an4 {a b:Rat} {args v:List Rat} (n:Nat) (hA:∀ r,r<n->args.getD r 0=a):∀ r,r<=n->∀ i,i<v.length->r<=i->(uf (fun t=>(t-a)/(b-a)) args v r).getD i 0=v.getD (i-r) 0
 | 0,_,i,_,_=>rfl
 | r+1,h,i,hi,hr=>by
  have ih:=an4 (b:=b) (v:=v) n hA r J (i-1) J J
  rw [uf,hA r J,show (a-a)/(b-a)=0 by rw [Rat.sub_self,Rat.div_def,Rat.zero_mul],aAP _ _ _ (by rw [ab5];exact hi) J,ih]
  congr 1;omega
theorem aqU {a b:Rat} (cu:a≠b) {args v:List Rat} (n:Nat) (hB:∀ r,n<=r->r<args.length->args.getD r 0=b):∀ k,n+k<=args.length->uf (fun t=>(t-a)/(b-a)) args v (n+k)=uf (fun t=>(t-a)/(b-a)) args v n
 | 0,_=>rfl
 | k+1,h=>by
  have ih:=aqU cu (v:=v) n hB k J
  rw [<-Nat.add_assoc,uf,hB (n+k) J J,show (b-a)/(b-a)=1 by rw [Rat.div_def];exact Rat.mul_inv_cancel _ cA,aBM,ih]
theorem aqj {d j:Nat} {a b:Rat} (hj:j<=d):((bl d a b).drop (j+1)).take d=List.replicate (d-j) a++List.replicate j b:=by
 have hl:(((bl d a b).drop (j+1)).take d).length=d:=by rw [List.length_take,List.length_drop,jV];omega
 refine ab0 (by rw [hl,List.length_append,List.length_replicate,List.length_replicate];omega) fun i hi=>?_
 rw [hl] at hi
 rw [List.getD_eq_getElem?_getD,List.getElem?_take_of_lt hi,List.getElem?_drop,<-List.getD_eq_getElem?_getD,fR _ _ _ _ J]
 by_cases g:i<d-j
 ·rw [if_pos J,vk (by simpa using g),r7 g]
 ·rw [if_neg J,vc bm,List.length_replicate,r7 J]
theorem avP {d j:Nat} {a b:Rat} (cu:a<b) {v:List Rat} (hv:v.length=d+1) (hj:j<=d):vP d a b v (((bl d a b).drop (j+1)).take d)=v.getD j 0:=by
 rw [aqj hj,vP]
 have uO:(List.replicate (d-j) a++List.replicate j b).length=d:=by simp;omega
 have h1:=aqU (a:=a) (b:=b) cA (args:=List.replicate (d-j) a++List.replicate j b) (v:=v) (d-j) (fun r g1 g2=>by rw [uO] at g2;rw [vc (by simpa using g1),List.length_replicate,r7 J]) j (by rw [uO];omega)
 rw [show d-j+j=d by omega] at h1
 rw [h1,an4 (d-j) (fun r g=>by rw [vk (by simpa using g),r7 g]) (d-j) (Nat.le_refl _) d J J]
 congr 1;omega
open aiL in
theorem avr (p:List Rat) (hl:p.length<=1048576) (ma:∀ x∈p,rl x<=274877906944):mP Tryz.prog 157 [.list 3 (p.map ae)] (.ref 1 3 0 p.length) [⟨3,p.map ae,true⟩]:=by
 refine fnO Tryz.func157 ?_
 have gv:True:=trivial
 have fD:True:=trivial
 refine bq ?_
 refine eH rfl rfl (.kM (n:=0) (m:=p.length) ml ml om om om) ?_
 refine bu ?_
 refine dJ (fun(k:Nat) L=>(((((St.mk L.slot (hp [(8,⟨3,(p.take k).map ae,true⟩)])).put (some 3) (.ref 8 3 0 k)).put (some 9) (.list 3 (p.map ae))).put (some 10) (ah p.length)).put (some 11) (ah k))) (fun k=>k<=p.length) (fun k=>p.length-k) 0 (Nat.zero_le _) ?_
 rintro k L1 hk
 refine aA ?_
 refine aC rfl ?_ ?_<;>intro aav h12
 ·have kL:k<p.length:=by omega
  have hrk:=ma _ (dg kL)
  have hA:=iw (p.getD k 0) 0 (by rw [show rl 0=1 from rfl];omega)
  rw [Rat.add_zero] at hA
  have gv:=aal (l:=p) kL
  have fD:((p.take k).map ae).take k=(p.take k).map ae:=List.take_of_length_le wj
  refine gz ?_
  refine ak rfl ob ?_
  refine cp aq (hA) ?_
  refine ar ?_
  refine bI rfl apk ?_
  refine ax ?_
  refine cq ((aw.kill _ 5).trans (aw.kill _ 19)) ?_
  refine ak rfl cB ?_
  refine aJ ?_
  exact iG (k+1) J
 ·obtain rfl:k=p.length:=by omega
  have hE:p.take p.length=p:=List.take_length
  refine bu ?_
  rw [hE]
  exact ab2 rfl rfl (aW ao _)
theorem aCQ (p:List Rat) (hl:p.length<=1048576) (ma:∀ x∈p,rl x<=274877906944):av Tryz.prog 157 [.list 3 (p.map ae)] (.list 3 (p.map ae)):=ajr (avr p hl ma) (aW ao _) aO
open fP in
theorem aAI (a b t:Rat) (h:rl a+rl b+rl t<=100000) (cu:a<b):av Tryz.prog 289 [ae a,ae b,ae t] (ae ((t-a)/(b-a))):=by
 have h1:=iq t a
 have h2:=iq b a
 have hQ:av Tryz.prog 169 [ae (t-a),ae (b-a)] (.a7 [ae ((t-a)/(b-a)),iL 0]):=by
  have:=tT (t-a) (b-a) J
  rwa [if_neg cA] at this
 refine aN Tryz.func289 ?_
 refine bq ?_
 refine fY 11 [9] an ?_
 refine aL ?_
 refine cp aq (py t a J) ?_
 refine aL ?_
 refine cp aq (py b a J) ?_
 refine cp aq (hQ) ?_
 refine gz ?_
 exact fk
namespace aqr
theorem aH {p q:Prop} (k:q) (e:p=q:=by simp only [e1,e2,e3,e4,p1,p2,p3,q1,q2,q3,l1,t0,t1,r1,r2,r3,r4,Nat.zero_add,Nat.reduceMul,Nat.reduceAdd,b1,b2,b3,b4,b5,b6,i1,i2,i3,i4,i5,i6,Nat.reduceBEq,fU,bX,gf,rp,abP,List.length_map,cx,List.set_cons_zero,List.set_cons_succ,Nat.reduceEqDiff,reduceIte,if_true,if_false,dW,ec,aP bg,aP bw,aP ao,cH,dO,LV.kill,bN];exact rfl):p:=e.mpr k
end aqr
open aqr in
theorem awW (d:Nat) (a b t:Rat) (hd:d<=6) (hT:rl a<=100) (hT1:rl b<=100) (ht:rl t<=1000) (h1:a<=t) (h2:t<b):av Tryz.prog 242 [.list 3 ((bl d a b).map ae),ah d,ae t] (.a7 [ah d,iL 0]):=by
 have fU:=jV d a b
 have bX:=xi d a b
 have gf:=aar d a b
 have c1:¬fh t a<0:=fun e=>by have:=sM.2 h1;omega
 have c2:¬fh t b > 0:=fun e=>by have:=rf.1 e;grind
 have rp:((2*(d+1):Nat):Int).toNat-1=2*(d+1)-1:=by omega
 have abP:(((2*(d+1):Nat):Int)-1).toNat=2*(d+1)-1:=by omega
 have c3:fh t b<0:=abU.2 h2
 refine aN Tryz.func242 (ht:=(jg rfl rfl)) ?_
 refine bq ?_
 refine aY 22 an ?_
 refine ax ?_
 refine ak (aZ (v:=false) rfl rfl ((beq_eq_false_iff_ne.2 J)) rfl) ij ?_
 refine ak (aZ (v:=false) rfl rfl ((beq_eq_false_iff_ne.2 J)) rfl) (.move _) ?_
 refine ak (aZ (v:=false) rfl rfl ((beq_eq_false_iff_ne.2 J)) rfl) ui ?_
 refine ak (aZ (v:=false) rfl rfl ((beq_eq_false_iff_ne.2 J)) rfl) ij ?_
 try simp only [t1,cx,bX]
 refine gI (aZ (v:=false) rfl rfl ((beq_eq_false_iff_ne.2 J)) rfl) (.cons eI (.cons eI .nil)) (lW t a J) ?_
 refine ak (aZ (v:=false) rfl rfl ((beq_eq_false_iff_ne.2 J)) rfl) (.bin rfl rfl rfl) ?_
 refine ak rfl (.oX rfl ((beq_eq_false_iff_ne.2 J))) ?_
 refine ar ?_
 refine ak (aZ (v:=false) rfl rfl ((decide_eq_false c1)) rfl) ij ?_
 refine ak (aZ (v:=false) rfl rfl ((decide_eq_false c1)) rfl) (.move _) ?_
 refine ak (aZ (v:=false) rfl rfl ((decide_eq_false c1)) rfl) (.move _) ?_
 refine ak (aZ (v:=false) rfl rfl ((decide_eq_false c1)) rfl) uF ?_
 refine ak (aZ (v:=false) rfl rfl ((decide_eq_false c1)) rfl) (.bin rfl rfl (ado J J)) ?_
 refine ak (aZ (v:=false) rfl rfl ((decide_eq_false c1)) rfl) ui ?_
 refine ak (aZ (v:=false) rfl rfl ((decide_eq_false c1)) rfl) ij ?_
 try simp only [t1,cx,fU,gf,abP]
 refine gI (aZ (v:=false) rfl rfl ((decide_eq_false c1)) rfl) (.cons eI (.cons eI .nil)) (lW t b J) ?_
 refine ak (aZ (v:=false) rfl rfl ((decide_eq_false c1)) rfl) (.bin rfl rfl rfl) ?_
 refine ak rfl (.oX rfl ((decide_eq_false c1))) ?_
 refine aL ?_
 refine eF (b:=_) rfl (decide_eq_false c2) ?_
 refine dk ?_
 refine dJ (fun(i:Nat) L=>(((((St.mk L.slot (hp [(5,⟨3,[ae t],true⟩)])).put (some 0) (.list 3 ((bl d a b).map ae))).put (some 5) (.az 5 3 0 0)).put (some 8) (ah 0)).put (some 9) (ah i))) (fun i=>i<=d) (fun i=>d-i) 0 (Nat.zero_le _) ?_
 rintro i L1 hi
 have hA:i<d->¬fh ((bl d a b).getD i 0) ((bl d a b).getD (i+1) 0)<0:=fun g=>by
  rw [fR _ _ _ _ J,fR _ _ _ _ J,if_pos J,if_pos J]
  exact fun e=>by have:=sM.2 (show a<=a by grind);omega
 have hB:i=d->fh ((bl d a b).getD i 0) ((bl d a b).getD (i+1) 0)<0:=fun g=>by
  rw [fR _ _ _ _ J,fR _ _ _ _ J,if_pos J,if_neg J]
  exact abU.2 cA
 have qk:=aaG (d:=d) hT hT1
 have g8:=qk _ (dg (p:=bl d a b) (i:=i) J)
 have nH:=qk _ (dg (p:=bl d a b) (i:=i+1) J)
 refine ax ?_
 refine ak rfl cB ?_
 refine a6 ?_
 refine bY (b:=_) rfl (decide_eq_true (by first | omega | (simp only [List.length_map,fU];omega))) ?_
 refine aA ?_
 refine aY 11 an ?_
 refine aA ?_
 refine ak rfl cB ?_
 refine aL ?_
 try simp only [t1,cx]
 refine cp aq (lW ((bl d a b).getD i 0) ((bl d a b).getD (i+1) 0) J) ?_
 refine aJ ?_
 refine aC rfl ?_ ?_<;>intro yO zy
 ·have dB:i<d:=by
   rcases Nat.lt_or_ge i d with g | g
   ·exact g
   ·have:=hB J
    omega
  refine aA ?_
  refine ak rfl cB ?_
  refine aJ ?_
  exact jX
 ·obtain rfl:i=d:=by
   rcases Nat.lt_or_ge i d with g | g
   ·have:=hA g
    omega
   ·omega
  have awp:(bl i a b).getD (i+1) 0=b:=by rw [fR _ _ _ _ J,if_neg J]
  refine bq ?_
  refine aY 8 an ?_
  refine aJ ?_
  refine ak rfl cB ?_
  refine aL ?_
  try simp only [t1,cx,awp]
  refine cp aq (lW t b J) ?_
  refine aJ ?_
  refine aC rfl ?_ ?_<;>intro am4 h58
  ·refine dk ?_
   exact vd
  ·omega
structure Q4 where
 x:Rat
 y:Rat
 z:Rat
 w:Rat
instance:Inhabited Q4:=⟨⟨0,0,0,0⟩⟩
def cY (q:Q4):LV:=.agg [ae q.x,ae q.y,ae q.z,ae q.w]
theorem ju:gL cY 12 true:=⟨fun q=>by simp [cY,LV.au,cF,ao.au],fun _=>rfl,fun q=>by simp [cY,LV.pure,aG,ao.pure]⟩
theorem abD (b:Nat) (q:Q4):(cY q).kill b=cY q:=LV.ki b _ (ju.pure q)
def nR (R:Nat) (q:Q4):Prop:=rl q.x<=R/\rl q.y<=R/\rl q.z<=R/\rl q.w<=R
def pol (d:Nat) (a b:Rat) (C:List Q4) (args:List Rat):Q4:=⟨vP d a b (C.map (·.x)) args,vP d a b (C.map (·.y)) args,vP d a b (C.map (·.z)) args,vP d a b (C.map (·.w)) args⟩
theorem ay7 {C:List Q4} {i:Nat} (h:i<C.length):C.getD i default∈C:=by
 rw [List.getD_eq_getElem?_getD,List.getElem?_eq_getElem h];exact List.getElem_mem h
theorem afh {C:List Q4} {i:Nat} (h:i<C.length) (f:Q4->Rat):(C.map f).getD i 0=f (C.getD i default):=by
 rw [List.getD_eq_getElem?_getD,List.getElem?_map,List.getD_eq_getElem?_getD,List.getElem?_eq_getElem h];rfl
theorem afa {A B:List Rat} {i:Nat} (hl:A.length=B.length) (h:i<A.length):(A.take i++B.drop i).set i (A.getD i 0)=A.take (i+1)++B.drop (i+1):=by
 rw [List.set_append_right _ _ (by rw [List.length_take];omega),List.length_take,Nat.min_eq_left J,Nat.sub_self,<-aal h,List.append_assoc]
 congr 1
 rw [List.drop_eq_getElem_cons (by omega:i<B.length),List.set_cons_zero];rfl
theorem ae1 {A B:List Rat} {i:Nat} (hl:A.length=B.length) (h:i<=A.length):(A.take i++B.drop i).length=A.length:=by
 rw [List.length_append,List.length_take,List.length_drop];omega
theorem ae4 {A B:List Rat} {i:Nat} (hl:A.length=B.length) (h:A.length<=i):A.take i++B.drop i=A:=by
 rw [List.take_of_length_le h,List.drop_of_length_le J,List.append_nil]
theorem aeM {P:Program} {dst:Option Tmp} {ty:TypeId} {pos:String} {af:Array Edge} {g:Option (Nat × Bool)} {rest:List Oper} {L:St} {K:St->Prop} {f:FuncId} {xs:Array Operand} {ri:Array TypeId} {args:List LV} {r:LV} {ops:Array Oper} (b:Nat) {blk blk':a8} (hg:dC ops L ⟨dst,.call ⟨.value (.func f),xs,ri⟩,ty,pos,af,g⟩ true)
  (hb:L.heap b=some blk) (hm:blk.mt=true) (hp:aG blk.vals=true) (ha:tW L.heap b (xs.toList.map L.ev) args) (hn:Names b (xs.toList.map L.ev)) (hk:lE P f blk args r blk')
  (nu:blk'.mt=true) (jx:aG blk'.vals=true) (hr:∀ g,r.bJ g=r) (k:opsL P false ops rest ((L.bF b (some blk')).put dst r) K) :
  opsL P false ops (⟨dst,.call ⟨.value (.func f),xs,ri⟩,ty,pos,af,g⟩ :: rest) L K :=
 uA b hg hb hm hp ha hn hk nu jx (by rw [hr];exact k)
instance:EC Tryz.prog 159 cY 12 true ⟨0,0,0,0⟩:=⟨ju,aea,yN⟩
namespace amO
theorem aH {p q:Prop} (k:q) (e:p=q:=by simp only [e1,e2,e3,e4,p1,p2,p3,q1,q2,q3,l1,t0,t1,r1,r2,r3,r4,Nat.zero_add,Nat.reduceMul,Nat.reduceAdd,b1,b2,b3,b4,b5,b6,i1,i2,i3,i4,i5,i6,Nat.reduceBEq,cx,List.set_cons_zero,List.set_cons_succ,Nat.reduceEqDiff,reduceIte,if_true,if_false,dW,ec,aP bg,aP bw,aP ao,cH,dO,LV.kill,bN,List.length_map];exact rfl):p:=e.mpr k
end amO
open amO in
theorem agd (f:Nat) (cap:List LV) (fG:aG cap=true) (hcs:∀ x∈cap,x.au=1/\x.isAgg=false) (pr:Rat->Bool) (l:List Rat) (hl:l.length<=1048576) (hf:∀ x∈l,av Tryz.prog f ([ae x]++cap) (bL (pr x))):av Tryz.prog 161 [.list 3 (l.map ae),.cV f cap] (iL (aaP pr l)):=by
 refine aN Tryz.func161 ?_
 refine dk ?_
 refine dJ (fun(i:Nat) L=>((((((St.mk L.slot (hp [])).put (some 0) (.list 3 (l.map ae))).put (some 1) (.cV f cap)).put (some 6) (.list 3 (l.map ae))).put (some 7) (ah l.length)).put (some 8) (ah i))) (fun i=>i<=l.length/\∀ j,j<i->pr (l.getD j default)=false) (fun i=>l.length-i) 0 ⟨Nat.zero_le _,fun j hj=>absurd hj (Nat.not_lt_zero j)⟩ ?_
 rintro i L1 ⟨hi,h0⟩
 refine aA ?_
 refine aC rfl ?_ ?_<;>intro tf h9
 ·have dB:i<l.length:=by omega
  have hc:=hf _ (dg dB)
  refine im ?_
  refine mK [] rfl rfl (.cV (f:=f) (cap:=cap) (args:=[ae (l.getD i 0)]) rfl (.cons eI .nil) ⟨fG,hcs⟩ hc.1 ai (fun _ h=>by cases h)) (hc.2 _) ?_
  refine aL ?_
  refine aC rfl ?_ ?_<;>intro yn vo
  ·have hV:aaP pr l=(i:Int):=abR dB h0 (by first | exact yn | exact vo)
   refine bu ?_
   rw [hV]
   exact mF
  ·have hn:∀ j,j<i+1->pr (l.getD j default)=false:=fun j hj=>by
    rcases Nat.lt_succ_iff_lt_or_eq.1 hj with e | rfl
    ·exact h0 j e
    ·first | exact yn | (simpa using vo)
   refine ax ?_
   refine ak rfl cB ?_
   refine aJ ?_
   exact iG (i+1) ⟨J,hn⟩
 ·obtain rfl:i=l.length:=by omega
  refine bp ?_
  rw [asx h0]
  exact mF
open fP in
theorem aoM (a x:Rat) (h:rl a+rl x<=100000):av Tryz.prog 162 [ae x,.bW (ae a)] (bL (decide (fh x a > 0))):=by
 refine aN Tryz.func162 ?_
 refine bC ?_
 refine cp aq (lW x a J) ?_
 refine a6 ?_
 exact mF
open fP in
theorem aqC (a x:Rat) (h:rl a+rl x<=100000):av Tryz.prog 163 [ae x,.bW (ae a)] (bL (decide (fh x a>=0))):=by
 refine aN Tryz.func163 ?_
 refine bC ?_
 refine cp aq (lW x a J) ?_
 refine a6 ?_
 exact mF
def nK (f:Nat->Rat) (v:List Rat) (j:Nat):List Rat:=(List.range v.length).map fun i=>if j<i then v.getD (i-1) 0+f i*(v.getD i 0-v.getD (i-1) 0) else v.getD i 0
theorem r9 (f:Nat->Rat) (v:List Rat) (j:Nat):(nK f v j).length=v.length:=by simp [nK]
theorem vj (f:Nat->Rat) (v:List Rat) (j i:Nat) (h:i<v.length):(nK f v j).getD i 0=if j<i then v.getD (i-1) 0+f i*(v.getD i 0-v.getD (i-1) 0) else v.getD i 0:=by
 unfold nK
 rw [List.getD_eq_getElem?_getD,List.getElem?_map,List.getElem?_range h]
 rfl
theorem au5 (f:Nat->Rat) (v:List Rat) (j:Nat) (h:v.length<=j+1):nK f v j=v :=
 ab0 (r9 f v j) fun i hi=>by
  rw [r9] at hi
  rw [vj f v j i hi,if_neg J]
theorem aBy (f:Nat->Rat) (v:List Rat) (j:Nat) (h0:0<j) (h:j<v.length):(nK f v j).set j (v.getD (j-1) 0+f j*(v.getD j 0-v.getD (j-1) 0))=nK f v (j-1) :=
 ab0 (by rw [List.length_set,r9,r9]) fun i hi=>by
  rw [List.length_set,r9] at hi
  rw [vj f v (j-1) i hi,List.getD_eq_getElem?_getD,List.getElem?_set]
  by_cases e:j=i
  ·subst e
   rw [if_pos rfl,if_pos (by rw [r9];exact h),if_pos J];rfl
  ·rw [if_neg e,<-List.getD_eq_getElem?_getD,vj f v j i hi]
   by_cases g:j<i
   ·rw [if_pos g,if_pos J]
   ·rw [if_neg g,if_neg J]
def cr (F:Nat->Nat->Rat) (v:List Rat):Nat->List Rat
 | 0=>v
 | r+1=>nK (F r) (cr F v r) r
theorem uS (F:Nat->Nat->Rat) (v:List Rat):∀ r,(cr F v r).length=v.length
 | 0=>rfl
 | r+1=>by rw [cr,r9,uS F v r]
theorem aw0 {f:Nat->Rat} {v:List Rat} {Q R j:Nat} (hf:∀ i,j<i->i<v.length->rl (f i)<=Q) (hR:1<=R) (hv:∀ x∈v,rl x<=R):∀ x∈nK f v j,rl x<=3*R+Q+2:=fun x hx=>by
 obtain⟨i,hi,rfl⟩:=ac8 hx
 rw [r9] at hi
 rw [vj f v j i hi]
 have a:=ga hR hv i
 have b:=ga hR hv (i-1)
 split
 ·rename_i g
  have h0:=hf i g hi
  have h1:=iq (v.getD i 0) (v.getD (i-1) 0)
  have h2:=cO (f i) (v.getD i 0-v.getD (i-1) 0)
  have h3:=jq (v.getD (i-1) 0) (f i*(v.getD i 0-v.getD (i-1) 0))
  omega
 ·omega
theorem akc {F:Nat->Nat->Rat} {v:List Rat} {Q R n:Nat} (hQ:∀ r i,r<n->r<i->i<v.length->rl (F r i)<=Q) (hR:1<=R) (hv:∀ x∈v,rl x<=R):∀ r,r<=n->∀ x∈cr F v r,rl x<=v7 Q R r
 | 0,_=>hv
 | r+1,h=>aw0 (fun i h1 h2=>hQ r i J h1 (by rwa [uS] at h2)) (are hR r) (akc hQ hR hv r J)
def gF (k:List Rat) (d pc:Nat) (args:List Rat) (r j:Nat):Rat:=(args.getD r 0-k.getD (pc-d+j) 0)/(k.getD (pc+j-r) 0-k.getD (pc-d+j) 0)
def da (k:List Rat) (d pc:Nat) (v args:List Rat):Rat:=(cr (gF k d pc args) ((v.drop (pc-d)).take (d+1)) d).getD d 0
def lK (k:List Rat) (d pc:Nat) (C:List Q4) (args:List Rat):Q4:=⟨da k d pc (C.map (·.x)) args,da k d pc (C.map (·.y)) args,da k d pc (C.map (·.z)) args,da k d pc (C.map (·.w)) args⟩
structure tx (k:List Rat) (d pc:Nat):Prop where
 d6:d<=6
 kl:k.length<=100
 kr:∀ x∈k,rl x<=100
 x9:∀ i j,i<=j->j<k.length->k.getD i 0<=k.getD j 0
 p1:d<=pc
 p2:pc+d+1<k.length
 lt:k.getD pc 0<k.getD (pc+1) 0
theorem tx.fr {k:List Rat} {d pc:Nat} (h:tx k d pc) {r j:Nat} (h1:r<j) (h2:j<=d):k.getD (pc-d+j) 0<k.getD (pc+j-r) 0:=by
 have a1:=h.p1
 have a2:=h.p2
 have b1:=h.x9 (pc-d+j) pc J J
 have b2:=h.x9 (pc+1) (pc+j-r) J J
 have b3:=h.lt
 grind
theorem tx.kn {k:List Rat} {d pc:Nat} (h:tx k d pc) {i:Nat} (hi:i<k.length):rl (k.getD i 0)<=100:=h.kr _ (dg hi)
theorem tx.fl {k:List Rat} {d pc:Nat} (h:tx k d pc) {args:List Rat} (hA:∀ t∈args,rl t<=100) {r j:Nat} (h1:r<j) (h2:j<=d) (h3:r<args.length):rl (gF k d pc args r j)<=402:=by
 have a1:=h.p1
 have a2:=h.p2
 have b1:=h.kn (i:=pc-d+j) J
 have b2:=h.kn (i:=pc+j-r) J
 have b3:=hA _ (dg h3)
 have c1:=iq (args.getD r 0) (k.getD (pc-d+j) 0)
 have c2:=iq (k.getD (pc+j-r) 0) (k.getD (pc-d+j) 0)
 have c3:=oH (args.getD r 0-k.getD (pc-d+j) 0) (k.getD (pc+j-r) 0-k.getD (pc-d+j) 0)
 unfold gF
 omega
namespace aqn
theorem aH {p q:Prop} (k:q) (e:p=q:=by simp only [e1,e2,e3,e4,p1,p2,p3,q1,q2,q3,l1,t0,t1,r1,r2,r3,r4,Nat.zero_add,Nat.reduceMul,Nat.reduceAdd,b1,b2,b3,b4,b5,b6,i1,i2,i3,i4,i5,i6,Nat.reduceBEq,fy0,fyc,hnR,hnB,hnC,jc,cx,Rat.add_zero,List.length_map,List.set_cons_zero,List.set_cons_succ,Nat.reduceEqDiff,reduceIte,if_true,if_false,dW,ec,aP bg,aP bw,aP ao,cH,dO,LV.kill,bN];exact rfl):p:=e.mpr k
end aqn
open aqn in
theorem ahn (k:List Rat) (t:Rat) (i0:Nat) (h3:i0<k.length) (hl:k.length<=1000) (hr:∀ x∈k,rl x<=100000) (ht:rl t<=100000) (h1:∀ j,j<i0->k.getD j 0<=t) (h2:t<k.getD i0 0):av Tryz.prog 159 [.list 3 (k.map ae),ae t] (.list 3 ((k.take i0++t :: k.drop i0).map ae)):=by
 have rY:=et ao 3 k
 have hKc:=aoo k J (fun x hx=>Nat.le_trans (hr x hx) ai)
 have hA:=iw t 0 (by rw [show rl 0=1 from rfl];omega)
 rw [Rat.add_zero] at hA
 have iT:aG [ae t]=true:=by simp [aG,ao.pure]
 have pZ:aG (k.map ae)=true:=aW ao _
 have hIn:=auB k i0 t h3 hl
 have jc:kR 27 28 1=1000449:=rfl
 have hnR:(LV.ref 1 3 0 (k.length+1)).bJ (kR 27 28)=.ref 1000449 3 0 (k.length+1):=rfl
 have hnB:cX (kR 27 28) [ae t]=[ae t]:=mE _ _ iT
 have hnC:cX (kR 27 28) ((k.take i0++t :: k.drop i0).map ae)=(k.take i0++t :: k.drop i0).map ae:=mE _ _ (aW ao _)
 have hlR:(k.take i0++t :: k.drop i0).length=k.length+1:=by rw [List.length_append,List.length_cons,List.length_take,List.length_drop];omega
 have pO:∀ i,i<k.length->rl (k.getD i 0)<=100000:=fun i hi=>hr _ (dg hi)
 refine aN Tryz.func159 ?_
 refine dj ?_
 refine dJ (fun(i:Nat) L=>((((St.mk L.slot (hp [(3,⟨3,[ae t],true⟩)])).put (some 0) (.list 3 (k.map ae))).put (some 3) (.az 3 3 0 0)).put (some 5) (ah i))) (fun i=>i<=i0) (fun i=>i0-i) 0 (Nat.zero_le _) ?_
 rintro i L1 hi
 refine aL ?_
 refine aY 13 an ?_
 refine a6 ?_
 refine ak (aZ (v:=true) rfl rfl ((decide_eq_true kE)) rfl) (.move _) ?_
 refine ak (aZ (v:=true) rfl rfl ((decide_eq_true kE)) rfl) (.move _) ?_
 refine ak (aZ (v:=true) rfl rfl ((decide_eq_true kE)) rfl) ui ?_
 refine ak (aZ (v:=true) rfl rfl ((decide_eq_true kE)) rfl) ij ?_
 refine ak (aZ (v:=true) rfl rfl ((decide_eq_true kE)) rfl) ij ?_
 try simp only [t1,cx]
 refine gI (aZ (v:=true) rfl rfl ((decide_eq_true kE)) rfl) (.cons eI (.cons eI .nil)) (lW (k.getD i 0) t (by have:=pO i J;omega)) ?_
 refine ak (aZ (v:=true) rfl rfl ((decide_eq_true kE)) rfl) (.bin rfl rfl rfl) ?_
 refine ak rfl (.my rfl ((decide_eq_true kE))) ?_
 refine aL ?_
 refine aC rfl ?_ ?_<;>intro rD rZ
 ·have dB:i<i0:=by
   rcases Nat.lt_or_ge i i0 with g | g
   ·exact g
   ·obtain rfl:i=i0:=by omega
    have:=rf.2 h2
    omega
  refine a6 ?_
  refine ak rfl cB ?_
  refine ax ?_
  exact jX
 ·obtain rfl:i0=i:=by
   rcases Nat.lt_or_ge i i0 with g | g
   ·have:=adp.2 (h1 i g)
    omega
   ·omega
  refine aA ?_
  refine auU rfl 7 an ai ?_
  simp only [List.take_succ_cons,List.take_zero]
  refine ar ?_
  refine y7 [] rfl rfl (.cons (.pure rY) .nil) hKc (aW ao _) rfl ?_
  refine aL ?_
  refine ak rfl ob ?_
  refine cp aq (hA) ?_
  refine ar ?_
  try refine aH ?_
  refine aCg rfl (aqv (f:=240) (b:=27) (c:=1000353) (sz:=3) (csz:=3) (vals:=[ae t]) (cvals:=k.map ae) 28 rfl ai ai (by rw [mE _ _ iT];rfl) (by rw [mE _ _ pZ];rfl) (.cons (.bJ (y:=.ref 1 3 0 k.length) ⟨by simp,by simp⟩) (.cons (.cf (.pure rfl)) (.cons (.bJ (y:=.ref 0 3 0 1) ⟨by simp,by simp⟩) .nil))) (.tl (.tl (.ref ai))) hIn aO (fun kk xg=>aCz (by intro x hx;simp only [List.map_cons,List.map_nil,List.mem_cons,List.not_mem_nil,or_false] at hx;unfold dK;omega))) ?_
  simp only [qE,jc,hnR,hnB,hnC]
  try refine aH ?_
  simp only [List.drop_succ_cons,List.drop_zero]
  refine ax ?_
  exact mz [1000449] rfl rfl (eN (l:=(k.take i0++t :: k.drop i0)) ao rfl rfl hlR.symm)
namespace aoe
theorem aH {p q:Prop} (k:q) (e:p=q:=by simp only [e1,e2,e3,e4,p1,p2,p3,q1,q2,q3,l1,t0,t1,r1,r2,r3,r4,Nat.zero_add,Nat.reduceMul,Nat.reduceAdd,b1,b2,b3,b4,b5,b6,i1,i2,i3,i4,i5,i6,Nat.reduceBEq,abP,List.length_map,cx,List.set_cons_zero,List.set_cons_succ,Nat.reduceEqDiff,reduceIte,if_true,if_false,dW,ec,aP bg,aP bw,aP ao,cH,dO,LV.kill,bN];exact rfl):p:=e.mpr k
end aoe
open aoe in
theorem ama (d:Nat) (k:List Rat) (t:Rat) (r:Nat) (hl:k.length<=1000) (hr:∀ x∈k,rl x<=100000) (ht:rl t<=100000) (h0:k.getD 0 0<=t) (h1:t<=k.getD (k.length-1) 0) (g8:r+1<k.length) (nH:k.getD r 0<k.getD (r+1) 0) (hA:∀ i,i<r->k.getD i 0<k.getD (i+1) 0->k.getD (i+1) 0<=t) (hB:t<k.getD (r+1) 0\/∀ i,r<i->i+1<k.length->¬k.getD i 0<k.getD (i+1) 0):av Tryz.prog 242 [.list 3 (k.map ae),ah d,ae t] (.a7 [ah r,iL 0]):=by
 have abP:((k.length:Int)-1).toNat=k.length-1:=by omega
 have pO:∀ i,i<k.length->rl (k.getD i 0)<=100000:=fun i hi=>hr _ (dg hi)
 have c1:¬fh t (k.getD 0 0)<0:=fun e=>by have:=sM.2 h0;omega
 have c2:¬fh t (k.getD (k.length-1) 0) > 0:=fun e=>by have:=rf.1 e;grind
 have qD:=pO 0 J
 have hrN:=pO (k.length-1) J
 refine aN Tryz.func242 (ht:=(jg rfl rfl)) ?_
 refine bq ?_
 refine aY 22 an ?_
 refine ax ?_
 refine ak (aZ (v:=false) rfl rfl ((beq_eq_false_iff_ne.2 J)) rfl) ij ?_
 refine ak (aZ (v:=false) rfl rfl ((beq_eq_false_iff_ne.2 J)) rfl) (.move _) ?_
 refine ak (aZ (v:=false) rfl rfl ((beq_eq_false_iff_ne.2 J)) rfl) ui ?_
 refine ak (aZ (v:=false) rfl rfl ((beq_eq_false_iff_ne.2 J)) rfl) ij ?_
 try simp only [t1,cx]
 refine gI (aZ (v:=false) rfl rfl ((beq_eq_false_iff_ne.2 J)) rfl) (.cons eI (.cons eI .nil)) (lW t (k.getD 0 0) J) ?_
 refine ak (aZ (v:=false) rfl rfl ((beq_eq_false_iff_ne.2 J)) rfl) (.bin rfl rfl rfl) ?_
 refine ak rfl (.oX rfl ((beq_eq_false_iff_ne.2 J))) ?_
 refine ar ?_
 refine ak (aZ (v:=false) rfl rfl ((decide_eq_false c1)) rfl) ij ?_
 refine ak (aZ (v:=false) rfl rfl ((decide_eq_false c1)) rfl) (.move _) ?_
 refine ak (aZ (v:=false) rfl rfl ((decide_eq_false c1)) rfl) (.move _) ?_
 refine ak (aZ (v:=false) rfl rfl ((decide_eq_false c1)) rfl) uF ?_
 refine ak (aZ (v:=false) rfl rfl ((decide_eq_false c1)) rfl) (.bin rfl rfl (ado J J)) ?_
 refine ak (aZ (v:=false) rfl rfl ((decide_eq_false c1)) rfl) ui ?_
 refine ak (aZ (v:=false) rfl rfl ((decide_eq_false c1)) rfl) ij ?_
 try simp only [t1,cx,abP]
 refine gI (aZ (v:=false) rfl rfl ((decide_eq_false c1)) rfl) (.cons eI (.cons eI .nil)) (lW t (k.getD (k.length-1) 0) J) ?_
 refine ak (aZ (v:=false) rfl rfl ((decide_eq_false c1)) rfl) (.bin rfl rfl rfl) ?_
 refine ak rfl (.oX rfl ((decide_eq_false c1))) ?_
 refine aL ?_
 refine eF (b:=_) rfl (decide_eq_false c2) ?_
 refine dk ?_
 refine jP (fun(i la:Nat) L=>(((((St.mk L.slot (hp [(5,⟨3,[ae t],true⟩)])).put (some 0) (.list 3 (k.map ae))).put (some 5) (.az 5 3 0 0)).put (some 8) (ah la)).put (some 9) (ah i))) (fun i la=>i<k.length/\(r<i->la=r/\k.getD (r+1) 0<=t)) (fun i la=>k.length-i) 0 0 ⟨J,fun h=>absurd h (Nat.not_lt_zero _)⟩ ?_
 rintro i la L1 ⟨hi,eZ⟩
 refine ax ?_
 refine ak rfl cB ?_
 refine a6 ?_
 refine aC rfl ?_ ?_<;>intro apr h36
 ·have dB:i+1<k.length:=by omega
  have mb:=pO i J
  have yk:=pO (i+1) dB
  refine aA ?_
  refine aY 11 an ?_
  refine aA ?_
  refine ak rfl cB ?_
  refine aL ?_
  try simp only [t1,cx]
  refine cp aq (lW (k.getD i 0) (k.getD (i+1) 0) J) ?_
  refine aJ ?_
  refine aC rfl ?_ ?_<;>intro yO zy
  ·have kN:¬k.getD i 0<k.getD (i+1) 0:=fun e=>by have:=abU.2 e;omega
   have mj:r<i+1->la=r/\k.getD (r+1) 0<=t:=fun h=>by
    rcases Nat.lt_succ_iff_lt_or_eq.1 h with g | g
    ·exact eZ g
    ·exact absurd (g ▸ nH) kN
   refine aA ?_
   refine ak rfl cB ?_
   refine aJ ?_
   exact fZ (i+1) la ⟨J,mj⟩
  ·have bE:k.getD i 0<k.getD (i+1) 0:=abK.1 J
   refine bq ?_
   refine aY 8 an ?_
   refine aJ ?_
   refine ak rfl cB ?_
   refine aL ?_
   try simp only [t1,cx]
   refine cp aq (lW t (k.getD (i+1) 0) J) ?_
   refine aJ ?_
   refine aC rfl ?_ ?_<;>intro am4 h58
   ·obtain rfl:i=r:=by
     have hb:=abK.1 h58
     rcases Nat.lt_trichotomy i r with g | g | g
     ·have:=hA i g bE
      grind
     ·exact g
     ·rcases hB with e | e
      ·have:=(eZ g).2
       grind
      ·exact absurd bE (e i g dB)
    refine dk ?_
    exact vd
   ·have jf:k.getD (i+1) 0<=t:=sM.1 J
    have lr:r<i+1->i=r/\k.getD (r+1) 0<=t:=fun h=>by
     rcases Nat.lt_succ_iff_lt_or_eq.1 h with g | g
     ·exfalso
      rcases hB with e | e
      ·have:=(eZ g).2
       grind
      ·exact absurd bE (e i g dB)
     ·exact⟨g.symm,g ▸ jf⟩
    refine a6 ?_
    refine ak rfl cB ?_
    refine aJ ?_
    exact fZ (i+1) i ⟨J,lr⟩
 ·obtain rfl:la=r:=(eZ J).1
  refine dj ?_
  exact vd
namespace aj5
theorem aH {p q:Prop} (k:q) (e:p=q:=by simp only [e1,e2,e3,e4,p1,p2,p3,q1,q2,q3,l1,t0,t1,r1,r2,r3,r4,Nat.zero_add,Nat.reduceMul,Nat.reduceAdd,b1,b2,b3,b4,b5,b6,i1,i2,i3,i4,i5,i6,Nat.reduceBEq,cx,List.length_map,List.set_cons_zero,List.set_cons_succ,Nat.reduceEqDiff,reduceIte,if_true,if_false,dW,ec,aP bg,aP bw,aP ao,cH,dO,LV.kill,bN];exact rfl):p:=e.mpr k
end aj5
open aj5 in
theorem ajx (k:List Rat) (j r:Nat) (hl:k.length<=1000) (hr:∀ x∈k,rl x<=100000) (hj:j<=r) (g8:r+1<k.length) (nH:k.getD r 0<k.getD (r+1) 0) (hA:∀ i,j<=i->i<r->¬k.getD i 0<k.getD (i+1) 0):av Tryz.prog 241 [.list 3 (k.map ae),ah j] (ah r):=by
 have pO:∀ i,i<k.length->rl (k.getD i 0)<=100000:=fun i hi=>hr _ (dg hi)
 refine aN Tryz.func241 ?_
 refine aR ?_
 refine dJ (fun(i:Nat) L=>(((St.mk L.slot (hp [])).put (some 0) (.list 3 (k.map ae))).put (some 1) (ah i))) (fun i=>j<=i/\i<=r) (fun i=>r-i) j ⟨Nat.le_refl _,hj⟩ ?_
 rintro i L1 ⟨jL,hi⟩
 refine aL ?_
 refine aY 18 an ?_
 refine ar ?_
 refine ak rfl cB ?_
 refine ax ?_
 refine ak (aZ (v:=true) rfl rfl ((decide_eq_true kE)) rfl) (.move _) ?_
 refine ak (aZ (v:=true) rfl rfl ((decide_eq_true kE)) rfl) (.move _) ?_
 refine ak (aZ (v:=true) rfl rfl ((decide_eq_true kE)) rfl) ui ?_
 refine ak (aZ (v:=true) rfl rfl ((decide_eq_true kE)) rfl) ij ?_
 refine ak (aZ (v:=true) rfl rfl ((decide_eq_true kE)) rfl) (.move _) ?_
 refine ak (aZ (v:=true) rfl rfl ((decide_eq_true kE)) rfl) (.move _) ?_
 refine ak (aZ (v:=true) rfl rfl ((decide_eq_true kE)) rfl) (.bin rfl rfl (ace J)) ?_
 refine ak (aZ (v:=true) rfl rfl ((decide_eq_true kE)) rfl) ui ?_
 refine ak (aZ (v:=true) rfl rfl ((decide_eq_true kE)) rfl) ij ?_
 try simp only [t1,cx]
 refine gI (aZ (v:=true) rfl rfl ((decide_eq_true kE)) rfl) (.cons eI (.cons eI .nil)) (lW (k.getD i 0) (k.getD (i+1) 0) (by have:=pO i J;have:=pO (i+1) J;omega)) ?_
 refine ak (aZ (v:=true) rfl rfl ((decide_eq_true kE)) rfl) (.bin rfl rfl rfl) ?_
 refine ak rfl (.my rfl ((decide_eq_true kE))) ?_
 refine aL ?_
 refine aC rfl ?_ ?_<;>intro adD h22
 ·have dB:i<r:=by
   rcases Nat.lt_or_ge i r with g | g
   ·exact g
   ·obtain rfl:i=r:=by omega
    have:=abK.2 nH
    omega
  refine a6 ?_
  refine ak rfl cB ?_
  refine ax ?_
  exact iG (i+1) ⟨J,J⟩
 ·obtain rfl:i=r:=by
   rcases Nat.lt_or_ge i r with g | g
   ·exact absurd (abK.1 J) (hA i jL g)
   ·omega
  refine bu ?_
  exact mF
namespace alD
theorem aH {p q:Prop} (k:q) (e:p=q:=by simp only [e1,e2,e3,e4,p1,p2,p3,q1,q2,q3,l1,t0,t1,r1,r2,r3,r4,Nat.zero_add,Nat.reduceMul,Nat.reduceAdd,b1,b2,b3,b4,b5,b6,i1,i2,i3,i4,i5,i6,Nat.reduceBEq,ano,pj,nP,hxd,hxe,akH,uO,ewl,ewj,ewk,aj4,cx,Rat.add_zero,Nat.sub_self,List.drop_zero,List.take_zero,List.nil_append,List.length_map,List.length_replicate,List.append_nil,List.set_cons_zero,List.set_cons_succ,Nat.reduceEqDiff,reduceIte,if_true,if_false,dW,ec,aP bg,aP bw,aP ao,cH,dO,LV.kill,bN];exact rfl):p:=e.mpr k
end alD
open alD in
theorem aeO (k:List Rat) (d pc:Nat) (c args:List Rat) (R:Nat) (h:tx k d pc) (hc:c.length=k.length-d-1) (uO:args.length=d) (eJ:1<=R) (hR:R<=10000000) (jw:∀ x∈c,rl x<=R) (hA:∀ t∈args,rl t<=100):lE Tryz.prog 280 ⟨3,c.map ae,true⟩ [.list 3 (k.map ae),ah d,.ref 0 3 0 c.length,ah pc,.list 3 (args.map ae)] (.a7 [ae (da k d pc c args),iL 0]) ⟨3,c.map ae,true⟩:=by
 have h9:=h.d6
 have fU:=h.kl
 have iT:=h.p1
 have pZ:=h.p2
 have aEj:=h.lt
 have hs9:v7 402 R 6<=10000000000:=by simp only [v7];omega
 have pj:((c.drop (pc-d)).take (d+1)).length=d+1:=by rw [List.length_take,List.length_drop];omega
 have hvR:∀ x∈((c.drop (pc-d)).take (d+1)),rl x<=R:=fun x hx=>jw x (List.mem_of_mem_drop (List.mem_of_mem_take hx))
 have hFl:∀ r i,r<d->r<i->i<((c.drop (pc-d)).take (d+1)).length->rl ((gF k d pc args) r i)<=402:=fun r i g1 g2 g3=>h.fl hA g2 J J
 have hBR:∀ r,r<=d->∀ x∈(cr (gF k d pc args) ((c.drop (pc-d)).take (d+1)) r),rl x<=10000000000:=fun r hr x hx=>Nat.le_trans (akc hFl eJ hvR r hr x hx) (Nat.le_trans (amo eJ (show r<=6 by omega)) hs9)
 have hG:∀ i,i<k.length->rl (k.getD i 0)<=100:=fun i hi=>h.kn hi
 have c1:¬fh (k.getD pc 0) (k.getD (pc+1) 0)>=0:=fun e=>by have:=sM.1 e;grind
 have mb:=hG pc J
 have yk:=hG (pc+1) J
 have ub:=et ao 3 args
 have rY:=et ao 3 k
 have aC1:=ga ai (hBR d (Nat.le_refl _)) d
 have hAd:=iw ((cr (gF k d pc args) ((c.drop (pc-d)).take (d+1)) d).getD d 0) 0 (by have:rl 0=1:=rfl;omega)
 rw [Rat.add_zero] at hAd
 have tX:(((c.drop (pc-d)).take (d+1)).map ae).length=d+1:=by rw [List.length_map,pj]
 have hxd:(List.replicate (d+1) (ae 0)).drop (d+1)=[]:=List.drop_of_length_le aO
 have hxe:((List.replicate (d+1) (0:Rat)).map ae).drop (d+1)=[]:=List.drop_of_length_le aO
 refine tD Tryz.func280 ?_
 have ano:True:=trivial
 have akH:True:=trivial
 have ewl:True:=trivial
 have ewj:True:=trivial
 have ewk:True:=trivial
 have aj4:True:=trivial
 refine dk ?_
 refine cp aq (agD k d J J) ?_
 refine aL ?_
 refine ak (aZ (v:=false) rfl rfl ((bne_eq_false_iff_eq.2 kE)) rfl) (.move _) ?_
 refine ak (aZ (v:=false) rfl rfl ((bne_eq_false_iff_eq.2 kE)) rfl) uF ?_
 refine ak (aZ (v:=false) rfl rfl ((bne_eq_false_iff_eq.2 kE)) rfl) (.move _) ?_
 refine ak (aZ (v:=false) rfl rfl ((bne_eq_false_iff_eq.2 kE)) rfl) (.bin rfl rfl rfl) ?_
 refine ak rfl (.oX rfl ((bne_eq_false_iff_eq.2 kE))) ?_
 refine aJ ?_
 refine eF (b:=_) rfl (bne_eq_false_iff_eq.2 (by first | omega | (simp only [List.length_map,uO];omega))) ?_
 refine ar ?_
 refine aY 23 an ?_
 refine ax ?_
 refine ak (aZ (v:=false) rfl rfl ((decide_eq_false J)) rfl) (.move _) ?_
 refine ak (aZ (v:=false) rfl rfl ((decide_eq_false J)) rfl) (.move _) ?_
 refine ak (aZ (v:=false) rfl rfl ((decide_eq_false J)) rfl) uF ?_
 refine ak (aZ (v:=false) rfl rfl ((decide_eq_false J)) rfl) (.bin rfl rfl rfl) ?_
 refine ak rfl (.oX rfl ((decide_eq_false J))) ?_
 refine ar ?_
 refine ak (aZ (v:=false) rfl rfl ((decide_eq_false J)) rfl) (.move _) ?_
 refine ak (aZ (v:=false) rfl rfl ((decide_eq_false J)) rfl) (.move _) ?_
 refine ak (aZ (v:=false) rfl rfl ((decide_eq_false J)) rfl) ui ?_
 refine ak (aZ (v:=false) rfl rfl ((decide_eq_false J)) rfl) ij ?_
 refine ak (aZ (v:=false) rfl rfl ((decide_eq_false J)) rfl) (.move _) ?_
 refine ak (aZ (v:=false) rfl rfl ((decide_eq_false J)) rfl) (.move _) ?_
 refine ak (aZ (v:=false) rfl rfl ((decide_eq_false J)) rfl) (.bin rfl rfl (ace J)) ?_
 refine ak (aZ (v:=false) rfl rfl ((decide_eq_false J)) rfl) ui ?_
 refine ak (aZ (v:=false) rfl rfl ((decide_eq_false J)) rfl) ij ?_
 try simp only [t1,cx]
 refine gI (aZ (v:=false) rfl rfl ((decide_eq_false J)) rfl) (.cons eI (.cons eI .nil)) (lW (k.getD pc 0) (k.getD (pc+1) 0) J) ?_
 refine ak (aZ (v:=false) rfl rfl ((decide_eq_false J)) rfl) (.bin rfl rfl rfl) ?_
 refine ak rfl (.oX rfl ((decide_eq_false J))) ?_
 refine aJ ?_
 refine eF (b:=_) rfl (decide_eq_false c1) ?_
 refine aA ?_
 refine ak rfl cB ?_
 refine eH rfl rfl (.kM (n:=d+1) (m:=d+1) ml ml om om om) ?_
 refine bq ?_
 refine ak rfl (.bin rfl rfl (wS (a:=pc) (b:=d) (c:=pc-d) J J)) ?_
 refine ak rfl (.tL (a:=pc-d) (h:=c.length) rfl Tryz.underlying25 cK (fun y hy=>by cases hy;exact⟨_,rfl⟩) (fun h=>by cases h) (fun y hy=>by cases hy) (fun _=>rfl) om om om) ?_
 try refine aH ?_
 refine bI rfl (.abC (b:=58) (off:=0) (sz:=3) (n1:=d+1) (c:=0) (off2:=pc-d) (n2:=c.length-(pc-d)) (news:=(((c.drop (pc-d)).take (d+1)).map ae)) rfl rfl rfl rfl (Nat.zero_le _) Tryz.underlying25 Tryz.underlying25 cK rfl rfl rfl (by rw [tX];show _=min _ _;omega) (by rw [tX];omega) (by rw [tX,List.length_map];omega) (by rw [tX,<-List.map_drop,<-List.map_take])) ?_
 refine bp ?_
 refine dJ (fun(r:Nat) L=>(((((((((St.mk L.slot (hp [(0,⟨3,c.map ae,true⟩),(10,⟨3,[ae 0],true⟩),(58,⟨3,(cr (gF k d pc args) ((c.drop (pc-d)).take (d+1)) r).map ae,true⟩)])).put (some 0) (.list 3 (k.map ae))).put (some 1) (ah d)).put (some 3) (ah pc)).put (some 10) (.az 10 3 0 0)).put (some 12) (.ref 58 3 0 (d+1))).put (some 66) (.list 3 (args.map ae))).put (some 67) (ah d)).put (some 68) (ah r))) (fun r=>r<=d) (fun r=>d-r) 0 (Nat.zero_le _) ?_
 rintro r L1 hr
 refine aA ?_
 refine aC rfl ?_ ?_<;>intro xn h69
 ·have nH:r<d:=by omega
  have hrt:=hA _ (dg (p:=args) (i:=r) J)
  have px:(cr (gF k d pc args) ((c.drop (pc-d)).take (d+1)) r).length=d+1:=by rw [uS,pj]
  have aj4:nK ((gF k d pc args) r) (cr (gF k d pc args) ((c.drop (pc-d)).take (d+1)) r) d=(cr (gF k d pc args) ((c.drop (pc-d)).take (d+1)) r):=au5 _ _ _ J
  refine yS ?_
  refine dJ (fun(j:Nat) L=>((((((((((((St.mk L.slot (hp [(0,⟨3,c.map ae,true⟩),(10,⟨3,[ae 0],true⟩),(58,⟨3,(nK ((gF k d pc args) r) (cr (gF k d pc args) ((c.drop (pc-d)).take (d+1)) r) j).map ae,true⟩),(14,⟨3,[ae (args.getD r 0)],true⟩)])).put (some 0) (.list 3 (k.map ae))).put (some 1) (ah d)).put (some 3) (ah pc)).put (some 10) (.az 10 3 0 0)).put (some 12) (.ref 58 3 0 (d+1))).put (some 13) (ah r)).put (some 14) (.az 14 3 0 0)).put (some 15) (ah j)).put (some 66) (.list 3 (args.map ae))).put (some 67) (ah d)).put (some 68) (ah r))) (fun j=>r<=j/\j<=d) (fun j=>j) d ⟨J,Nat.le_refl _⟩ ?_
  rintro j L2 ⟨hj1,gY⟩
  refine bf ?_
  refine aC rfl ?_ ?_<;>intro auP h76
  ·have hj3:r<j:=by omega
   have ewl:(nK ((gF k d pc args) r) (cr (gF k d pc args) ((c.drop (pc-d)).take (d+1)) r) j).length=d+1:=by rw [r9,px]
   have ewj:(nK ((gF k d pc args) r) (cr (gF k d pc args) ((c.drop (pc-d)).take (d+1)) r) j).getD j 0=(cr (gF k d pc args) ((c.drop (pc-d)).take (d+1)) r).getD j 0:=by rw [vj _ _ _ _ J,if_neg J]
   have ewk:(nK ((gF k d pc args) r) (cr (gF k d pc args) ((c.drop (pc-d)).take (d+1)) r) j).getD (j-1) 0=(cr (gF k d pc args) ((c.drop (pc-d)).take (d+1)) r).getD (j-1) 0:=by rw [vj _ _ _ _ J,if_neg J]
   have hv1:=ga ai (hBR r J) j
   have hv2:=ga ai (hBR r J) (j-1)
   have hfq:rl ((gF k d pc args) r j)<=402:=h.fl hA hj3 J J
   have dL:=iq ((cr (gF k d pc args) ((c.drop (pc-d)).take (d+1)) r).getD j 0) ((cr (gF k d pc args) ((c.drop (pc-d)).take (d+1)) r).getD (j-1) 0)
   have hmf:=cO ((gF k d pc args) r j) ((cr (gF k d pc args) ((c.drop (pc-d)).take (d+1)) r).getD j 0-(cr (gF k d pc args) ((c.drop (pc-d)).take (d+1)) r).getD (j-1) 0)
   have akH:=aBy ((gF k d pc args) r) (cr (gF k d pc args) ((c.drop (pc-d)).take (d+1)) r) j J J
   have rq:=hG (pc-d+j) J
   have kL:=hG (pc+j-r) J
   have dt:av Tryz.prog 289 [ae (k.getD (pc-d+j) 0),ae (k.getD (pc+j-r) 0),ae (args.getD r 0)] (ae ((gF k d pc args) r j)):=aAI _ _ _ J (h.fr hj3 J)
   refine bf ?_
   refine ak rfl (.bin rfl rfl (wS (a:=pc) (b:=d) (c:=pc-d) J J)) ?_
   refine ar ?_
   refine ak rfl (.bin rfl rfl (ue (a:=pc-d) (b:=j) J)) ?_
   refine ax ?_
   refine aY 15 an ?_
   refine aR ?_
   refine ak rfl (.bin rfl rfl (ue (a:=pc-d+j) (b:=d) J)) ?_
   refine ar ?_
   refine ak rfl (.bin rfl rfl (wS (a:=pc-d+j+d) (b:=r) (c:=pc+j-r) J J)) ?_
   refine aJ ?_
   try simp only [t1,cx]
   refine cp fH (dt) ?_
   refine ax ?_
   refine aY 21 an ?_
   refine ax ?_
   refine ak rfl jm ?_
   refine bq ?_
   refine ak rfl jm ?_
   refine aL ?_
   refine aH ?_
   refine cp aq (py ((cr (gF k d pc args) ((c.drop (pc-d)).take (d+1)) r).getD j 0) ((cr (gF k d pc args) ((c.drop (pc-d)).take (d+1)) r).getD (j-1) 0) J) ?_
   refine cp aq (gr ((gF k d pc args) r j) ((cr (gF k d pc args) ((c.drop (pc-d)).take (d+1)) r).getD j 0-(cr (gF k d pc args) ((c.drop (pc-d)).take (d+1)) r).getD (j-1) 0) J) ?_
   refine cp aq (iw ((cr (gF k d pc args) ((c.drop (pc-d)).take (d+1)) r).getD (j-1) 0) ((gF k d pc args) r j*((cr (gF k d pc args) ((c.drop (pc-d)).take (d+1)) r).getD j 0-(cr (gF k d pc args) ((c.drop (pc-d)).take (d+1)) r).getD (j-1) 0)) J) ?_
   refine a6 ?_
   refine cq (aw.kill _ 17) ?_
   refine ar ?_
   refine ak rfl jm ?_
   refine aJ ?_
   exact iG (j-1) ⟨J,J⟩
  ·obtain rfl:r=j:=by omega
   refine aA ?_
   refine cq (aw.kill _ 14) ?_
   refine ak rfl cB ?_
   refine aJ ?_
   exact iG (r+1) J
 ·obtain rfl:d=r:=by omega
  have ano:(cr (gF k d pc args) ((c.drop (pc-d)).take (d+1)) d).length=d+1:=by rw [uS,pj]
  refine bp ?_
  refine aH ?_
  refine ak rfl ob ?_
  refine cp aq (hAd) ?_
  refine a6 ?_
  exact aA8 rfl rfl (ao.au _) (n6 _) cK (.cf (.pure (ao.pure _))) rfl (.cf (.pure rfl)) rfl rfl (aW ao _)
namespace aot
theorem aH {p q:Prop} (k:q) (e:p=q:=by simp only [e1,e2,e3,e4,p1,p2,p3,q1,q2,q3,l1,t0,t1,r1,r2,r3,r4,Nat.zero_add,Nat.reduceMul,Nat.reduceAdd,b1,b2,b3,b4,b5,b6,i1,i2,i3,i4,i5,i6,Nat.reduceBEq,nP,cY,uo,ect,vT,wB,cx,List.drop_zero,List.take_zero,List.nil_append,List.length_map,List.length_replicate,abD,aP ju,List.set_cons_zero,List.set_cons_succ,Nat.reduceEqDiff,reduceIte,if_true,if_false,dW,ec,aP bg,aP bw,aP ao,cH,dO,LV.kill,bN];exact rfl):p:=e.mpr k
end aot
open aot in
theorem avW (k:List Rat) (d pc:Nat) (C:List Q4) (args:List Rat) (R:Nat) (h:tx k d pc) (hC:C.length=k.length-d-1) (uO:args.length=d) (eJ:1<=R) (hR:R<=10000000) (jw:∀ q∈C,nR R q) (hA:∀ t∈args,rl t<=100):av Tryz.prog 243 [.agg [ah d,.list 3 (k.map ae),.list 12 (C.map cY)],ah pc,.list 3 (args.map ae)] (cY (lK k d pc C args)):=by
 have iT:=h.p1
 have pZ:=h.p2
 have fU:=h.kl
 have hCp:0<C.length:=by omega
 have hC9:C.length<=100:=by omega
 have hpS:LV.pure (.agg [ah d,.list 3 (k.map ae),.list 12 (C.map cY)])=true:=by simp [LV.pure,aG,aW ao,aW ju]
 have rY:=et ao 3 k
 have ub:=et ao 3 args
 have fV:∀ x∈(C.map (·.x)),rl x<=R:=fun x hx=>by
  obtain⟨q,hq,rfl⟩:=List.mem_map.1 hx
  exact(jw q hq).1
 have alW:=aeO k d pc (C.map (·.x)) args R h (by rw [List.length_map,hC]) uO eJ hR fV hA
 rw [show (C.map (·.x)).length=C.length from List.length_map _] at alW
 have iF:∀ x∈(C.map (·.y)),rl x<=R:=fun x hx=>by
  obtain⟨q,hq,rfl⟩:=List.mem_map.1 hx
  exact(jw q hq).2.1
 have aq0:=aeO k d pc (C.map (·.y)) args R h (by rw [List.length_map,hC]) uO eJ hR iF hA
 rw [show (C.map (·.y)).length=C.length from List.length_map _] at aq0
 have dZ:∀ x∈(C.map (·.z)),rl x<=R:=fun x hx=>by
  obtain⟨q,hq,rfl⟩:=List.mem_map.1 hx
  exact(jw q hq).2.2.1
 have agN:=aeO k d pc (C.map (·.z)) args R h (by rw [List.length_map,hC]) uO eJ hR dZ hA
 rw [show (C.map (·.z)).length=C.length from List.length_map _] at agN
 have od:∀ x∈(C.map (·.w)),rl x<=R:=fun x hx=>by
  obtain⟨q,hq,rfl⟩:=List.mem_map.1 hx
  exact(jw q hq).2.2.2
 have akL:=aeO k d pc (C.map (·.w)) args R h (by rw [List.length_map,hC]) uO eJ hR od hA
 rw [show (C.map (·.w)).length=C.length from List.length_map _] at akL
 refine aN Tryz.func243 (ht:=(fun g=>LV.cP g _ (ju.pure _))) ?_
 have uo:True:=trivial
 have ect:True:=trivial
 have vT:True:=trivial
 have wB:True:=trivial
 refine mA ?_
 refine eH rfl rfl (.kM (n:=C.length) (m:=C.length) ml ml om om om) ?_
 refine bC ?_
 refine bG ?_
 refine aA ?_
 refine bY (b:=_) rfl ai ?_
 refine nj ?_
 refine dJ (fun(i:Nat) L=>((((((((((((St.mk L.slot (hp [(3,⟨3,[.agg [ah d,.list 3 (k.map ae),.list 12 (C.map cY)]],true⟩),(6,⟨12,[.agg [ae 0,ae 0,ae 0,ae 0]],true⟩),(7,⟨12,[.agg [ae 0,ae 0,ae 0,ae 0]],true⟩),(15,⟨3,((C.map (·.x)).take i++(List.replicate C.length (0:Rat)).drop i).map ae,true⟩)])).put (some 1) (ah pc)).put (some 2) (.list 3 (args.map ae))).put (some 3) (.az 3 3 0 0)).put (some 6) (.az 6 12 0 0)).put (some 7) (.az 7 12 0 0)).put (some 8) (.ref 15 3 0 C.length)).put (some 9) (ah 0)).put (some 16) (ah 0)).put (some 20) (.list 12 (C.map cY))).put (some 21) (ah C.length)).put (some 22) (ah i))) (fun i=>i<=C.length) (fun i=>C.length-i) 0 (Nat.zero_le _) ?_
 rintro i L2 hi
 refine aA ?_
 refine aC rfl ?_ ?_<;>intro qt oL
 ·have dB:i<C.length:=by omega
  have wB:=afh (C:=C) (i:=i) J (·.x)
  have ect:((C.map (·.x)).take i++(List.replicate C.length (0:Rat)).drop i).set i ((C.getD i default).x)=(C.map (·.x)).take (i+1)++(List.replicate C.length (0:Rat)).drop (i+1):=by
   rw [<-wB]
   exact afa aO bm
  have uo:((C.map (·.x)).take i++(List.replicate C.length (0:Rat)).drop i).length=C.length:=by rw [ae1 aO bm];simp
  refine tK ?_
  refine cq (aw.kill _ 11) ?_
  refine ak rfl cB ?_
  refine aJ ?_
  exact jX
 ·obtain rfl:i=C.length:=by omega
  have vT:(C.map (·.x)).take C.length++(List.replicate C.length (0:Rat)).drop C.length=(C.map (·.x)):=ae4 aO aO
  try simp only [vT]
  refine dk ?_
  refine aeM 15 rfl rfl rfl (aW ao _) (.cons (.cf (.pure rY)) (.cons (.cf (.pure rfl)) (.cons .ref (.cons (.cf (.pure rfl)) (.cons (.cf (.pure ub)) .nil))))) (.tl (.tl (.ref hCp))) alW rfl (aW ao _) (jg (ao.pure _) rfl) ?_
  refine dj ?_
  refine bG ?_
  refine aA ?_
  refine bY (b:=_) rfl ai ?_
  refine nj ?_
  refine dJ (fun(i:Nat) L=>((((((((((((St.mk L.slot (hp [(3,⟨3,[.agg [ah d,.list 3 (k.map ae),.list 12 (C.map cY)]],true⟩),(6,⟨12,[.agg [ae 0,ae 0,ae 0,ae 0]],true⟩),(7,⟨12,[.agg [ae (da k d pc (C.map (·.x)) args),ae 0,ae 0,ae 0]],true⟩),(15,⟨3,((C.map (·.y)).take i++(C.map (·.x)).drop i).map ae,true⟩)])).put (some 1) (ah pc)).put (some 2) (.list 3 (args.map ae))).put (some 3) (.az 3 3 0 0)).put (some 6) (.az 6 12 0 0)).put (some 7) (.az 7 12 0 0)).put (some 8) (.ref 15 3 0 C.length)).put (some 9) (ah 1)).put (some 16) (ah 1)).put (some 20) (.list 12 (C.map cY))).put (some 21) (ah C.length)).put (some 22) (ah i))) (fun i=>i<=C.length) (fun i=>C.length-i) 0 (Nat.zero_le _) ?_
  rintro i L2 hi
  refine aA ?_
  refine aC rfl ?_ ?_<;>intro qt oL
  ·have dB:i<C.length:=by omega
   have wB:=afh (C:=C) (i:=i) J (·.y)
   have ect:((C.map (·.y)).take i++(C.map (·.x)).drop i).set i ((C.getD i default).y)=(C.map (·.y)).take (i+1)++(C.map (·.x)).drop (i+1):=by
    rw [<-wB]
    exact afa aO bm
   have uo:((C.map (·.y)).take i++(C.map (·.x)).drop i).length=C.length:=by rw [ae1 aO bm];simp
   refine tK ?_
   refine cq (aw.kill _ 11) ?_
   refine ak rfl cB ?_
   refine aJ ?_
   exact jX
  ·obtain rfl:i=C.length:=by omega
   have vT:(C.map (·.y)).take C.length++(C.map (·.x)).drop C.length=(C.map (·.y)):=ae4 aO aO
   try simp only [vT]
   refine dk ?_
   refine aeM 15 rfl rfl rfl (aW ao _) (.cons (.cf (.pure rY)) (.cons (.cf (.pure rfl)) (.cons .ref (.cons (.cf (.pure rfl)) (.cons (.cf (.pure ub)) .nil))))) (.tl (.tl (.ref hCp))) aq0 rfl (aW ao _) (jg (ao.pure _) rfl) ?_
   refine dj ?_
   refine bG ?_
   refine aA ?_
   refine bY (b:=_) rfl ai ?_
   refine nj ?_
   refine dJ (fun(i:Nat) L=>((((((((((((St.mk L.slot (hp [(3,⟨3,[.agg [ah d,.list 3 (k.map ae),.list 12 (C.map cY)]],true⟩),(6,⟨12,[.agg [ae 0,ae 0,ae 0,ae 0]],true⟩),(7,⟨12,[.agg [ae (da k d pc (C.map (·.x)) args),ae (da k d pc (C.map (·.y)) args),ae 0,ae 0]],true⟩),(15,⟨3,((C.map (·.z)).take i++(C.map (·.y)).drop i).map ae,true⟩)])).put (some 1) (ah pc)).put (some 2) (.list 3 (args.map ae))).put (some 3) (.az 3 3 0 0)).put (some 6) (.az 6 12 0 0)).put (some 7) (.az 7 12 0 0)).put (some 8) (.ref 15 3 0 C.length)).put (some 9) (ah 2)).put (some 16) (ah 2)).put (some 20) (.list 12 (C.map cY))).put (some 21) (ah C.length)).put (some 22) (ah i))) (fun i=>i<=C.length) (fun i=>C.length-i) 0 (Nat.zero_le _) ?_
   rintro i L2 hi
   refine aA ?_
   refine aC rfl ?_ ?_<;>intro qt oL
   ·have dB:i<C.length:=by omega
    have wB:=afh (C:=C) (i:=i) J (·.z)
    have ect:((C.map (·.z)).take i++(C.map (·.y)).drop i).set i ((C.getD i default).z)=(C.map (·.z)).take (i+1)++(C.map (·.y)).drop (i+1):=by
     rw [<-wB]
     exact afa aO bm
    have uo:((C.map (·.z)).take i++(C.map (·.y)).drop i).length=C.length:=by rw [ae1 aO bm];simp
    refine tK ?_
    refine cq (aw.kill _ 11) ?_
    refine ak rfl cB ?_
    refine aJ ?_
    exact jX
   ·obtain rfl:i=C.length:=by omega
    have vT:(C.map (·.z)).take C.length++(C.map (·.y)).drop C.length=(C.map (·.z)):=ae4 aO aO
    try simp only [vT]
    refine dk ?_
    refine aeM 15 rfl rfl rfl (aW ao _) (.cons (.cf (.pure rY)) (.cons (.cf (.pure rfl)) (.cons .ref (.cons (.cf (.pure rfl)) (.cons (.cf (.pure ub)) .nil))))) (.tl (.tl (.ref hCp))) agN rfl (aW ao _) (jg (ao.pure _) rfl) ?_
    refine dj ?_
    refine bG ?_
    refine aA ?_
    refine bY (b:=_) rfl ai ?_
    refine nj ?_
    refine dJ (fun(i:Nat) L=>((((((((((((St.mk L.slot (hp [(3,⟨3,[.agg [ah d,.list 3 (k.map ae),.list 12 (C.map cY)]],true⟩),(6,⟨12,[.agg [ae 0,ae 0,ae 0,ae 0]],true⟩),(7,⟨12,[.agg [ae (da k d pc (C.map (·.x)) args),ae (da k d pc (C.map (·.y)) args),ae (da k d pc (C.map (·.z)) args),ae 0]],true⟩),(15,⟨3,((C.map (·.w)).take i++(C.map (·.z)).drop i).map ae,true⟩)])).put (some 1) (ah pc)).put (some 2) (.list 3 (args.map ae))).put (some 3) (.az 3 3 0 0)).put (some 6) (.az 6 12 0 0)).put (some 7) (.az 7 12 0 0)).put (some 8) (.ref 15 3 0 C.length)).put (some 9) (ah 3)).put (some 16) (ah 3)).put (some 20) (.list 12 (C.map cY))).put (some 21) (ah C.length)).put (some 22) (ah i))) (fun i=>i<=C.length) (fun i=>C.length-i) 0 (Nat.zero_le _) ?_
    rintro i L2 hi
    refine aA ?_
    refine aC rfl ?_ ?_<;>intro qt oL
    ·have dB:i<C.length:=by omega
     have wB:=afh (C:=C) (i:=i) J (·.w)
     have ect:((C.map (·.w)).take i++(C.map (·.z)).drop i).set i ((C.getD i default).w)=(C.map (·.w)).take (i+1)++(C.map (·.z)).drop (i+1):=by
      rw [<-wB]
      exact afa aO bm
     have uo:((C.map (·.w)).take i++(C.map (·.z)).drop i).length=C.length:=by rw [ae1 aO bm];simp
     refine tK ?_
     refine cq (aw.kill _ 11) ?_
     refine ak rfl cB ?_
     refine aJ ?_
     exact jX
    ·obtain rfl:i=C.length:=by omega
     have vT:(C.map (·.w)).take C.length++(C.map (·.z)).drop C.length=(C.map (·.w)):=ae4 aO aO
     try simp only [vT]
     refine dk ?_
     refine aeM 15 rfl rfl rfl (aW ao _) (.cons (.cf (.pure rY)) (.cons (.cf (.pure rfl)) (.cons .ref (.cons (.cf (.pure rfl)) (.cons (.cf (.pure ub)) .nil))))) (.tl (.tl (.ref hCp))) akL rfl (aW ao _) (jg (ao.pure _) rfl) ?_
     refine dj ?_
     refine bG ?_
     refine aA ?_
     refine eF (b:=_) rfl ai ?_
     refine bu ?_
     exact fS [] rfl rfl rfl cs (dG cs rfl) yN (.pure (ju.pure (lK k d pc C args)))
theorem ao0 {α:Type} (f:Nat->α) (j:Nat):(List.range j).map f++[f j]=(List.range (j+1)).map f:=by rw [List.range_succ,List.map_append];rfl
namespace akF
theorem aH {p q:Prop} (k:q) (e:p=q:=by simp only [e1,e2,e3,e4,p1,p2,p3,q1,q2,q3,l1,t0,t1,r1,r2,r3,r4,Nat.zero_add,Nat.reduceMul,Nat.reduceAdd,b1,b2,b3,b4,b5,b6,i1,i2,i3,i4,i5,i6,Nat.reduceBEq,gv,fD,ejd,cx,List.length_map,List.length_range,k5,kI,iz,List.length_cons,List.length_nil,List.nil_append,List.map_nil,List.take_nil,List.append_nil,abD,aP ju,List.set_cons_zero,List.set_cons_succ,Nat.reduceEqDiff,reduceIte,if_true,if_false,dW,ec,aP bg,aP bw,aP ao,cH,dO,LV.kill,bN];exact rfl):p:=e.mpr k
end akF
open akF in
theorem als (k w:List Rat) (d N:Nat) (C:List Q4) (R:Nat) (I A:Nat->Nat) (hN0:0<N) (hw:w.length=N+d+1) (gM:w.length<=100) (hwr:∀ x∈w,rl x<=100) (hC:C.length=k.length-d-1) (eJ:1<=R) (hR:R<=10000000) (jw:∀ q∈C,nR R q) (hIl:∀ j,j<N->I j<w.length) (hG:∀ j,j<N->tx k d (A j)) (hPc:∀ j,j<N->av Tryz.prog 241 [.list 3 (w.map ae),ah j] (ah (I j))) (hIv:∀ j,j<N->av Tryz.prog 242 [.list 3 (k.map ae),ah d,ae (w.getD (I j) 0)] (.a7 [ah (A j),iL 0])):av Tryz.prog 160 [.agg [ah d,.list 3 (k.map ae),.list 12 (C.map cY)],.list 3 (w.map ae)] (.agg [ah d,.list 3 (w.map ae),.list 12 (((List.range N).map fun j=>lK k d (A j) C ((w.drop (j+1)).take d)).map cY)]):=by
 have hpS:LV.pure (.agg [ah d,.list 3 (k.map ae),.list 12 (C.map cY)])=true:=by simp [LV.pure,aG,aW ao,aW ju]
 have rY:=et ao 3 w
 have hN9:N<=100:=by omega
 have hd9:d<=100:=by omega
 have hKP:=agD w d J J
 rw [show w.length-d-1=N by omega] at hKP
 refine aN Tryz.func160 (ht:=(fun g=>LV.cP g _ (by simp [LV.pure,aG,aW ao,aW ju,-List.map_map]))) ?_
 have gv:True:=trivial
 have fD:True:=trivial
 have ejd:True:=trivial
 refine aje ?_
 refine cp aq (hKP) ?_
 refine ax ?_
 refine jo ((aw.cell 5 rfl (fun Z μ w cs h=>abS 51 12 _ _ Z μ w cs h)).trans (aw.tH _ 51 12 rfl)) ?_
 refine dJ (fun(j:Nat) L=>(((((((St.mk L.slot (hp [(2,⟨3,[.agg [ah d,.list 3 (k.map ae),.list 12 (C.map cY)]],true⟩),(4,⟨3,[.agg [.v (.int .i64 0),.v (.slice none 0 0),.v (.slice none 0 0)]],true⟩),(5,⟨3,[.agg [ah d,.list 3 (w.map ae),.ref 51 12 0 j]],true⟩),(51,⟨12,((List.range j).map fun j=>lK k d (A j) C ((w.drop (j+1)).take d)).map cY,true⟩)])).put (some 1) (.list 3 (w.map ae))).put (some 2) (.az 2 3 0 0)).put (some 4) (.az 4 3 0 0)).put (some 5) (.az 5 3 0 0)).put (some 17) (ah N)).put (some 18) (ah j))) (fun j=>j<=N) (fun j=>N-j) 0 (Nat.zero_le _) ?_
 rintro j L1 hj
 refine aA ?_
 refine aC rfl ?_ ?_<;>intro aeg h19
 ·have gY:j<N:=by omega
  have gv:((List.range j).map fun j=>lK k d (A j) C ((w.drop (j+1)).take d))++[(lK k d (A j) C ((w.drop (j+1)).take d))]=((List.range (j+1)).map fun j=>lK k d (A j) C ((w.drop (j+1)).take d)):=ao0 (fun j=>(lK k d (A j) C ((w.drop (j+1)).take d))) j
  have fD:(((List.range j).map fun j=>lK k d (A j) C ((w.drop (j+1)).take d)).map cY).take j=((List.range j).map fun j=>lK k d (A j) C ((w.drop (j+1)).take d)).map cY:=List.take_of_length_le aO
  have ejd:(w.take (j+d+1)).drop (j+1)=(w.drop (j+1)).take d:=by
   rw [List.drop_take]
   congr 1
   omega
  have aCn:=hPc j gY
  have axW:=hIv j gY
  have aEm:=hIl j gY
  have hPo:=avW k d (A j) C ((w.drop (j+1)).take d) R (hG j gY) hC (by rw [List.length_take,List.length_drop];omega) eJ hR jw (fun t ht=>hwr t (List.mem_of_mem_drop (List.mem_of_mem_take ht)))
  refine dk ?_
  refine cp aq (aCn) ?_
  refine ax ?_
  refine aY 14 an ?_
  refine bf ?_
  try simp only [t1,cx]
  refine cp fH (axW) ?_
  refine aR ?_
  refine aY 15 an ?_
  refine aA ?_
  refine ak rfl cB ?_
  refine aJ ?_
  refine ak rfl (.bin rfl rfl (ue (a:=j) (b:=d) J)) ?_
  refine ak rfl cB ?_
  refine ak rfl (.agB (a:=j+1) (h:=j+d+1) ao rfl Tryz.underlying25 cK rfl rfl om om) ?_
  refine aH ?_
  refine cp fH (hPo) ?_
  refine ar ?_
  refine bI rfl (.fX (d:=51) (news:=[cY (lK k d (A j) C ((w.drop (j+1)).take d))]) rfl rfl rfl rfl aO (.inl rfl) ai Tryz.underlying137 Tryz.underlying137 aea yN cs aqM (.inl ⟨50,0,_,rfl,by decide,rfl,rfl,by simp,rfl,by simp [aG,ju.pure]⟩) bm bm ai) ?_
  refine a6 ?_
  refine cq (aw.kill _ 50) ?_
  refine ak rfl cB ?_
  refine aJ ?_
  exact vx
 ·obtain rfl:j=N:=by omega
  refine bu ?_
  exact fS [51] rfl rfl rfl cs (dG cs rfl) af3 (.agg (.cons (.pure rfl) (.cons (.pure rY) (.cons (eN (l:=((List.range j).map fun j=>lK k d (A j) C ((w.drop (j+1)).take d))) ju rfl rfl aO) .nil))))
namespace ara
theorem aH {p q:Prop} (k:q) (e:p=q:=by simp only [e1,e2,e3,e4,p1,p2,p3,q1,q2,q3,l1,t0,t1,r1,r2,r3,r4,Nat.zero_add,Nat.reduceMul,Nat.reduceAdd,b1,b2,b3,b4,b5,b6,i1,i2,i3,i4,i5,i6,Nat.reduceBEq,hK0,hK1,hK2,rp,hiy,eal,ebl,eap,ebp,ah3,hmj,List.replicate_zero,Nat.add_zero,cx,List.getD_cons_zero,List.getD_cons_succ,List.length_map,List.length_replicate,k5,kI,iz,List.length_cons,List.length_nil,List.nil_append,List.map_nil,List.take_nil,List.append_nil,abD,aP ju,List.set_cons_zero,List.set_cons_succ,Nat.reduceEqDiff,reduceIte,if_true,if_false,dW,ec,aP bg,aP bw,aP ao,cH,dO,LV.kill,bN];exact rfl):p:=e.mpr k
end ara
open ara in
theorem aih (k w:List Rat) (d:Nat) (C C2:List Q4) (a b:Rat) (ea eb:Bool) (na nb:Nat) (KA KB:Nat->List Rat) (f1 l2:Nat) (hd:d<=6) (ha:rl a<=100) (hb:rl b<=100) (h1k:0<k.length) (fU:k.length<=100) (jd:∀ x∈k,rl x<=100) (hK0:KA 0=k) (hK1:KA na=KB 0) (hK2:KB nb=w) (hBl:0<(KB 0).length) (agN:(KB 0).length<=100) (hBr:∀ x∈KB 0,rl x<=100) (gM:w.length<=100) (hea:(decide (a=k.getD 0 0) || decide (a=k.getD (k.length-1) 0))=ea) (heb:(decide (b=(KB 0).getD 0 0) || decide (b=(KB 0).getD ((KB 0).length-1) 0))=eb) (hna:na<=d) (yJ:nb<=d) (u9:ea=true->na=0) (hzb:eb=true->nb=0) (hTA:ea=false->∀ n,n<=na->av Tryz.prog 158 [.list 3 ((KA n).map ae),ae a] (ah (d-(na-n)))) (hTB:eb=false->∀ n,n<=nb->av Tryz.prog 158 [.list 3 ((KB n).map ae),ae b] (ah (d-(nb-n)))) (hIA:∀ n,n<na->av Tryz.prog 159 [.list 3 ((KA n).map ae),ae a] (.list 3 ((KA (n+1)).map ae))) (hIB:∀ n,n<nb->av Tryz.prog 159 [.list 3 ((KB n).map ae),ae b] (.list 3 ((KB (n+1)).map ae))) (hO:av Tryz.prog 160 [.agg [ah d,.list 3 (k.map ae),.list 12 (C.map cY)],.list 3 (w.map ae)] (.agg [ah d,.list 3 (w.map ae),.list 12 (C2.map cY)])) (pg:av Tryz.prog 161 [.list 3 (w.map ae),.cV 162 [.bW (ae a)]] (ah f1)) (pI:av Tryz.prog 161 [.list 3 (w.map ae),.cV 163 [.bW (ae b)]] (ah l2)) (hf1:d+1<=f1) (og:f1<=l2) (mG:l2<=C2.length) (lH:C2.length<=w.length):av Tryz.prog 86 [.agg [ah d,.list 3 (k.map ae),.list 12 (C.map cY)],ae a,ae b] (.agg [ah d,.list 3 ((List.replicate (d+1) a++((w.take l2).drop f1)++List.replicate (d+1) b).map ae),.list 12 (((C2.take l2).drop (f1-1-d)).map cY)]):=by
 have hpS:LV.pure (.agg [ah d,.list 3 (k.map ae),.list 12 (C.map cY)])=true:=by simp [LV.pure,aG,aW ao,aW ju]
 have wW:=et ao 3 w
 have rp:((k.length:Int)-1).toNat=k.length-1:=by omega
 have hiy:(((KB 0).length:Int)-1).toNat=(KB 0).length-1:=by omega
 have pU:=jd _ (dg (p:=k) (i:=0) J)
 have mb:=jd _ (dg (p:=k) (i:=k.length-1) J)
 have yk:=hBr _ (dg (p:=KB 0) (i:=0) J)
 have uT:=hBr _ (dg (p:=KB 0) (i:=(KB 0).length-1) J)
 have hmj:(List.replicate (d+1) a).map ae++((w.take l2).drop f1).map ae=(List.replicate (d+1) a++((w.take l2).drop f1)).map ae:=List.map_append.symm
 have ah3:((w.take l2).drop f1).length=l2-f1:=by rw [List.length_drop,List.length_take];omega
 have ayG:=vV a (k.getD 0 0) J
 have avp:=vV a (k.getD (k.length-1) 0) J
 have awb:=vV b ((KB 0).getD 0 0) J
 have azy:=vV b ((KB 0).getD ((KB 0).length-1) 0) J
 refine aN Tryz.func86 (ht:=(fun g=>LV.cP g _ (by simp [LV.pure,aG,aW ao,aW ju,-List.map_append,-List.map_drop,-List.map_take]))) ?_
 have eal:True:=trivial
 have ebl:True:=trivial
 have eap:True:=trivial
 have ebp:True:=trivial
 refine tK ?_
 refine bG ?_
 refine aA ?_
 refine bY (b:=_) rfl ai ?_
 refine bu ?_
 refine fT (fun L=>∃  (L1:St),(True)/\L=((((((((((St.mk L1.slot (hp [(3,⟨3,[.agg [ah d,.list 3 (k.map ae),.list 12 (C.map cY)]],true⟩),(4,⟨3,[ae a],true⟩),(5,⟨3,[ae b],true⟩),(6,⟨3,[.agg [.v (.int .i64 0),.v (.slice none 0 0),.v (.slice none 0 0)]],true⟩),(9,⟨3,[ae a],true⟩)])).put (some 3) (.az 3 3 0 0)).put (some 4) (.az 4 3 0 0)).put (some 5) (.az 5 3 0 0)).put (some 6) (.az 6 3 0 0)).put (some 7) (.list 3 (k.map ae))).put (some 9) (.az 9 3 0 0)).put (some 10) (bL ea)).put (some 19) (.agg [ae a,ae b])).put (some 20) (ah 0))) ?_ ?_
 ·refine aY 16 an ?_
  refine ax ?_
  try refine aH ?_
  refine cp aq (ayG) ?_
  refine ar ?_
  refine dy 28 rfl ?_ ?_<;>intro vE oN
  ·first | (have lb:bL ea=bL true:=by rw [<-hea,decide_eq_true oN,Bool.true_or]) | (have lb:bL eb=bL true:=by rw [<-heb,decide_eq_true oN,Bool.true_or])
   refine aR ?_
   try refine aH ?_
   refine a6 ?_
   exact⟨_,trivial,((aj (aj (aj (aj (aj (aj (aj (aj (aj (bz cl) cl) cl) cl) cl) cl) cl) (by first | exact lb | exact lb.symm | (refine aH ?_;first | exact lb | exact lb.symm))) cl) cl)).symm⟩
  ·first | (have lb:bL ea=bL (decide (a=k.getD (k.length-1) 0)):=by rw [<-hea,decide_eq_false oN,Bool.false_or]) | (have lb:bL eb=bL (decide (b=(KB 0).getD ((KB 0).length-1) 0)):=by rw [<-heb,decide_eq_false oN,Bool.false_or])
   refine ax ?_
   refine ak (aZ (v:=false) rfl rfl (vE) rfl) (.bin rfl rfl (ado J J)) ?_
   refine aL ?_
   try refine aH ?_
   refine cp aq (avp) ?_
   refine ax ?_
   exact⟨_,trivial,((aj (aj (aj (aj (aj (aj (aj (aj (aj (bz cl) cl) cl) cl) cl) cl) cl) (by first | exact lb | exact lb.symm | (refine aH ?_;first | exact lb | exact lb.symm))) cl) cl)).symm⟩
 ·rintro _ ⟨LR5,-,rfl⟩
  refine ar ?_
  refine fT (fun L=>∃  (L1:St),(True)/\L=((((((((St.mk L1.slot (hp [(3,⟨3,[.agg [ah d,.list 3 (k.map ae),.list 12 (C.map cY)]],true⟩),(4,⟨3,[ae a],true⟩),(5,⟨3,[ae b],true⟩),(6,⟨3,[.agg [.v (.int .i64 0),.v (.slice none 0 0),.v (.slice none 0 0)]],true⟩),(9,⟨3,[ae a],true⟩)])).put (some 3) (.az 3 3 0 0)).put (some 4) (.az 4 3 0 0)).put (some 5) (.az 5 3 0 0)).put (some 6) (.az 6 3 0 0)).put (some 7) (.list 3 ((KB 0).map ae))).put (some 19) (.agg [ae a,ae b])).put (some 20) (ah 0))) ?_ ?_
  ·refine ar ?_
   refine dJ (fun(n:Nat) L=>((((((((((St.mk L.slot (hp [(3,⟨3,[.agg [ah d,.list 3 (k.map ae),.list 12 (C.map cY)]],true⟩),(4,⟨3,[ae a],true⟩),(5,⟨3,[ae b],true⟩),(6,⟨3,[.agg [.v (.int .i64 0),.v (.slice none 0 0),.v (.slice none 0 0)]],true⟩),(9,⟨3,[ae a],true⟩)])).put (some 3) (.az 3 3 0 0)).put (some 4) (.az 4 3 0 0)).put (some 5) (.az 5 3 0 0)).put (some 6) (.az 6 3 0 0)).put (some 7) (.list 3 ((KA n).map ae))).put (some 9) (.az 9 3 0 0)).put (some 10) (bL ea)).put (some 19) (.agg [ae a,ae b])).put (some 20) (ah 0))) (fun n=>n<=na) (fun n=>na-n) 0 (Nat.zero_le _) ?_
   rintro n L2 hn
   refine aL ?_
   refine aY 10 an ?_
   refine aJ ?_
   refine dy 40 rfl ?_ ?_<;>intro ag7 tY
   ·refine aL ?_
    refine cp aq (hTA (by simpa using tY) n hn) ?_
    refine aA ?_
    refine aC rfl ?_ ?_<;>intro abL h47
    ·have lr:n<na:=by
      have h1:=tY
      rcases Nat.lt_or_ge n na with g | g
      ·exact g
      ·exfalso;omega
     have mX:=hIA n lr
     refine aA ?_
     refine cp aq (mX) ?_
     refine ax ?_
     exact iG (n+1) J
    ·obtain rfl:n=na:=by first | omega | (have:=u9 (by simpa using tY);omega)
     refine a6 ?_
     exact afO
   ·obtain rfl:n=na:=by have:=u9 tY;omega
    refine gz ?_
    exact afO
  ·rintro _ ⟨LB2,-,rfl⟩
   refine aL ?_
   refine cq (aw.kill _ 9) ?_
   refine ax ?_
   refine bG ?_
   refine aA ?_
   refine bY (b:=_) rfl ai ?_
   refine bu ?_
   refine fT (fun L=>∃  (L1:St),(True)/\L=((((((((((St.mk L1.slot (hp [(3,⟨3,[.agg [ah d,.list 3 (k.map ae),.list 12 (C.map cY)]],true⟩),(4,⟨3,[ae a],true⟩),(5,⟨3,[ae b],true⟩),(6,⟨3,[.agg [.v (.int .i64 0),.v (.slice none 0 0),.v (.slice none 0 0)]],true⟩),(9,⟨3,[ae b],true⟩)])).put (some 3) (.az 3 3 0 0)).put (some 4) (.az 4 3 0 0)).put (some 5) (.az 5 3 0 0)).put (some 6) (.az 6 3 0 0)).put (some 7) (.list 3 ((KB 0).map ae))).put (some 9) (.az 9 3 0 0)).put (some 10) (bL eb)).put (some 19) (.agg [ae a,ae b])).put (some 20) (ah 1))) ?_ ?_
   ·refine aY 16 an ?_
    refine ax ?_
    try refine aH ?_
    refine cp aq (awb) ?_
    refine ar ?_
    refine dy 28 rfl ?_ ?_<;>intro vE oN
    ·first | (have lb:bL ea=bL true:=by rw [<-hea,decide_eq_true oN,Bool.true_or]) | (have lb:bL eb=bL true:=by rw [<-heb,decide_eq_true oN,Bool.true_or])
     refine aR ?_
     try refine aH ?_
     refine a6 ?_
     exact⟨_,trivial,((aj (aj (aj (aj (aj (aj (aj (aj (aj (bz cl) cl) cl) cl) cl) cl) cl) (by first | exact lb | exact lb.symm | (refine aH ?_;first | exact lb | exact lb.symm))) cl) cl)).symm⟩
    ·first | (have lb:bL ea=bL (decide (a=k.getD (k.length-1) 0)):=by rw [<-hea,decide_eq_false oN,Bool.false_or]) | (have lb:bL eb=bL (decide (b=(KB 0).getD ((KB 0).length-1) 0)):=by rw [<-heb,decide_eq_false oN,Bool.false_or])
     refine ax ?_
     refine ak (aZ (v:=false) rfl rfl (vE) rfl) (.bin rfl rfl (ado J J)) ?_
     refine aL ?_
     try refine aH ?_
     refine cp aq (azy) ?_
     refine ax ?_
     exact⟨_,trivial,((aj (aj (aj (aj (aj (aj (aj (aj (aj (bz cl) cl) cl) cl) cl) cl) cl) (by first | exact lb | exact lb.symm | (refine aH ?_;first | exact lb | exact lb.symm))) cl) cl)).symm⟩
   ·rintro _ ⟨LR5,-,rfl⟩
    refine ar ?_
    refine fT (fun L=>∃  (L1:St),(True)/\L=((((((((St.mk L1.slot (hp [(3,⟨3,[.agg [ah d,.list 3 (k.map ae),.list 12 (C.map cY)]],true⟩),(4,⟨3,[ae a],true⟩),(5,⟨3,[ae b],true⟩),(6,⟨3,[.agg [.v (.int .i64 0),.v (.slice none 0 0),.v (.slice none 0 0)]],true⟩),(9,⟨3,[ae b],true⟩)])).put (some 3) (.az 3 3 0 0)).put (some 4) (.az 4 3 0 0)).put (some 5) (.az 5 3 0 0)).put (some 6) (.az 6 3 0 0)).put (some 7) (.list 3 (w.map ae))).put (some 19) (.agg [ae a,ae b])).put (some 20) (ah 1))) ?_ ?_
    ·refine ar ?_
     refine dJ (fun(n:Nat) L=>((((((((((St.mk L.slot (hp [(3,⟨3,[.agg [ah d,.list 3 (k.map ae),.list 12 (C.map cY)]],true⟩),(4,⟨3,[ae a],true⟩),(5,⟨3,[ae b],true⟩),(6,⟨3,[.agg [.v (.int .i64 0),.v (.slice none 0 0),.v (.slice none 0 0)]],true⟩),(9,⟨3,[ae b],true⟩)])).put (some 3) (.az 3 3 0 0)).put (some 4) (.az 4 3 0 0)).put (some 5) (.az 5 3 0 0)).put (some 6) (.az 6 3 0 0)).put (some 7) (.list 3 ((KB n).map ae))).put (some 9) (.az 9 3 0 0)).put (some 10) (bL eb)).put (some 19) (.agg [ae a,ae b])).put (some 20) (ah 1))) (fun n=>n<=nb) (fun n=>nb-n) 0 (Nat.zero_le _) ?_
     rintro n L2 hn
     refine aL ?_
     refine aY 10 an ?_
     refine aJ ?_
     refine dy 40 rfl ?_ ?_<;>intro ag7 tY
     ·refine aL ?_
      refine cp aq (hTB (by simpa using tY) n hn) ?_
      refine aA ?_
      refine aC rfl ?_ ?_<;>intro abL h47
      ·have lr:n<nb:=by
        have h1:=tY
        rcases Nat.lt_or_ge n nb with g | g
        ·exact g
        ·exfalso;omega
       have mX:=hIB n lr
       refine aA ?_
       refine cp aq (mX) ?_
       refine ax ?_
       exact iG (n+1) J
      ·obtain rfl:n=nb:=by first | omega | (have:=hzb (by simpa using tY);omega)
       refine a6 ?_
       exact afO
     ·obtain rfl:n=nb:=by have:=hzb tY;omega
      refine gz ?_
      exact afO
    ·rintro _ ⟨LB2,-,rfl⟩
     refine aL ?_
     refine cq (aw.kill _ 9) ?_
     refine ax ?_
     refine bG ?_
     refine aA ?_
     refine eF (b:=_) rfl ai ?_
     refine bq ?_
     refine cp aq (hO) ?_
     refine nj ?_
     refine mK [4] rfl rfl (.mk (caps:=[.bW (ae a)]) (.cons (.az rfl rfl rfl (ao.au _) (n6 _) (ao.pure _) rfl) .nil) (fun x hx=>by rw [List.mem_singleton.1 hx];exact⟨rfl,rfl⟩)) rfl ?_
     refine gI rfl (.cons (.pure wW) (.cons (.pure (show LV.pure (.cV 162 [.bW (ae a)])=true by simp [LV.pure,aG,ao.pure])) .nil)) (pg) ?_
     refine ak rfl jm ?_
     refine aA ?_
     refine mK [5] rfl rfl (.mk (caps:=[.bW (ae b)]) (.cons (.az rfl rfl rfl (ao.au _) (n6 _) (ao.pure _) rfl) .nil) (fun x hx=>by rw [List.mem_singleton.1 hx];exact⟨rfl,rfl⟩)) rfl ?_
     refine gI rfl (.cons (.pure wW) (.cons (.pure (show LV.pure (.cV 163 [.bW (ae b)])=true by simp [LV.pure,aG,ao.pure])) .nil)) (pI) ?_
     refine bf ?_
     refine ak rfl cB ?_
     refine ax ?_
     refine jo ((aw.cell 12 rfl (fun Z μ w cs h=>aqb 74 3 _ _ Z μ w cs h)).trans (aw.tH _ 74 3 rfl)) ?_
     refine dJ (fun(m:Nat) L=>((((((((((((St.mk L.slot (hp [(3,⟨3,[.agg [ah d,.list 3 (k.map ae),.list 12 (C.map cY)]],true⟩),(4,⟨3,[ae a],false⟩),(5,⟨3,[ae b],false⟩),(6,⟨3,[.agg [.v (.int .i64 0),.v (.slice none 0 0),.v (.slice none 0 0)]],true⟩),(11,⟨3,[.agg [ah d,.list 3 (w.map ae),.list 12 (C2.map cY)]],true⟩),(12,⟨3,[.agg [ah d,.ref 74 3 0 m,.v (.slice none 0 0)]],true⟩),(74,⟨3,(List.replicate m a).map ae,true⟩)])).put (some 3) (.az 3 3 0 0)).put (some 4) (.az 4 3 0 0)).put (some 5) (.az 5 3 0 0)).put (some 6) (.az 6 3 0 0)).put (some 7) (.list 3 (w.map ae))).put (some 11) (.az 11 3 0 0)).put (some 12) (.az 12 3 0 0)).put (some 13) (ah (f1-1))).put (some 14) (ah l2)).put (some 67) (ah (d+1))).put (some 68) (ah m))) (fun m=>m<=d+1) (fun m=>d+1-m) 0 (Nat.zero_le _) ?_
     rintro m L3 hm
     refine aA ?_
     refine aC rfl ?_ ?_<;>intro xn h69
     ·have dZ:m<d+1:=by omega
      have eal:(List.replicate m a++[a])=List.replicate (m+1) a:=by rw [List.replicate_succ']
      have eap:((List.replicate m a).map ae).take m=(List.replicate m a).map ae:=List.take_of_length_le aO
      refine bq ?_
      refine bI rfl (.fX (d:=74) (news:=[ae a]) rfl rfl rfl rfl u6 (.inl rfl) ai Tryz.underlying25 Tryz.underlying25 ko cK rfl kA (.inl ⟨73,0,_,rfl,by decide,rfl,rfl,by simp,rfl,by simp [aG,ao.pure]⟩) u6 u6 ai) ?_
      refine a6 ?_
      refine cq (aw.kill _ 73) ?_
      refine ak rfl cB ?_
      refine aJ ?_
      exact iG (m+1) J
     ·obtain rfl:m=d+1:=by omega
      have eal:True:=trivial
      have eap:((List.replicate (d+1) a).map ae).take (d+1)=(List.replicate (d+1) a).map ae:=List.take_of_length_le aO
      refine aA ?_
      refine aY 7 an ?_
      refine ax ?_
      refine ak rfl (.bin rfl rfl (show dp .add .i64 ((f1-1:Nat):Int) 1=some (.int .i64 ((f1:Nat):Int)) from (by rw [ace J,Nat.sub_add_cancel J]))) ?_
      refine ar ?_
      refine ak rfl (.agB (a:=f1) (h:=l2) ao rfl Tryz.underlying25 cK rfl rfl om om) ?_
      refine aH ?_
      refine bI rfl (.fX (d:=74) (news:=((w.take l2).drop f1).map ae) rfl rfl rfl rfl aO (.inl rfl) ai Tryz.underlying25 Tryz.underlying25 ko cK rfl kA (.inr (.inl rfl)) u6 u6 ai) ?_
      refine bq ?_
      refine ak rfl cB ?_
      refine ax ?_
      refine dJ (fun(m:Nat) L=>((((((((((((St.mk L.slot (hp [(3,⟨3,[.agg [ah d,.list 3 (k.map ae),.list 12 (C.map cY)]],true⟩),(4,⟨3,[ae a],false⟩),(5,⟨3,[ae b],false⟩),(6,⟨3,[.agg [.v (.int .i64 0),.v (.slice none 0 0),.v (.slice none 0 0)]],true⟩),(11,⟨3,[.agg [ah d,.list 3 (w.map ae),.list 12 (C2.map cY)]],true⟩),(12,⟨3,[.agg [ah d,.ref 74 3 0 (d+1+(l2-f1)+m),.v (.slice none 0 0)]],true⟩),(74,⟨3,(List.replicate (d+1) a++((w.take l2).drop f1)++List.replicate m b).map ae,true⟩)])).put (some 3) (.az 3 3 0 0)).put (some 4) (.az 4 3 0 0)).put (some 5) (.az 5 3 0 0)).put (some 6) (.az 6 3 0 0)).put (some 7) (.list 3 (w.map ae))).put (some 11) (.az 11 3 0 0)).put (some 12) (.az 12 3 0 0)).put (some 13) (ah (f1-1))).put (some 14) (ah l2)).put (some 88) (ah (d+1))).put (some 89) (ah m))) (fun m=>m<=d+1) (fun m=>d+1-m) 0 (Nat.zero_le _) ?_
      rintro m L4 hm
      refine aA ?_
      refine aC rfl ?_ ?_<;>intro ayo h90
      ·have dZ:m<d+1:=by omega
       have ebl:(List.replicate (d+1) a++((w.take l2).drop f1)++List.replicate m b)++[b]=List.replicate (d+1) a++((w.take l2).drop f1)++List.replicate (m+1) b:=by rw [List.append_assoc _ (List.replicate m b),<-List.replicate_succ']
       have ebp:((List.replicate (d+1) a++((w.take l2).drop f1)++List.replicate m b).map ae).take (d+1+(l2-f1)+m)=(List.replicate (d+1) a++((w.take l2).drop f1)++List.replicate m b).map ae:=List.take_of_length_le (by rw [List.length_map,List.length_append,List.length_append,ah3];simp)
       refine bq ?_
       refine bI rfl (.fX (d:=74) (news:=[ae b]) rfl rfl rfl rfl u6 (.inl rfl) ai Tryz.underlying25 Tryz.underlying25 ko cK rfl kA (.inl ⟨94,0,_,rfl,by decide,rfl,rfl,by simp,rfl,by simp [aG,ao.pure]⟩) u6 u6 ai) ?_
       refine a6 ?_
       refine cq (aw.kill _ 94) ?_
       refine ak rfl cB ?_
       refine aJ ?_
       exact iG (m+1) J
      ·obtain rfl:m=d+1:=by omega
       refine bu ?_
       refine ak rfl (.bin rfl rfl (wS (a:=f1-1) (b:=d) (c:=f1-1-d) J J)) ?_
       refine ar ?_
       refine ak rfl (.agB (a:=f1-1-d) (h:=l2) ju rfl Tryz.underlying137 yN rfl rfl om om) ?_
       refine bp ?_
       exact fS [74] rfl rfl rfl cs (dG cs rfl) af3 (.agg (.cons (.pure rfl) (.cons (eN (l:=(List.replicate (d+1) a++((w.take l2).drop f1)++List.replicate (d+1) b)) ao rfl rfl (by rw [List.length_append,List.length_append,ah3];simp)) (.cons (.pure (et ju 12 _)) .nil))))
theorem akY (k:List Rat) (t:Rat):∀ i,i<=k.length->fp k t i=(k.take i).count t
 | 0,_=>by simp [fp]
 | i+1,h=>by
  rw [fp,akY k t i J,<-aal (show i<k.length by omega),List.count_append,List.count_singleton]
  congr 1
  by_cases e:k.getD i 0=t
  ·rw [if_pos e,if_pos (by simpa using e)]
  ·rw [if_neg e,if_neg (by simpa using e)]
theorem apG (k:List Rat) (t:Rat):fp k t k.length=k.count t:=by
 rw [akY k t _ (Nat.le_refl _),List.take_length]
def kq (d:Nat) (x a b y:Rat) (m n:Nat):List Rat:=(List.replicate (d+1) x++List.replicate m a)++(List.replicate n b++List.replicate (d+1) y)
section
variable (d:Nat) (x a b y:Rat) (m n:Nat)
theorem n8:(kq d x a b y m n).length=2*(d+1)+m+n:=by simp [kq];omega
theorem aAr:kq d x a b y 0 0=bl d x y:=by simp [kq,bl]
theorem fM (i:Nat) (h:i<2*(d+1)+m+n):(kq d x a b y m n).getD i 0=if i<d+1 then x else if i<d+1+m then a else if i<d+1+m+n then b else y:=by
 have l1:(List.replicate (d+1) x++List.replicate m a).length=d+1+m:=by simp
 unfold kq
 by_cases h1:i<d+1
 ·rw [if_pos h1,vk (by rw [l1];omega),vk (by simpa using h1),r7 h1]
 ·rw [if_neg h1]
  by_cases h2:i<d+1+m
  ·rw [if_pos h2,vk (by rw [l1];omega),vc bm,List.length_replicate,r7 J]
  ·rw [if_neg h2,vc (by rw [l1];omega),l1]
   by_cases h3:i<d+1+m+n
   ·rw [if_pos h3,vk bm,r7 J]
   ·rw [if_neg h3,vc bm,List.length_replicate,r7 J]
theorem ao4:(kq d x a b y m 0).take (d+1+m)++a :: (kq d x a b y m 0).drop (d+1+m)=kq d x a b y (m+1) 0:=by
 have l1:(List.replicate (d+1) x++List.replicate m a).length=d+1+m:=by simp
 unfold kq
 rw [List.take_left' l1,List.drop_left' l1,List.replicate_succ' (n:=m)]
 simp
theorem aB5:(kq d x a b y m n).take (d+1+m+n)++b :: (kq d x a b y m n).drop (d+1+m+n)=kq d x a b y m (n+1):=by
 have e:kq d x a b y m n=((List.replicate (d+1) x++List.replicate m a)++List.replicate n b)++List.replicate (d+1) y:=by simp [kq]
 have l1:((List.replicate (d+1) x++List.replicate m a)++List.replicate n b).length=d+1+m+n:=by simp;omega
 rw [e,List.take_left' l1,List.drop_left' l1]
 unfold kq
 rw [List.replicate_succ' (n:=n)]
 simp
theorem yB {R:Nat} (h1:rl x<=R) (h2:rl a<=R) (h3:rl b<=R) (h4:rl y<=R):∀ t∈kq d x a b y m n,rl t<=R:=fun t ht=>by
 simp only [kq,List.mem_append,List.mem_replicate] at ht
 rcases ht with(⟨_,rfl⟩ | ⟨_,rfl⟩) | ⟨_,rfl⟩ | ⟨_,rfl⟩<;>assumption
end
theorem apE {d:Nat} {x a b y:Rat} (m:Nat) (h1:x≠a) (h2:a≠y):fp (kq d x a b y m 0) a (kq d x a b y m 0).length=m:=by
 rw [apG]
 simp [kq,List.count_replicate,h1,h2.symm]
theorem ax2 {d:Nat} {x a b y:Rat} (m n:Nat) (h1:x≠b) (h2:a≠b) (h3:b≠y):fp (kq d x a b y m n) b (kq d x a b y m n).length=n:=by
 rw [apG]
 simp [kq,List.count_replicate,h1,h2,h3.symm]
theorem apA {d:Nat} {x a b y:Rat} {m n i:Nat} (hm:m=0/\a=x\/m=d) (hn:n=0/\b=y\/n=d) (hi:i<=d):((kq d x a b y m n).drop (m+i+1)).take d=List.replicate (d-i) a++List.replicate i b:=by
 have eL:(List.replicate (d+1) x++List.replicate m a).drop (m+1)=List.replicate d a:=by
  rcases hm with⟨rfl,rfl⟩ | rfl
  ·simp
  ·rw [List.drop_left' aO]
 have eR:(List.replicate n b++List.replicate (d+1) y).take i=List.replicate i b:=by
  rcases hn with⟨rfl,rfl⟩ | rfl
  ·simp;omega
  ·rw [List.take_append_of_le_length (by simpa using hi)];simp;omega
 have e1:(kq d x a b y m n).drop (m+1)=List.replicate d a++(List.replicate n b++List.replicate (d+1) y):=by
  unfold kq
  rw [List.drop_append_of_le_length bm,eL]
 rw [show m+i+1=(m+1)+i by omega,<-List.drop_drop,e1,List.drop_append_of_le_length (by simpa using hi),List.drop_replicate,List.take_append,List.take_of_length_le aO,List.length_replicate,show d-(d-i)=i by omega,eR]
theorem ael {d:Nat} {x y:Rat} {v args:List Rat} (hv:v.length=d+1):da (bl d x y) d d v args=vP d x y v args:=by
 have e0:(v.drop (d-d)).take (d+1)=v:=by rw [Nat.sub_self,List.drop_zero,List.take_of_length_le J]
 have key:∀ r,r<=d->cr (gF (bl d x y) d d args) v r=uf (fun t=>(t-x)/(y-x)) args v r:=by
  intro r
  induction r with
  | zero=>exact fun _=>rfl
  | succ r ih =>
   intro hr
   rw [cr,uf,ih J]
   refine ab0 (by rw [r9,afd]) fun i hi=>?_
   rw [r9,ab5,hv] at hi
   rw [vj _ _ _ _ (by rw [ab5,hv];exact hi),agM _ _ _ _ (by rw [ab5,hv];exact hi)]
   by_cases g:r<i
   ·rw [if_pos g,if_pos g]
    have e:gF (bl d x y) d d args r i=(args.getD r 0-x)/(y-x):=by
     unfold gF
     rw [fR _ _ _ _ J,fR _ _ _ _ J,if_pos J,if_neg J]
    rw [e]
   ·rw [if_neg g,if_neg g]
 unfold da vP
 rw [e0,key d (Nat.le_refl _)]
theorem aCe {d:Nat} {x y:Rat} {C:List Q4} {args:List Rat} (hC:C.length=d+1):lK (bl d x y) d d C args=pol d x y C args:=by
 unfold lK pol
 rw [ael (by simpa using hC),ael (by simpa using hC),ael (by simpa using hC),ael (by simpa using hC)]
def acC (d:Nat) (x y:Rat) (C:List Q4) (a b:Rat):List Q4:=(List.range (d+1)).map fun i=>pol d x y C (List.replicate (d-i) a++List.replicate i b)
theorem avv {d:Nat} {x y:Rat} (h6:d<=6) (hxy:x<y) (hx:rl x<=100) (hy:rl y<=100):tx (bl d x y) d d where
 d6:=h6
 kl:=by rw [jV];omega
 kr:=aaG hx hy
 x9:=fun i j qF hj=>by
  rw [jV] at hj
  rw [fR _ _ _ _ J,fR _ _ _ _ hj]
  split<;>split<;>first | grind | (exfalso;omega)
 p1:=Nat.le_refl _
 p2:=by rw [jV];omega
 lt:=by rw [fR _ _ _ _ J,fR _ _ _ _ J,if_pos J,if_neg J];exact hxy
def dX (q:Q4):aF:=⟨⟨q.x/q.w,q.y/q.w,q.z/q.w⟩,q.w⟩
theorem aCE (d:Nat) (x y a b:Rat) (C:List Q4) (R:Nat) (h1:1<=d) (h6:d<=6) (hxa:x<=a) (cu:a<b) (jE:b<=y) (hx:rl x<=64) (hy:rl y<=64) (ha:rl a<=64) (hb:rl b<=64) (hC:C.length=d+1) (eJ:1<=R) (hR:R<=10000000) (jw:∀ q∈C,nR R q) :
  av Tryz.prog 86 [.agg [ah d,.list 3 ((bl d x y).map ae),.list 12 (C.map cY)],ae a,ae b] (.agg [ah d,.list 3 ((bl d a b).map ae),.list 12 ((acC d x y C a b).map cY)]):=by
 obtain⟨m,hm⟩:∃ m,(m=0/\a=x)\/(m=d/\a≠x):=by
  by_cases e:a=x
  ·exact⟨0,.inl ⟨rfl,e⟩⟩
  ·exact⟨d,.inr ⟨rfl,e⟩⟩
 obtain⟨n,hn⟩:∃ n,(n=0/\b=y)\/(n=d/\b≠y):=by
  by_cases e:b=y
  ·exact⟨0,.inl ⟨rfl,e⟩⟩
  ·exact⟨d,.inr ⟨rfl,e⟩⟩
 have yC:m<=d:=by omega
 have hnd:n<=d:=by omega
 have hma:0<m->x<a:=fun h=>by
  rcases hm with e | e
  ·omega
  ·have:=e.2;grind
 have yJ:0<n->b<y:=fun h=>by
  rcases hn with e | e
  ·omega
  ·have:=e.2;grind
 have lf:∀ p q,∀ t∈kq d x a b y p q,rl t<=64:=fun p q=>yB d x a b y p q hx ha hb hy
 have gU:=n8 d x a b y m n
 have hTA:decide (a=x)=false->∀ j,j<=m->av Tryz.prog 158 [.list 3 ((kq d x a b y j 0).map ae),ae a] (ah (d-(m-j))):=fun hh j hj=>by
  have aQ:a≠x:=by simpa using hh
  have:=aeP (kq d x a b y j 0) (by rw [n8];omega) (fun t ht=>Nat.le_trans (lf j 0 t ht) ai) a J
  rw [apE j (fun e=>aQ e.symm) cA] at this
  rwa [show d-(m-j)=j by rcases hm with e | e;exact absurd e.2 aQ;omega]
 have hTB:decide (b=y)=false->∀ j,j<=n->av Tryz.prog 158 [.list 3 ((kq d x a b y m j).map ae),ae b] (ah (d-(n-j))):=fun hh j hj=>by
  have aQ:b≠y:=by simpa using hh
  have:=aeP (kq d x a b y m j) (by rw [n8];omega) (fun t ht=>Nat.le_trans (lf m j t ht) ai) b J
  rw [ax2 m j cA cA aQ] at this
  rwa [show d-(n-j)=j by rcases hn with e | e;exact absurd e.2 aQ;omega]
 have hIA:∀ j,j<m->av Tryz.prog 159 [.list 3 ((kq d x a b y j 0).map ae),ae a] (.list 3 ((kq d x a b y (j+1) 0).map ae)):=fun j hj=>by
  have aEn:=hma J
  have:=ahn (kq d x a b y j 0) a (d+1+j) (by rw [n8];omega) (by rw [n8];omega) (fun t ht=>Nat.le_trans (lf j 0 t ht) ai) J (fun i hi=>by
   rw [fM _ _ _ _ _ _ _ _ J]
   split
   ·exact hxa
   ·first | exact Rat.le_refl | (rw [if_pos hi];exact Rat.le_refl)) (by
   rw [fM _ _ _ _ _ _ _ _ J,if_neg J,if_neg J,if_neg J];grind)
  rwa [ao4] at this
 have hIB:∀ j,j<n->av Tryz.prog 159 [.list 3 ((kq d x a b y m j).map ae),ae b] (.list 3 ((kq d x a b y m (j+1)).map ae)):=fun j hj=>by
  have af0:=yJ J
  have:=ahn (kq d x a b y m j) b (d+1+m+j) (by rw [n8];omega) (by rw [n8];omega) (fun t ht=>Nat.le_trans (lf m j t ht) ai) J (fun i hi=>by
   rw [fM _ _ _ _ _ _ _ _ J]
   split
   ·grind
   ·split
    ·grind
    ·first | exact Rat.le_refl | (rw [if_pos hi];exact Rat.le_refl)) (by
   rw [fM _ _ _ _ _ _ _ _ J,if_neg J,if_neg J,if_neg J];exact af0)
  rwa [aB5] at this
 have hI:∀ j,j<d+1+m+n->∃ r,j<=r/\r+1<2*(d+1)+m+n/\(kq d x a b y m n).getD r 0<(kq d x a b y m n).getD (r+1) 0/\(∀ i,j<=i->i<r->¬(kq d x a b y m n).getD i 0<(kq d x a b y m n).getD (i+1) 0)/\x<=(kq d x a b y m n).getD r 0/\(kq d x a b y m n).getD r 0<y:=fun j hj=>by
  by_cases c1:j<=d
  ·refine⟨d,c1,J,?_,fun i h2 h3=>?_,?_,?_⟩
   ·rw [fM _ _ _ _ _ _ _ _ J,fM _ _ _ _ _ _ _ _ J,if_pos J,if_neg J]
    split
    ·exact hma J
    ·split<;>grind
   ·rw [fM _ _ _ _ _ _ _ _ J,fM _ _ _ _ _ _ _ _ J,if_pos J,if_pos J];grind
   ·rw [fM _ _ _ _ _ _ _ _ J,if_pos J];exact Rat.le_refl
   ·rw [fM _ _ _ _ _ _ _ _ J,if_pos J];grind
  ·by_cases c2:j<=d+m
   ·refine⟨d+m,c2,J,?_,fun i h2 h3=>?_,?_,?_⟩
    ·rw [fM _ _ _ _ _ _ _ _ J,fM _ _ _ _ _ _ _ _ J,if_neg J,if_pos J,if_neg J,if_neg J]
     split<;>grind
    ·rw [fM _ _ _ _ _ _ _ _ J,fM _ _ _ _ _ _ _ _ J,if_neg J,if_pos J,if_neg J,if_pos J];grind
    ·rw [fM _ _ _ _ _ _ _ _ J,if_neg J,if_pos J];exact hxa
    ·rw [fM _ _ _ _ _ _ _ _ J,if_neg J,if_pos J];grind
   ·have af0:=yJ J
    refine⟨d+m+n,J,J,?_,fun i h2 h3=>?_,?_,?_⟩
    ·rw [fM _ _ _ _ _ _ _ _ J,fM _ _ _ _ _ _ _ _ J,if_neg J,if_neg J,if_pos J,if_neg J,if_neg J,if_neg J];exact af0
    ·rw [fM _ _ _ _ _ _ _ _ J,fM _ _ _ _ _ _ _ _ J,if_neg J,if_neg J,if_pos J,if_neg J,if_neg J,if_pos J];grind
    ·rw [fM _ _ _ _ _ _ _ _ J,if_neg J,if_neg J,if_pos J];grind
    ·rw [fM _ _ _ _ _ _ _ _ J,if_neg J,if_neg J,if_pos J];exact af0
 obtain⟨I,hI⟩:∃ I:Nat->Nat,∀ j,j<d+1+m+n->j<=I j/\I j+1<2*(d+1)+m+n/\(kq d x a b y m n).getD (I j) 0<(kq d x a b y m n).getD (I j+1) 0/\(∀ i,j<=i->i<I j->¬(kq d x a b y m n).getD i 0<(kq d x a b y m n).getD (i+1) 0)/\x<=(kq d x a b y m n).getD (I j) 0/\(kq d x a b y m n).getD (I j) 0<y :=
  ⟨fun j=>if h:j<d+1+m+n then(hI j h).choose else 0,fun j h=>by simp only [h,dif_pos];exact(hI j h).choose_spec⟩
 have hrW:∀ i,i<2*(d+1)+m+n->rl ((kq d x a b y m n).getD i 0)<=64:=fun i hi=>lf m n _ (dg (by rw [gU];exact hi))
 have hO:=als (bl d x y) (kq d x a b y m n) d (d+1+m+n) C R I (fun _=>d) J mo mo (fun t ht=>Nat.le_trans (lf m n t ht) ai) (by rw [jV,hC];omega) eJ hR jw (fun j hj=>by rw [gU];have:=(hI j hj).2.1;omega)
  (fun j hj=>avv h6 cA J J)
  (fun j hj=>ajx (kq d x a b y m n) j (I j) mo (fun t ht=>Nat.le_trans (lf m n t ht) ai) (hI j hj).1 (by rw [gU];exact(hI j hj).2.1) (hI j hj).2.2.1 (hI j hj).2.2.2.1)
  (fun j hj=>awW d x y _ h6 J J (by have:=hrW (I j) (by have:=(hI j hj).2.1;omega);omega) (hI j hj).2.2.2.2.1 (hI j hj).2.2.2.2.2)
 have pg:av Tryz.prog 161 [.list 3 ((kq d x a b y m n).map ae),.cV 162 [.bW (ae a)]] (ah (d+1+m)):=by
  have:=agd 162 [.bW (ae a)] (by simp [aG,LV.pure,ao.pure]) (fun x hx=>by rw [List.mem_singleton.1 hx];exact⟨rfl,rfl⟩) (fun t=>decide (fh t a > 0)) (kq d x a b y m n) mo (fun t ht=>aoM a t (by have:=lf m n t ht;omega))
  rwa [abR (i:=d+1+m) mo (fun j hj=>by
   have e:(kq d x a b y m n).getD j default=(kq d x a b y m n).getD j 0:=rfl
   rw [e,fM _ _ _ _ _ _ _ _ J]
   refine decide_eq_false fun hh=>?_
   have hh:=rf.1 hh
   split at hh
   ·grind
   ·first | grind | (rw [if_pos hj] at hh;grind)) (by
   have e:(kq d x a b y m n).getD (d+1+m) default=(kq d x a b y m n).getD (d+1+m) 0:=rfl
   rw [e,fM _ _ _ _ _ _ _ _ J,if_neg J,if_neg J]
   refine decide_eq_true (rf.2 ?_)
   split<;>grind)] at this
 have pI:av Tryz.prog 161 [.list 3 ((kq d x a b y m n).map ae),.cV 163 [.bW (ae b)]] (ah (d+1+m)):=by
  have:=agd 163 [.bW (ae b)] (by simp [aG,LV.pure,ao.pure]) (fun x hx=>by rw [List.mem_singleton.1 hx];exact⟨rfl,rfl⟩) (fun t=>decide (fh t b>=0)) (kq d x a b y m n) mo (fun t ht=>aqC b t (by have:=lf m n t ht;omega))
  rwa [abR (i:=d+1+m) mo (fun j hj=>by
   have e:(kq d x a b y m n).getD j default=(kq d x a b y m n).getD j 0:=rfl
   rw [e,fM _ _ _ _ _ _ _ _ J]
   refine decide_eq_false fun hh=>?_
   have hh:=sM.1 hh
   split at hh
   ·grind
   ·first | grind | (rw [if_pos hj] at hh;grind)) (by
   have e:(kq d x a b y m n).getD (d+1+m) default=(kq d x a b y m n).getD (d+1+m) 0:=rfl
   rw [e,fM _ _ _ _ _ _ _ _ J,if_neg J,if_neg J]
   refine decide_eq_true (sM.2 ?_)
   split<;>grind)] at this
 have mG:=n8 d x a b y m 0
 have pU:(kq d x a b y m 0).getD 0 0=x:=by rw [fM _ _ _ _ _ _ _ _ J,if_pos J]
 have mb:(kq d x a b y m 0).getD ((kq d x a b y m 0).length-1) 0=y:=by rw [mG,fM _ _ _ _ _ _ _ _ J,if_neg J,if_neg J,if_neg J]
 have main:=aih (bl d x y) (kq d x a b y m n) d C _ a b (decide (a=x)) (decide (b=y)) m n (fun j=>kq d x a b y j 0) (fun j=>kq d x a b y m j) (d+1+m) (d+1+m) h6 J J (by rw [jV];omega) (by rw [jV];omega) (fun t ht=>Nat.le_trans (aaG hx hy t ht) ai)
  (aAr d x a b y) rfl rfl (by show 0<(kq d x a b y m 0).length;rw [mG];omega) (by show (kq d x a b y m 0).length<=100;rw [mG];omega) (fun t ht=>Nat.le_trans (lf m 0 t ht) ai) mo
  (by rw [xi,jV,aar,decide_eq_false (show ¬a=y by grind),Bool.or_false]) (by show (decide (b=(kq d x a b y m 0).getD 0 0) || decide (b=(kq d x a b y m 0).getD ((kq d x a b y m 0).length-1) 0))=_;rw [pU,mb,decide_eq_false (show ¬b=x by grind),Bool.false_or]) yC hnd
  (fun h=>by have:=of_decide_eq_true h;rcases hm with e | e<;>grind) (fun h=>by have:=of_decide_eq_true h;rcases hn with e | e<;>grind) hTA hTB hIA hIB hO pg pI J (Nat.le_refl _) aO (by rw [gU];simp;omega)
 have e1:((kq d x a b y m n).take (d+1+m)).drop (d+1+m)=[]:=List.drop_of_length_le (by rw [List.length_take];exact Nat.min_le_left _ _)
 have e2:((((List.range (d+1+m+n)).map fun j=>lK (bl d x y) d ((fun _=>d) j) C (((kq d x a b y m n).drop (j+1)).take d)).take (d+1+m)).drop (d+1+m-1-d))=acC d x y C a b:=by
  unfold acC
  refine List.ext_getElem (by first | (simp;done) | (simp;omega)) fun i h1 h2=>?_
  have hi:i<d+1:=by simpa using h2
  simp only [List.getElem_drop,List.getElem_take,List.getElem_map,List.getElem_range]
  rw [show d+1+m-1-d+i=m+i by omega,aCe hC,apA (by rcases hm with e | e;exact .inl e;exact .inr e.1) (by rcases hn with e | e;exact .inl e;exact .inr e.1) J]
 rw [e1,e2,List.append_nil] at main
 exact main
def bO (d:Nat) (a t b:Rat):List Rat:=kq d a t t b 1 0
theorem nL (d:Nat) (a t b:Rat):(bO d a t b).length=2*d+3:=by rw [bO,n8];omega
theorem dT (d:Nat) (a t b:Rat) (i:Nat) (h:i<2*d+3):(bO d a t b).getD i 0=if i<d+1 then a else if i<d+2 then t else b:=by
 rw [bO,fM _ _ _ _ _ _ _ _ J]
 by_cases h1:i<d+1
 ·rw [if_pos h1,if_pos h1]
 ·rw [if_neg h1,if_neg h1]
  by_cases h2:i<d+1+1
  ·rw [if_pos h2,if_pos J]
  ·rw [if_neg h2]
theorem aa7 {d:Nat} {a t b:Rat} {R:Nat} (h1:rl a<=R) (h2:rl t<=R) (h3:rl b<=R):∀ x∈bO d a t b,rl x<=R:=yB d a t t b 1 0 h1 h2 h2 h3
theorem asi {d:Nat} {a t b:Rat} (h6:d<=6) (bV:a<t) (df:t<b) (ha:rl a<=100) (ht:rl t<=100) (hb:rl b<=100) {p:Nat} (hp:p=d\/p=d+1) (kh:1<=d):tx (bO d a t b) d p where
 d6:=h6
 kl:=by rw [nL];omega
 kr:=aa7 ha ht hb
 x9:=fun i j qF hj=>by
  rw [nL] at hj
  rw [dT _ _ _ _ _ J,dT _ _ _ _ _ hj]
  by_cases i1:i<d+1<;>by_cases i2:i<d+2<;>by_cases j1:j<d+1<;>by_cases j2:j<d+2<;>simp only [i1,i2,j1,j2,if_true,if_false]<;>first | exact Rat.le_refl | grind | (exfalso;omega)
 p1:=by omega
 p2:=by rw [nL];omega
 lt:=by
  rcases hp with rfl | rfl
  ·rw [dT _ _ _ _ _ J,dT _ _ _ _ _ J,if_pos J,if_neg J,if_pos J];exact bV
  ·rw [dT _ _ _ _ _ J,dT _ _ _ _ _ J,if_neg J,if_pos J,if_neg J,if_neg J];exact df
def ks (d:Nat) (a t b:Rat) (C:List Q4):List Q4:=(List.range (d+1)).map fun j=>lK (bO d a t b) d d C (List.replicate (d-j) a++List.replicate j t)
def jY (d:Nat) (a t b:Rat) (C:List Q4):List Q4:=(List.range (d+1)).map fun i=>lK (bO d a t b) d (if i=0 then d else d+1) C (List.replicate (d-i) t++List.replicate i b)
theorem ayR {d:Nat} {a t b:Rat} {j:Nat} (hj:j<=d):((kq d a t t b d 0).drop (j+1)).take d=List.replicate (d-j) a++List.replicate j t:=by
 have e1:(kq d a t t b d 0).drop (j+1)=List.replicate (d-j) a++(List.replicate d t++List.replicate (d+1) b):=by
  have:kq d a t t b d 0=List.replicate (d+1) a++(List.replicate d t++List.replicate (d+1) b):=by simp [kq]
  rw [this,List.drop_append_of_le_length bm,List.drop_replicate,show d+1-(j+1)=d-j by omega]
 rw [e1,List.take_append,List.take_of_length_le aO,List.length_replicate,show d-(d-j)=j by omega,List.take_append_of_le_length (by simpa using hj),List.take_replicate,Nat.min_eq_left hj]
theorem ald (d:Nat) (a t b:Rat) (C:List Q4) (R:Nat) (h1:1<=d) (h6:d<=6) (bV:a<t) (df:t<b) (ha:rl a<=64) (ht:rl t<=64) (hb:rl b<=64) (hC:C.length=d+2) (eJ:1<=R) (hR:R<=10000000) (jw:∀ q∈C,nR R q):av Tryz.prog 160 [.agg [ah d,.list 3 ((bO d a t b).map ae),.list 12 (C.map cY)],.list 3 ((kq d a t t b d 0).map ae)] (.agg [ah d,.list 3 ((kq d a t t b d 0).map ae),.list 12 (((List.range (2*d+1)).map fun j=>lK (bO d a t b) d ((fun j=>if j<=d then d else d+1) j) C (((kq d a t t b d 0).drop (j+1)).take d)).map cY)]):=by
 have gU:(kq d a t t b d 0).length=2*(d+1)+d+0:=n8 d a t t b d 0
 have lf:∀ x∈(kq d a t t b d 0),rl x<=64:=yB d a t t b d 0 ha ht ht hb
 have g:∀ i,i<2*(d+1)+d+0->(kq d a t t b d 0).getD i 0=if i<d+1 then a else if i<d+1+d then t else b:=fun i hi=>by
  rw [fM _ _ _ _ _ _ _ _ hi]
  split
  ·rfl
  ·split
   ·rfl
   ·rw [if_neg J]
 refine als (bO d a t b) (kq d a t t b d 0) d (2*d+1) C R (fun j=>if j<=d then d else 2*d) (fun j=>if j<=d then d else d+1) J mo mo (fun x hx=>Nat.le_trans (lf x hx) ai) (by rw [nL,hC];omega) eJ hR jw (fun j hj=>by rw [gU];show (if j<=d then d else 2*d)<_;split<;>omega)
  (fun j hj=>asi h6 bV df J J J (by show (if j<=d then d else d+1)=d\/_;split<;>simp) h1) (fun j hj=>?_) (fun j hj=>?_)
 ·by_cases c:j<=d
  ·rw [if_pos c]
   exact ajx (kq d a t t b d 0) j d mo (fun x hx=>Nat.le_trans (lf x hx) ai) c mo (by rw [g _ J,g _ J,if_pos J,if_neg J,if_pos J];exact bV) (fun i q1 q2=>by rw [g _ J,g _ J,if_pos J,if_pos J];grind)
  ·rw [if_neg c]
   exact ajx (kq d a t t b d 0) j (2*d) mo (fun x hx=>Nat.le_trans (lf x hx) ai) J mo (by rw [g _ J,g _ J,if_neg J,if_pos J,if_neg J,if_neg J];exact df) (fun i q1 q2=>by rw [g _ J,g _ J,if_neg J,if_pos J,if_neg J,if_pos J];grind)
 ·have e0:(bO d a t b).getD 0 0=a:=by rw [dT _ _ _ _ _ J,if_pos J]
  have e1:(bO d a t b).getD ((bO d a t b).length-1) 0=b:=by rw [nL,dT _ _ _ _ _ J,if_neg J,if_neg J]
  have pe:∀ x∈(bO d a t b),rl x<=64:=aa7 ha ht hb
  by_cases c:j<=d
  ·rw [if_pos c,if_pos c,g _ J,if_pos J]
   exact ama d (bO d a t b) a d (by rw [nL];omega) (fun x hx=>Nat.le_trans (pe x hx) ai) J (by rw [e0];exact Rat.le_refl) (by rw [e1];grind) (by rw [nL];omega) (by rw [dT _ _ _ _ _ J,dT _ _ _ _ _ J,if_pos J,if_neg J,if_pos J];exact bV)
    (fun i q1 q2=>by rw [dT _ _ _ _ _ J,if_pos J];exact Rat.le_refl) (.inl (by rw [dT _ _ _ _ _ J,if_neg J,if_pos J];exact bV))
  ·rw [if_neg c,if_neg c,g _ J,if_neg J,if_pos J]
   exact ama d (bO d a t b) t (d+1) (by rw [nL];omega) (fun x hx=>Nat.le_trans (pe x hx) ai) J (by rw [e0];grind) (by rw [e1];grind) (by rw [nL];omega) (by rw [dT _ _ _ _ _ J,dT _ _ _ _ _ J,if_neg J,if_pos J,if_neg J,if_neg J];exact df)
    (fun i q1 q2=>by
     rw [dT _ _ _ _ _ J]
     split
     ·grind
     ·rw [if_pos J];exact Rat.le_refl) (.inl (by rw [dT _ _ _ _ _ J,if_neg J,if_neg J];exact df))
theorem amg (d:Nat) (a t b:Rat) (C:List Q4) (R:Nat) (h1:1<=d) (h6:d<=6) (bV:a<t) (df:t<b) (ha:rl a<=64) (ht:rl t<=64) (hb:rl b<=64) (hC:C.length=d+2) (eJ:1<=R) (hR:R<=10000000) (jw:∀ q∈C,nR R q) (j:Nat) (hj:j<=d-1):av Tryz.prog 158 [.list 3 ((kq d a t t b (1+j) 0).map ae),ae t] (ah (d-(d-1-j))):=by
 have:=aeP (kq d a t t b (1+j) 0) (by rw [n8];omega) (fun x hx=>Nat.le_trans (yB d a t t b (1+j) 0 ha ht ht hb x hx) ai) t J
 rw [apE (1+j) cA cA] at this
 rwa [show d-(d-1-j)=1+j by omega]
theorem akA (d:Nat) (a t b:Rat) (C:List Q4) (R:Nat) (h1:1<=d) (h6:d<=6) (bV:a<t) (df:t<b) (ha:rl a<=64) (ht:rl t<=64) (hb:rl b<=64) (hC:C.length=d+2) (eJ:1<=R) (hR:R<=10000000) (jw:∀ q∈C,nR R q) (j:Nat) (hj:j<d-1):av Tryz.prog 159 [.list 3 ((kq d a t t b (1+j) 0).map ae),ae t] (.list 3 ((kq d a t t b (1+(j+1)) 0).map ae)):=by
 have:=ahn (kq d a t t b (1+j) 0) t (d+1+(1+j)) (by rw [n8];omega) (by rw [n8];omega) (fun x hx=>Nat.le_trans (yB d a t t b (1+j) 0 ha ht ht hb x hx) ai) J (fun i hi=>by
  rw [fM _ _ _ _ _ _ _ _ J]
  split
  ·grind
  ·first | exact Rat.le_refl | (rw [if_pos hi];exact Rat.le_refl)) (by
  rw [fM _ _ _ _ _ _ _ _ J,if_neg J,if_neg J,if_neg J];exact df)
 rw [ao4] at this
 rwa [show 1+(j+1)=1+j+1 by omega]
theorem arL (d:Nat) (a t b:Rat) (C:List Q4) (R:Nat) (h1:1<=d) (h6:d<=6) (bV:a<t) (df:t<b) (ha:rl a<=64) (ht:rl t<=64) (hb:rl b<=64) (hC:C.length=d+2) (eJ:1<=R) (hR:R<=10000000) (jw:∀ q∈C,nR R q) (x:Rat) (hx:x=a\/x=t):av Tryz.prog 161 [.list 3 ((kq d a t t b d 0).map ae),.cV 162 [.bW (ae x)]] (ah (if x=a then d+1 else 2*d+1)):=by
 have gU:(kq d a t t b d 0).length=2*(d+1)+d+0:=n8 d a t t b d 0
 have lf:∀ x∈(kq d a t t b d 0),rl x<=64:=yB d a t t b d 0 ha ht ht hb
 have tF:rl x<=64:=by rcases hx with rfl | rfl<;>assumption
 have:=agd 162 [.bW (ae x)] (by simp [aG,LV.pure,ao.pure]) (fun y hy=>by rw [List.mem_singleton.1 hy];exact⟨rfl,rfl⟩) (fun y=>decide (fh y x > 0)) (kq d a t t b d 0) mo (fun y hy=>aoM x y (by have:=lf y hy;omega))
 rwa [abR (i:=if x=a then d+1 else 2*d+1) (by rw [gU];split<;>omega) (fun j hj=>by
  have e:(kq d a t t b d 0).getD j default=(kq d a t t b d 0).getD j 0:=rfl
  rw [e,fM _ _ _ _ _ _ _ _ (by split at hj<;>omega)]
  refine decide_eq_false fun hh=>?_
  have hh:=rf.1 hh
  rcases hx with rfl | rfl
  ·rw [if_pos rfl] at hj
   rw [if_pos hj] at hh;grind
  ·rw [if_neg cA] at hj
   split at hh
   ·grind
   ·first | grind | (rw [if_pos J] at hh;grind)) (by
  have e:∀ j,(kq d a t t b d 0).getD j default=(kq d a t t b d 0).getD j 0:=fun _=>rfl
  rw [e]
  refine decide_eq_true (rf.2 ?_)
  rcases hx with rfl | rfl
  ·rw [if_pos rfl,fM _ _ _ _ _ _ _ _ J,if_neg J,if_pos J];exact bV
  ·rw [if_neg cA,fM _ _ _ _ _ _ _ _ J,if_neg J,if_neg J,if_neg J];exact df)] at this
theorem aoT (d:Nat) (a t b:Rat) (C:List Q4) (R:Nat) (h1:1<=d) (h6:d<=6) (bV:a<t) (df:t<b) (ha:rl a<=64) (ht:rl t<=64) (hb:rl b<=64) (hC:C.length=d+2) (eJ:1<=R) (hR:R<=10000000) (jw:∀ q∈C,nR R q) (x:Rat) (hx:x=t\/x=b):av Tryz.prog 161 [.list 3 ((kq d a t t b d 0).map ae),.cV 163 [.bW (ae x)]] (ah (if x=t then d+1 else 2*d+1)):=by
 have gU:(kq d a t t b d 0).length=2*(d+1)+d+0:=n8 d a t t b d 0
 have lf:∀ x∈(kq d a t t b d 0),rl x<=64:=yB d a t t b d 0 ha ht ht hb
 have tF:rl x<=64:=by rcases hx with rfl | rfl<;>assumption
 have:=agd 163 [.bW (ae x)] (by simp [aG,LV.pure,ao.pure]) (fun y hy=>by rw [List.mem_singleton.1 hy];exact⟨rfl,rfl⟩) (fun y=>decide (fh y x>=0)) (kq d a t t b d 0) mo (fun y hy=>aqC x y (by have:=lf y hy;omega))
 rwa [abR (i:=if x=t then d+1 else 2*d+1) (by rw [gU];split<;>omega) (fun j hj=>by
  have e:(kq d a t t b d 0).getD j default=(kq d a t t b d 0).getD j 0:=rfl
  rw [e,fM _ _ _ _ _ _ _ _ (by split at hj<;>omega)]
  refine decide_eq_false fun hh=>?_
  have hh:=sM.1 hh
  rcases hx with rfl | rfl
  ·rw [if_pos rfl] at hj
   rw [if_pos hj] at hh;grind
  ·rw [if_neg cA] at hj
   split at hh
   ·grind
   ·first | grind | (rw [if_pos J] at hh;grind)) (by
  have e:∀ j,(kq d a t t b d 0).getD j default=(kq d a t t b d 0).getD j 0:=fun _=>rfl
  rw [e]
  refine decide_eq_true (sM.2 ?_)
  rcases hx with rfl | rfl
  ·rw [if_pos rfl,fM _ _ _ _ _ _ _ _ J,if_neg J,if_pos J];exact Rat.le_refl
  ·rw [if_neg cA,fM _ _ _ _ _ _ _ _ J,if_neg J,if_neg J,if_neg J];exact Rat.le_refl)] at this
theorem aCa (d:Nat) (a t b:Rat) (C:List Q4) (R:Nat) (h1:1<=d) (h6:d<=6) (bV:a<t) (df:t<b) (ha:rl a<=64) (ht:rl t<=64) (hb:rl b<=64) (hC:C.length=d+2) (eJ:1<=R) (hR:R<=10000000) (jw:∀ q∈C,nR R q):av Tryz.prog 86 [.agg [ah d,.list 3 ((bO d a t b).map ae),.list 12 (C.map cY)],ae a,ae t] (.agg [ah d,.list 3 ((bl d a t).map ae),.list 12 ((ks d a t b C).map cY)]):=by
 have gU:(kq d a t t b d 0).length=2*(d+1)+d+0:=n8 d a t t b d 0
 have lH:=nL d a t b
 have e0:(bO d a t b).getD 0 0=a:=by rw [dT _ _ _ _ _ J,if_pos J]
 have e1:(bO d a t b).getD ((bO d a t b).length-1) 0=b:=by rw [lH,dT _ _ _ _ _ J,if_neg J,if_neg J]
 have pe:∀ x∈(bO d a t b),rl x<=64:=aa7 ha ht hb
 have pg:=arL d a t b C R h1 h6 bV df ha ht hb hC eJ hR jw a (.inl rfl)
 rw [if_pos rfl] at pg
 have pI:=aoT d a t b C R h1 h6 bV df ha ht hb hC eJ hR jw t (.inl rfl)
 rw [if_pos rfl] at pI
 have main:=aih (bO d a t b) (kq d a t t b d 0) d C ((List.range (2*d+1)).map fun j=>lK (bO d a t b) d ((fun j=>if j<=d then d else d+1) j) C (((kq d a t t b d 0).drop (j+1)).take d)) a t true false 0 (d-1) (fun _=>(bO d a t b)) (fun j=>kq d a t t b (1+j) 0) (d+1) (d+1) h6 J J (by rw [lH];omega) (by rw [lH];omega) (fun x hx=>Nat.le_trans (pe x hx) ai)
  rfl rfl (by show kq d a t t b (1+(d-1)) 0=_;rw [show 1+(d-1)=d by omega]) (by show 0<(bO d a t b).length;rw [lH];omega) (by show (bO d a t b).length<=100;rw [lH];omega) (fun x hx=>Nat.le_trans (pe x hx) ai) mo
  (by rw [e0,decide_eq_true rfl,Bool.true_or]) (by show (decide (t=(bO d a t b).getD 0 0) || decide (t=(bO d a t b).getD ((bO d a t b).length-1) 0))=_;rw [e0,e1,decide_eq_false cA,decide_eq_false cA];rfl) (Nat.zero_le _) J (fun _=>rfl) (fun h=>by cases h) (fun h=>by cases h) (fun _ j hj=>amg d a t b C R h1 h6 bV df ha ht hb hC eJ hR jw j hj) (fun j hj=>absurd hj (Nat.not_lt_zero _)) (fun j hj=>akA d a t b C R h1 h6 bV df ha ht hb hC eJ hR jw j hj)
  (ald d a t b C R h1 h6 bV df ha ht hb hC eJ hR jw) pg pI J (Nat.le_refl _) bm (by rw [gU];simp;omega)
 have f1:((kq d a t t b d 0).take (d+1)).drop (d+1)=[]:=List.drop_of_length_le (by rw [List.length_take];exact Nat.min_le_left _ _)
 have f2:((((List.range (2*d+1)).map fun j=>lK (bO d a t b) d ((fun j=>if j<=d then d else d+1) j) C (((kq d a t t b d 0).drop (j+1)).take d)).take (d+1)).drop (d+1-1-d))=ks d a t b C:=by
  unfold ks
  refine List.ext_getElem bm fun i g1 g2=>?_
  have hi:i<d+1:=by simpa using g2
  simp only [List.getElem_drop,List.getElem_take,List.getElem_map,List.getElem_range]
  rw [show d+1-1-d+i=i by omega,if_pos J,ayR J]
 rw [f1,f2,List.append_nil] at main
 exact main
theorem aAE (d:Nat) (a t b:Rat) (C:List Q4) (R:Nat) (h1:1<=d) (h6:d<=6) (bV:a<t) (df:t<b) (ha:rl a<=64) (ht:rl t<=64) (hb:rl b<=64) (hC:C.length=d+2) (eJ:1<=R) (hR:R<=10000000) (jw:∀ q∈C,nR R q):av Tryz.prog 86 [.agg [ah d,.list 3 ((bO d a t b).map ae),.list 12 (C.map cY)],ae t,ae b] (.agg [ah d,.list 3 ((bl d t b).map ae),.list 12 ((jY d a t b C).map cY)]):=by
 have gU:(kq d a t t b d 0).length=2*(d+1)+d+0:=n8 d a t t b d 0
 have lH:=nL d a t b
 have e0:(bO d a t b).getD 0 0=a:=by rw [dT _ _ _ _ _ J,if_pos J]
 have e1:(bO d a t b).getD ((bO d a t b).length-1) 0=b:=by rw [lH,dT _ _ _ _ _ J,if_neg J,if_neg J]
 have pe:∀ x∈(bO d a t b),rl x<=64:=aa7 ha ht hb
 have hwr:∀ x∈(kq d a t t b d 0),rl x<=64:=yB d a t t b d 0 ha ht ht hb
 have hw0:(kq d a t t b d 0).getD 0 0=a:=by rw [fM _ _ _ _ _ _ _ _ J,if_pos J]
 have hw1:(kq d a t t b d 0).getD ((kq d a t t b d 0).length-1) 0=b:=by rw [gU,fM _ _ _ _ _ _ _ _ J,if_neg J,if_neg J,if_neg J]
 have pg:=arL d a t b C R h1 h6 bV df ha ht hb hC eJ hR jw t (.inr rfl)
 rw [if_neg cA] at pg
 have pI:=aoT d a t b C R h1 h6 bV df ha ht hb hC eJ hR jw b (.inr rfl)
 rw [if_neg cA] at pI
 have main:=aih (bO d a t b) (kq d a t t b d 0) d C ((List.range (2*d+1)).map fun j=>lK (bO d a t b) d ((fun j=>if j<=d then d else d+1) j) C (((kq d a t t b d 0).drop (j+1)).take d)) t b false true (d-1) 0 (fun j=>kq d a t t b (1+j) 0) (fun _=>(kq d a t t b d 0)) (2*d+1) (2*d+1) h6 J J (by rw [lH];omega) (by rw [lH];omega) (fun x hx=>Nat.le_trans (pe x hx) ai)
  rfl (by show kq d a t t b (1+(d-1)) 0=_;rw [show 1+(d-1)=d by omega]) rfl mo mo (fun x hx=>Nat.le_trans (hwr x hx) ai) mo
  (by rw [e0,e1,decide_eq_false cA,decide_eq_false cA];rfl) (by rw [hw0,hw1,decide_eq_true rfl,Bool.or_true]) J (Nat.zero_le _) (fun h=>by cases h) (fun _=>rfl) (fun _ j hj=>amg d a t b C R h1 h6 bV df ha ht hb hC eJ hR jw j hj) (fun h=>by cases h) (fun j hj=>akA d a t b C R h1 h6 bV df ha ht hb hC eJ hR jw j hj) (fun j hj=>absurd hj (Nat.not_lt_zero _))
  (ald d a t b C R h1 h6 bV df ha ht hb hC eJ hR jw) pg pI J (Nat.le_refl _) aO (by rw [gU];simp;omega)
 have f1:((kq d a t t b d 0).take (2*d+1)).drop (2*d+1)=[]:=List.drop_of_length_le (by rw [List.length_take];exact Nat.min_le_left _ _)
 have f2:((((List.range (2*d+1)).map fun j=>lK (bO d a t b) d ((fun j=>if j<=d then d else d+1) j) C (((kq d a t t b d 0).drop (j+1)).take d)).take (2*d+1)).drop (2*d+1-1-d))=jY d a t b C:=by
  unfold jY
  refine List.ext_getElem bm fun i g1 g2=>?_
  have hi:i<d+1:=by simpa using g2
  simp only [List.getElem_drop,List.getElem_take,List.getElem_map,List.getElem_range]
  rw [show 2*d+1-1-d+i=d+i by omega,show kq d a t t b d 0=kq d a t b b d 0 by simp [kq],apA (.inr rfl) (.inl ⟨rfl,rfl⟩) J]
  congr 1
  by_cases c:i=0
  ·rw [if_pos c,if_pos J]
  ·rw [if_neg c,if_neg J]
 rw [f1,f2,List.append_nil] at main
 exact main
theorem azw {p q:List Rat} {R:Nat} (h:p.length-1+(q.length-1)<=40) (fv:p.length<=41) (iK:q.length<=41) (eJ:1<=R) (oQ:∀ x∈p,rl x<=R) (qy:∀ x∈q,rl x<=R):∀ x∈lX p q,rl x<=p.length*(q.length*(2*R+5))+5:=fun x hx=>by
 obtain⟨k,hk,rfl⟩:=List.mem_map.1 hx
 have hS:=abQ fv iK eJ oQ qy p.length
 have mb:=ga J hS k
 have yk:=ga (S:=2) ai (yA (n:=p.length-1+(q.length-1)) h) k
 have h3:=oH ((allM p q p.length).getD k 0) ((gX (p.length-1+(q.length-1))).getD k 0)
 omega
theorem alc {p q:List Rat} {R a b:Nat} (ha:p.length=a) (hb:q.length=b) (h1:a*b<=30) (h2:a<=6) (h3:b<=6) (eJ:1<=R) (oQ:∀ x∈p,rl x<=R) (qy:∀ x∈q,rl x<=R):∀ x∈lX p q,rl x<=60*R+155:=fun x hx=>by
 have h:=azw J J J eJ oQ qy x hx
 rw [ha,hb,<-Nat.mul_assoc] at h
 have:a*b*(2*R+5)<=30*(2*R+5):=Nat.mul_le_mul_right _ h1
 omega
structure mf (po:List aF) (d R:Nat):Prop where
 c:ke po d R
 d5:d<=5
 R1:1<=R
 R2:R<=1000
section
variable {po:List aF} {d R:Nat} (h:mf po d R)
include h
theorem mf.n (k:Nat):(bj po k).length=d+1/\∀ x∈bj po k,rl x<=2*R:=⟨by rw [n9,h.c.hl],acF h.c.ok k⟩
theorem mf.w:(aX po).length=d+1/\∀ x∈aX po,rl x<=R:=⟨by rw [mD,h.c.hl],acI h.c.ok⟩
theorem mf.dn (k:Nat):(gh (bj po k)).length=d/\∀ x∈gh (bj po k),rl x<=4*R+4:=by
 obtain⟨h1,h2⟩:=h.n k
 have:=h.c.hd
 have:=h.d5
 have:=h.R1
 exact⟨by rw [aaB,h1,if_neg J];omega,fun x hx=>Nat.le_trans (ad4 J J h2 x hx) J⟩
theorem mf.dw:(gh (aX po)).length=d/\∀ x∈gh (aX po),rl x<=4*R+4:=by
 obtain⟨h1,h2⟩:=h.w
 have:=h.c.hd
 have:=h.d5
 exact⟨by rw [aaB,h1,if_neg J];omega,fun x hx=>Nat.le_trans (ad4 h.R1 J h2 x hx) J⟩
theorem mf.dd:d*(d+1)<=30:=Nat.le_trans (Nat.mul_le_mul h.d5 (show d+1<=6 by have:=h.d5;omega)) ai
theorem mf.m1 (k:Nat):(lX (gh (bj po k)) (aX po)).length=2*d-1+1/\∀ x∈lX (gh (bj po k)) (aX po),rl x<=240*R+395:=by
 obtain⟨h1,h2⟩:=h.dn k
 obtain⟨h3,h4⟩:=h.w
 have:=h.c.hd
 have:=h.d5
 have h9:=h.dd
 exact⟨by rw [ya,h1,h3];omega,fun x hx=>Nat.le_trans (alc h1 h3 h9 J J J h2 (fun x hx=>Nat.le_trans (h4 x hx) J) x hx) J⟩
theorem mf.m2 (k:Nat):(lX (bj po k) (gh (aX po))).length=2*d-1+1/\∀ x∈lX (bj po k) (gh (aX po)),rl x<=240*R+395:=by
 obtain⟨h1,h2⟩:=h.n k
 obtain⟨h3,h4⟩:=h.dw
 have:=h.c.hd
 have:=h.d5
 have h9:=h.dd
 exact⟨by rw [ya,h1,h3];omega,fun x hx=>Nat.le_trans (alc h1 h3 (by rw [Nat.mul_comm];exact h9) J J J (fun x hx=>Nat.le_trans (h2 x hx) J) h4 x hx) J⟩
theorem mf.t (k:Nat):(fC po k).length=2*d-1+1/\∀ x∈fC po k,rl x<=480*R+791:=by
 obtain⟨h1,h2⟩:=h.m1 k
 obtain⟨_,h4⟩:=h.m2 k
 exact⟨by rw [fC,afA,h1],fun x hx=>Nat.le_trans (anc iq J h2 h4 x hx) J⟩
theorem mf.lo:0<(gy (aX po)).1:=by
 have hl:=mD po
 have h0:0<(aX po).length:=by rw [hl,h.c.hl];omega
 obtain⟨i,hi,e⟩:=((aeh (aX po) (aX po).length).2 h0).1
 show 0<(l7 (aX po) (aX po).length).1
 rw [e]
 obtain⟨q,hq,hw⟩:=List.mem_map.1 (dg (p:=aX po) hi)
 rw [<-hw]
 exact(h.c.ok q hq).2.2
theorem mf.sq:db (2*R) (lG (gy (aX po)))/\iW (lG (gy (aX po))) 0=false:=by
 have h0:0<(aX po).length:=by rw [mD,h.c.hl];omega
 exact⟨ayC (adX h.R1 h.w.2) h.R1,(sq_pos h.lo (ayg h0)).2⟩
theorem mf.bt (k:Nat):db (480*R+791) (gy (fC po k)):=adX J (h.t k).2
theorem mf.qu (k:Nat):db (482*R+792) (sD (gy (fC po k)) (lG (gy (aX po)))):=(arG (h.bt k) h.sq.1).le J
end
def zQ (W:Rat) (po:List aF) (k:Nat):Rat × Rat:=sD (sD (gy (fC po k)) (lG (gy (aX po)))) (W,W)
def abl (W:Rat) (po:List aF):o5:=⟨zQ W po 0,zQ W po 1,zQ W po 2⟩
theorem ayH {W:Rat} (h:W≠0):iW (W,W) 0=false:=by
 unfold iW
 rcases(show W<0\/0<W by grind) with g | g
 ·rw [decide_eq_true (by show W<=0;grind),decide_eq_false (by show ¬(0<=W);grind)];rfl
 ·rw [decide_eq_false (by show ¬(W<=0);grind)];rfl
def agW (W:Rat) (po:List aF) (x:Rat):V3:=jb (1/(W*(cN (aX po) x*cN (aX po) x))) ⟨cN (fC po 0) x,cN (fC po 1) x,cN (fC po 2) x⟩
open fP in
theorem amv (d:Nat) (kn:List Rat) (po:List aF) (R:Nat) (h:mf po d R):av Tryz.prog 185 [.agg [ah d,.list 3 (kn.map ae),.list 12 (po.map aT)]] (.agg [.list 3 ((fC po 0).map ae),.list 3 ((fC po 1).map ae),.list 3 ((fC po 2).map ae)]):=by
 have hl:=h.c.hl
 have hd:=h.c.hd
 have h6:=h.c.h6
 have h5:=h.d5
 have eJ:=h.R1
 have hR2:=h.R2
 have fG:LV.pure (.agg [ah d,.list 3 (kn.map ae),.list 12 (po.map aT)])=true:=by simp [LV.pure,aG,aW ao,aW bw]
 have w1:=h.w
 have w2:=h.dw
 have n0:=h.n 0
 have d0:=h.dn 0
 have p0a:=h.m1 0
 have p0b:=h.m2 0
 have n1:=h.n 1
 have d1:=h.dn 1
 have p1a:=h.m1 1
 have p1b:=h.m2 1
 have n2:=h.n 2
 have d2:=h.dn 2
 have p2a:=h.m1 2
 have p2b:=h.m2 2
 refine aN Tryz.func185 (ht:=(fun g=>LV.cP g _ (by simp [LV.pure,aG,aW ao]))) ?_
 refine bq ?_
 refine cp aK (aed d kn po R J h.c) ?_
 refine bf ?_
 refine cp aK (aen (aX po) J (fun x hx=>Nat.le_trans ((w1).2 x hx) J)) ?_
 refine gz ?_
 refine bG ?_
 refine aA ?_
 refine bY (b:=_) rfl ai ?_
 refine bC ?_
 refine aY 15 an ?_
 refine ax ?_
 refine cp aK (aen (bj po 0) J (fun x hx=>Nat.le_trans ((n0).2 x hx) J)) ?_
 refine aL ?_
 refine cp aq (abx (gh (bj po 0)) (aX po) (4*R+4) J J J J J (fun x hx=>Nat.le_trans ((d0).2 x hx) J) (fun x hx=>Nat.le_trans ((w1).2 x hx) J)) ?_
 refine ax ?_
 refine cp aq (abx (bj po 0) (gh (aX po)) (4*R+4) J J J J J (fun x hx=>Nat.le_trans ((n0).2 x hx) J) (fun x hx=>Nat.le_trans ((w2).2 x hx) J)) ?_
 refine cp aq (ajk _ _ (2*d-1) J p0a.1 p0b.1 (fun x hx=>Nat.le_trans ((p0a).2 x hx) J) (fun x hx=>Nat.le_trans ((p0b).2 x hx) J)) ?_
 refine bC ?_
 refine bG ?_
 refine aA ?_
 refine bY (b:=_) rfl ai ?_
 refine bC ?_
 refine aY 15 an ?_
 refine ax ?_
 refine cp aK (aen (bj po 1) J (fun x hx=>Nat.le_trans ((n1).2 x hx) J)) ?_
 refine aL ?_
 refine cp aq (abx (gh (bj po 1)) (aX po) (4*R+4) J J J J J (fun x hx=>Nat.le_trans ((d1).2 x hx) J) (fun x hx=>Nat.le_trans ((w1).2 x hx) J)) ?_
 refine ax ?_
 refine cp aq (abx (bj po 1) (gh (aX po)) (4*R+4) J J J J J (fun x hx=>Nat.le_trans ((n1).2 x hx) J) (fun x hx=>Nat.le_trans ((w2).2 x hx) J)) ?_
 refine cp aq (ajk _ _ (2*d-1) J p1a.1 p1b.1 (fun x hx=>Nat.le_trans ((p1a).2 x hx) J) (fun x hx=>Nat.le_trans ((p1b).2 x hx) J)) ?_
 refine bC ?_
 refine bG ?_
 refine aA ?_
 refine bY (b:=_) rfl ai ?_
 refine bC ?_
 refine aY 15 an ?_
 refine ax ?_
 refine cp aK (aen (bj po 2) J (fun x hx=>Nat.le_trans ((n2).2 x hx) J)) ?_
 refine aL ?_
 refine cp aq (abx (gh (bj po 2)) (aX po) (4*R+4) J J J J J (fun x hx=>Nat.le_trans ((d2).2 x hx) J) (fun x hx=>Nat.le_trans ((w1).2 x hx) J)) ?_
 refine ax ?_
 refine cp aq (abx (bj po 2) (gh (aX po)) (4*R+4) J J J J J (fun x hx=>Nat.le_trans ((n2).2 x hx) J) (fun x hx=>Nat.le_trans ((w2).2 x hx) J)) ?_
 refine cp aq (ajk _ _ (2*d-1) J p2a.1 p2b.1 (fun x hx=>Nat.le_trans ((p2a).2 x hx) J) (fun x hx=>Nat.le_trans ((p2b).2 x hx) J)) ?_
 refine bC ?_
 refine bG ?_
 refine aA ?_
 refine eF (b:=_) rfl ai ?_
 refine bu ?_
 exact fS [] rfl rfl rfl cs (dG cs rfl) alU (.pure (by simp [LV.pure,aG,aW ao]))
open fP in
theorem az1 (d:Nat) (a b:Rat) (po:List aF) (ha:rl a<=100) (hb:rl b<=100) (cu:a<b) (h9:d<=6) (R:Nat) (h:mf po d R):av Tryz.prog 100 [.agg [ah d,.list 3 ((bl d a b).map ae),.list 12 (po.map aT)]] (lN (abl (b-a) po)):=by
 have hl:=h.c.hl
 have hd:=h.c.hd
 have h6:=h.c.h6
 have h5:=h.d5
 have eJ:=h.R1
 have hR2:=h.R2
 have mN:∀ l:List Rat,aG (l.map ae)=true:=fun l=>aW ao l
 have fU:=jV d a b
 have bX:=xi d a b
 have gf:=aar d a b
 have fG:LV.pure (.agg [ah d,.list 3 ((bl d a b).map ae),.list 12 (po.map aT)])=true:=by simp [LV.pure,aG,aW ao,aW bw]
 have w1:=h.w
 have hwq:=h.sq
 have hzW:=iq b a
 have hbW:db 1000 (b-a,b-a):=⟨by show rl (b-a)<=_;omega,by show rl (b-a)<=_;omega⟩
 have hnW:iW (b-a,b-a) 0=false:=ayH cA
 have u0:=h.t 0
 have qq0:=(h.qu 0).le (show 482*R+792<=1000000 by omega)
 have bb0:=(h.bt 0).le (show 480*R+791<=1000000 by omega)
 have u1:=h.t 1
 have qq1:=(h.qu 1).le (show 482*R+792<=1000000 by omega)
 have bb1:=(h.bt 1).le (show 480*R+791<=1000000 by omega)
 have u2:=h.t 2
 have qq2:=(h.qu 2).le (show 482*R+792<=1000000 by omega)
 have bb2:=(h.bt 2).le (show 480*R+791<=1000000 by omega)
 have hD:=ad1 d a b po ha hb cu h9
 have hW:av Tryz.prog 164 [aD (a,b)] (ae (b-a)):=agX (a,b) (by show rl b+rl a<=_;omega)
 have z0:av Tryz.prog 186 [aD (sD (gy (fC po 0)) (lG (gy (aX po)))),aD (b-a,b-a)] (.a7 [aD (zQ (b-a) po 0),iL 0]):=aaL (sD (gy (fC po 0)) (lG (gy (aX po)))) (b-a,b-a) 1000000 ai qq0 (hbW.le ai) hnW
 have z1:av Tryz.prog 186 [aD (sD (gy (fC po 1)) (lG (gy (aX po)))),aD (b-a,b-a)] (.a7 [aD (zQ (b-a) po 1),iL 0]):=aaL (sD (gy (fC po 1)) (lG (gy (aX po)))) (b-a,b-a) 1000000 ai qq1 (hbW.le ai) hnW
 have z2:av Tryz.prog 186 [aD (sD (gy (fC po 2)) (lG (gy (aX po)))),aD (b-a,b-a)] (.a7 [aD (zQ (b-a) po 2),iL 0]):=aaL (sD (gy (fC po 2)) (lG (gy (aX po)))) (b-a,b-a) 1000000 ai qq2 (hbW.le ai) hnW
 refine aN Tryz.func100 (ht:=(fun r=>LV.cP r _ (xf.pure _))) ?_
 refine dk ?_
 refine cp aK (hD) ?_
 refine cp aK (hW) ?_
 refine cp aK (pF (b-a) J) ?_
 refine aR ?_
 refine cp aK (aed d (bl d a b) po R J h.c) ?_
 refine ar ?_
 refine cp aK (afT (aX po) J (fun x hx=>Nat.le_trans ((w1).2 x hx) J)) ?_
 refine cp aK (aur (gy (aX po)) R J (adX J w1.2)) ?_
 refine bf ?_
 refine cp aK (amv d (bl d a b) po R h) ?_
 refine ax ?_
 refine bG ?_
 refine aA ?_
 refine bY (b:=_) rfl ai ?_
 refine dj ?_
 refine fY 8 [6] an ?_
 refine ar ?_
 refine cp aK (afT (fC po 0) J (fun x hx=>Nat.le_trans ((u0).2 x hx) J)) ?_
 refine ar ?_
 refine cp aq (aaL (gy (fC po 0)) (lG (gy (aX po))) 1000000 ai bb0 (hwq.1.le J) hwq.2) ?_
 refine bu ?_
 refine cp aq (z0) ?_
 refine bf ?_
 refine cq (aw.kill _ 8) ?_
 refine ax ?_
 refine bG ?_
 refine aA ?_
 refine bY (b:=_) rfl ai ?_
 refine dj ?_
 refine fY 8 [6] an ?_
 refine ar ?_
 refine cp aK (afT (fC po 1) J (fun x hx=>Nat.le_trans ((u1).2 x hx) J)) ?_
 refine ar ?_
 refine cp aq (aaL (gy (fC po 1)) (lG (gy (aX po))) 1000000 ai bb1 (hwq.1.le J) hwq.2) ?_
 refine bu ?_
 refine cp aq (z1) ?_
 refine bf ?_
 refine cq (aw.kill _ 8) ?_
 refine ax ?_
 refine bG ?_
 refine aA ?_
 refine bY (b:=_) rfl ai ?_
 refine dj ?_
 refine fY 8 [6] an ?_
 refine ar ?_
 refine cp aK (afT (fC po 2) J (fun x hx=>Nat.le_trans ((u2).2 x hx) J)) ?_
 refine ar ?_
 refine cp aq (aaL (gy (fC po 2)) (lG (gy (aX po))) 1000000 ai bb2 (hwq.1.le J) hwq.2) ?_
 refine bu ?_
 refine cp aq (z2) ?_
 refine bf ?_
 refine cq (aw.kill _ 8) ?_
 refine ax ?_
 refine bG ?_
 refine aA ?_
 refine eF (b:=_) rfl ai ?_
 refine bu ?_
 exact fS [] rfl rfl rfl cs (dG cs rfl) T97 (.pure pu)
open fP in
theorem avw (d:Nat) (a b:Rat) (po:List aF) (ha:rl a<=100) (hb:rl b<=100) (cu:a<b) (h9:d<=6) (R:Nat) (h:mf po d R) (t x:Rat) (ht:rl t<=100) (h1:a<=t) (h2:t<=b) (hx:(t-a)/(b-a)=x) (tF:rl x<=1000):av Tryz.prog 104 [.agg [ah d,.list 3 ((bl d a b).map ae),.list 12 (po.map aT)],ae t] (.a7 [aS (agW (b-a) po x),iL 0]):=by
 have mO:0<po.length:=by have:=h.c.hl;omega
 have hl:=h.c.hl
 have hd:=h.c.hd
 have h6:=h.c.h6
 have h5:=h.d5
 have eJ:=h.R1
 have hR2:=h.R2
 have mN:∀ l:List Rat,aG (l.map ae)=true:=fun l=>aW ao l
 have fU:=jV d a b
 have bX:=xi d a b
 have gf:=aar d a b
 have fG:LV.pure (.agg [ah d,.list 3 ((bl d a b).map ae),.list 12 (po.map aT)])=true:=by simp [LV.pure,aG,aW ao,aW bw]
 have w1:=h.w
 have dq:HS (aX po) x:=afF J (fun y hy=>Nat.le_trans (w1.2 y hy) J) J
 have q0:=dq.ev
 have hzW:=iq b a
 have m0:=cO (cN (aX po) x) (cN (aX po) x)
 have m2:=cO (b-a) ((cN (aX po) x)*(cN (aX po) x))
 have m1:=oH 1 ((b-a)*((cN (aX po) x)*(cN (aX po) x)))
 have g8:rl 1=1:=rfl
 have u0:=h.t 0
 have v0:HS (fC po 0) x:=afF J (fun y hy=>Nat.le_trans (u0.2 y hy) J) J
 have y0:=v0.ev
 have u1:=h.t 1
 have v1:HS (fC po 1) x:=afF J (fun y hy=>Nat.le_trans (u1.2 y hy) J) J
 have y1:=v1.ev
 have u2:=h.t 2
 have v2:HS (fC po 2) x:=afF J (fun y hy=>Nat.le_trans (u2.2 y hy) J) J
 have y2:=v2.ev
 have rk:av Tryz.prog 107 [iL 1] (ae 1):=uc 1 ai ai
 refine aN Tryz.func104 (ht:=(jg (bg.pure _) rfl)) ?_
 refine bu ?_
 refine cp aq (agn d a b po ha hb cu h9 t x ht h1 h2 hx mO) ?_
 refine nn ?_
 refine aC rfl ?_ ?_<;>intro qt oL
 ·first | exact oL.elim | cases qt
 ·refine aJ ?_
  refine aY 6 an ?_
  refine ar ?_
  refine cp aK (aed d (bl d a b) po R J h.c) ?_
  refine aL ?_
  refine cp aq (aee (aX po) x dq J) ?_
  refine a6 ?_
  refine fY 11 [9] an ?_
  refine cp aK (rk) ?_
  refine aJ ?_
  refine cp aq (gr (cN (aX po) x) (cN (aX po) x) J) ?_
  refine cp aq (gr (b-a) ((cN (aX po) x)*(cN (aX po) x)) J) ?_
  refine cp aq (tT 1 ((b-a)*((cN (aX po) x)*(cN (aX po) x))) J) ?_
  refine im ?_
  refine cp aK (amv d (bl d a b) po R h) ?_
  refine ax ?_
  refine bG ?_
  refine aA ?_
  refine bY (b:=_) rfl ai ?_
  refine bu ?_
  refine aY 7 an ?_
  refine ax ?_
  refine cp aq (aee (fC po 0) x v0 J) ?_
  refine cp aq (gr (1/((b-a)*((cN (aX po) x)*(cN (aX po) x)))) (cN (fC po 0) x) J) ?_
  refine bC ?_
  refine bG ?_
  refine aA ?_
  refine bY (b:=_) rfl ai ?_
  refine bu ?_
  refine aY 7 an ?_
  refine ax ?_
  refine cp aq (aee (fC po 1) x v1 J) ?_
  refine cp aq (gr (1/((b-a)*((cN (aX po) x)*(cN (aX po) x)))) (cN (fC po 1) x) J) ?_
  refine bC ?_
  refine bG ?_
  refine aA ?_
  refine bY (b:=_) rfl ai ?_
  refine bu ?_
  refine aY 7 an ?_
  refine ax ?_
  refine cp aq (aee (fC po 2) x v2 J) ?_
  refine cp aq (gr (1/((b-a)*((cN (aX po) x)*(cN (aX po) x)))) (cN (fC po 2) x) J) ?_
  refine bC ?_
  refine bG ?_
  refine aA ?_
  refine eF (b:=_) rfl ai ?_
  refine dj ?_
  exact sE [] rfl rfl rfl cs (dG cs rfl) ig (.pure pu) rfl (.pure rfl)
def gO (p q:V3):V3:=⟨p.y*q.z-p.z*q.y,p.z*q.x-p.x*q.z,p.x*q.y-p.y*q.x⟩
theorem yQ {R:Nat} {p q:V3} (hp:ck R p) (hq:ck R q):ck (4*R+5) (gO p q):=by
 obtain⟨a1,a2,a3⟩:=hp
 obtain⟨b1,b2,b3⟩:=hq
 have g:∀ a b c d:Rat,rl a<=R->rl b<=R->rl c<=R->rl d<=R->rl (a*b-c*d)<=4*R+5:=fun a b c d h1 h2 h3 h4=>by
  have m1:=cO a b
  have m2:=cO c d
  have m3:=iq (a*b) (c*d)
  omega
 exact⟨g _ _ _ _ a2 b3 a3 b2,g _ _ _ _ a3 b1 a1 b3,g _ _ _ _ a1 b2 a2 b1⟩
def sbS (s t:Rat × Rat):Rat × Rat:=(s.1-t.2,s.2-t.1)
theorem anM {R S:Nat} {s t:Rat × Rat} (hs:db R s) (ht:db S t):db (R+S+1) (sbS s t):=by
 have m1:=iq s.1 t.2
 have m2:=iq s.2 t.1
 exact⟨by show rl (s.1-t.2)<=_;have:=hs.1;have:=ht.2;omega,by show rl (s.2-t.1)<=_;have:=hs.2;have:=ht.1;omega⟩
open fP in
theorem ae9 (p q:V3) (R:Nat) (hR:R<=1000000000) (hp:ck R p) (hq:ck R q):av Tryz.prog 198 [aS p,aS q] (aS (gO p q)):=by
 obtain⟨a1,a2,a3⟩:=hp
 obtain⟨y1,y2,y3⟩:=hq
 have m01:=cO p.x q.y
 have m02:=cO p.x q.z
 have m10:=cO p.y q.x
 have m12:=cO p.y q.z
 have m20:=cO p.z q.x
 have m21:=cO p.z q.y
 refine aN Tryz.func198 (ht:=(fun r=>LV.cP r _ (bg.pure _))) ?_
 refine mV ?_
 refine bG ?_
 refine aA ?_
 refine bY (b:=_) rfl ai ?_
 refine dj ?_
 refine ak rfl (.bin rfl rfl (show dp .add .i64 0 1=some (.int .i64 ((1:Nat):Int)) from rfl)) ?_
 refine ak rfl (.bin rfl rfl (show dp .rem .i64 1 3=some (.int .i64 ((1:Nat):Int)) from rfl)) ?_
 refine ar ?_
 refine ak rfl (.bin rfl rfl (show dp .add .i64 0 2=some (.int .i64 ((2:Nat):Int)) from rfl)) ?_
 refine ak rfl (.bin rfl rfl (show dp .rem .i64 2 3=some (.int .i64 ((2:Nat):Int)) from rfl)) ?_
 refine ax ?_
 refine aY 17 an ?_
 refine aR ?_
 refine cp aq (gr p.y q.z J) ?_
 refine aA ?_
 refine cp aq (gr p.z q.y J) ?_
 refine cp aq (py (p.y*q.z) (p.z*q.y) J) ?_
 refine bC ?_
 refine bG ?_
 refine aA ?_
 refine bY (b:=_) rfl ai ?_
 refine dj ?_
 refine ak rfl (.bin rfl rfl (show dp .add .i64 1 1=some (.int .i64 ((2:Nat):Int)) from rfl)) ?_
 refine ak rfl (.bin rfl rfl (show dp .rem .i64 2 3=some (.int .i64 ((2:Nat):Int)) from rfl)) ?_
 refine ar ?_
 refine ak rfl (.bin rfl rfl (show dp .add .i64 1 2=some (.int .i64 ((3:Nat):Int)) from rfl)) ?_
 refine ak rfl (.bin rfl rfl (show dp .rem .i64 3 3=some (.int .i64 ((0:Nat):Int)) from rfl)) ?_
 refine ax ?_
 refine aY 17 an ?_
 refine aR ?_
 refine cp aq (gr p.z q.x J) ?_
 refine aA ?_
 refine cp aq (gr p.x q.z J) ?_
 refine cp aq (py (p.z*q.x) (p.x*q.z) J) ?_
 refine bC ?_
 refine bG ?_
 refine aA ?_
 refine bY (b:=_) rfl ai ?_
 refine dj ?_
 refine ak rfl (.bin rfl rfl (show dp .add .i64 2 1=some (.int .i64 ((3:Nat):Int)) from rfl)) ?_
 refine ak rfl (.bin rfl rfl (show dp .rem .i64 3 3=some (.int .i64 ((0:Nat):Int)) from rfl)) ?_
 refine ar ?_
 refine ak rfl (.bin rfl rfl (show dp .add .i64 2 2=some (.int .i64 ((4:Nat):Int)) from rfl)) ?_
 refine ak rfl (.bin rfl rfl (show dp .rem .i64 4 3=some (.int .i64 ((1:Nat):Int)) from rfl)) ?_
 refine ax ?_
 refine aY 17 an ?_
 refine aR ?_
 refine cp aq (gr p.x q.y J) ?_
 refine aA ?_
 refine cp aq (gr p.y q.x J) ?_
 refine cp aq (py (p.x*q.y) (p.y*q.x) J) ?_
 refine bC ?_
 refine bG ?_
 refine aA ?_
 refine eF (b:=_) rfl ai ?_
 refine bu ?_
 exact qw
open fP in
theorem aqG (s t:Rat × Rat) (R:Nat) (hR:R<=1000000000) (hs:db R s) (ht:db R t):av Tryz.prog 187 [aD s,aD t] (aD (sbS s t)):=by
 obtain⟨a1,a2⟩:=hs
 obtain⟨y1,y2⟩:=ht
 refine aN Tryz.func187 ?_
 refine bf ?_
 refine aY 11 an ?_
 refine ax ?_
 refine cp aq (py s.1 t.2 J) ?_
 refine ax ?_
 refine cp aq (py s.2 t.1 J) ?_
 refine a6 ?_
 exact rv
def kx (d:Nat) (T:Rat) (dM:List Rat) (E:Rat):List Rat:=List.replicate (d+1) T++(dM++List.replicate (d+1) E)
theorem aic (d:Nat) (T:Rat) (dM:List Rat) (E:Rat):(kx d T dM E).length=2*(d+1)+dM.length:=by simp [kx];omega
theorem afX (d:Nat) (T:Rat) (dM:List Rat) (E:Rat) (i:Nat) (h:i<2*(d+1)+dM.length):(kx d T dM E).getD i 0=if i<d+1 then T else if i<d+1+dM.length then dM.getD (i-(d+1)) 0 else E:=by
 unfold kx
 split
 ·rw [vk bm,r7 J]
 ·rw [vc bm,List.length_replicate]
  split
  ·rw [vk J]
  ·rw [vc J,r7 J]
theorem aqp {l:List Rat} {t:Rat} (h:∀ x∈l,x≠t):∀ i,i<=l.length->fp l t i=0
 | 0,_=>rfl
 | i+1,hi=>by rw [fp,aqp h i J,if_neg (h _ (dg J))]
theorem akt (d:Nat) (T:Rat) (dM:List Rat) (E t:Rat):fp (kx d T dM E) t (kx d T dM E).length=(if T=t then d+1 else 0)+(fp dM t dM.length+(if E=t then d+1 else 0)):=by
 have h:=af9 (List.replicate (d+1) T) (dM++List.replicate (d+1) E) t (dM.length+(d+1))
 have h2:=af9 dM (List.replicate (d+1) E) t (d+1)
 rw [List.length_replicate] at h
 have e:(kx d T dM E).length=d+1+(dM.length+(d+1)):=by rw [aic];omega
 rw [e]
 show fp (List.replicate (d+1) T++_) t _=_
 rw [h,h2,adu _ _ _ _ (Nat.le_refl _),adu _ _ _ _ (Nat.le_refl _)]
structure ahs (d:Nat) (T:Rat) (dM:List Rat) (E:Rat):Prop where
 btw:∀ x∈dM,T<x/\x<E
 x9:∀ i,i+1<dM.length->dM.getD i 0<=dM.getD (i+1) 0
 tms:∀ x∈dM,fp dM x dM.length<=d
 len:dM.length<=2
 sz:∀ x∈dM,rl x<=64
theorem alm {d:Nat} {T E:Rat} {dM:List Rat} (h1:1<=d) (h6:d<=6) (hT:rl T<=64) (hE:rl E<=64) (hTE:T<E) (h:ahs d T dM E):yi (kx d T dM E) d:=by
 have hl:=aic d T dM E
 have hn:=h.len
 have aQ:T≠E:=by grind
 have e0:(kx d T dM E).getD 0 0=T:=by rw [afX _ _ _ _ _ J,if_pos J]
 have e1:(kx d T dM E).getD ((kx d T dM E).length-1) 0=E:=by rw [hl,afX _ _ _ _ _ J,if_neg J,if_neg J]
 have hm:∀ x∈kx d T dM E,x=T\/x∈dM\/x=E:=fun x hx=>by
  rcases List.mem_append.1 hx with g | g
  ·exact .inl (List.mem_replicate.1 g).2
  ·rcases List.mem_append.1 g with g | g
   ·exact .inr (.inl g)
   ·exact .inr (.inr (List.mem_replicate.1 g).2)
 refine⟨h1,h6,J,J,fun i hi=>?_,by rw [e0,e1];exact aQ,fun t ht he=>?_,fun t ht g0 g1=>?_,fun x hx=>?_⟩
 ·rw [afX _ _ _ _ _ J,afX _ _ _ _ _ J]
  by_cases c1:i+1<d+1
  ·rw [if_pos J,if_pos c1];exact Rat.le_refl
  ·rw [if_neg c1]
   by_cases c2:i<d+1
   ·rw [if_pos c2]
    split
    ·exact Rat.le_of_lt (h.btw _ (dg J)).1
    ·exact Rat.le_of_lt hTE
   ·rw [if_neg c2]
    by_cases c3:i+1<d+1+dM.length
    ·rw [if_pos J,if_pos c3,show i+1-(d+1)=i-(d+1)+1 by omega]
     exact h.x9 _ J
    ·rw [if_neg c3]
     split
     ·exact Rat.le_of_lt (h.btw _ (dg J)).2
     ·exact Rat.le_refl
 ·rw [akt]
  rw [e0,e1] at he
  have z:∀ s,(s=T\/s=E)->fp dM s dM.length=0:=fun s hs=>aqp (fun x hx e=>by
   have:=h.btw x hx
   rcases hs with rfl | rfl
   ·rw [e] at this;exact absurd this.1 cA
   ·rw [e] at this;exact absurd this.2 cA) _ (Nat.le_refl _)
  rw [z t he]
  rcases he with rfl | rfl
  ·rw [if_pos rfl,if_neg (fun e=>aQ e.symm)]
  ·rw [if_neg aQ,if_pos rfl];omega
 ·rw [e0] at g0;rw [e1] at g1
  rw [akt,if_neg (fun e=>g0 e.symm),if_neg (fun e=>g1 e.symm)]
  rcases hm t ht with e | e | e
  ·exact absurd e g0
  ·have:=h.tms t e;omega
  ·exact absurd e g1
 ·rcases hm x hx with rfl | g | rfl
  ·exact hT
  ·exact h.sz x g
  ·exact hE
open fP in
theorem atH (d:Nat) (kn:List Rat) (po:List aF) (R:Nat) (hR:R<=1000000) (h:ke po d R):av Tryz.prog 45 [.agg [ah d,.list 3 (kn.map ae),.list 12 (po.map aT)]] (lN (oa (po.map (·.p)))):=by
 have hl:=h.hl
 have hd:=h.hd
 have h6:=h.h6
 have yw:∀ i,i<(po.map (·.p)).length->ck R ((po.map (·.p)).getD i default):=fun i hi=>by
  rw [List.length_map] at hi
  rw [asZ]
  exact(h.ok _ (qI hi)).1
 have fG:LV.pure (.agg [ah d,.list 3 (kn.map ae),.list 12 (po.map aT)])=true:=by simp [LV.pure,aG,aW ao,aW bw]
 refine aN Tryz.func45 (ht:=(fun r=>LV.cP r _ (xf.pure _))) ?_
 refine bq ?_
 refine cp aK (azW d kn po R hR h) ?_
 refine cp aK (at2 (po.map (·.p)) kB kB R hR yw) ?_
 refine gz ?_
 exact fS [] rfl rfl rfl cs (dG cs rfl) T97 (.pure pu)
def jn (l:List Int) (j:Nat):Rat:=((1+dQ l j 3:Int):Rat)/((1+dQ l (bD l j) 2:Int):Rat)
def dI (l:List Int) (d:Nat) (k:List Rat) (j:Nat):Nat:=if k.length=d+1 then j else bD l j
def pz (l:List Int) (d:Nat) (k:List Rat) (t:Rat) (j:Nat):Prop:=k.length=d+1\/0<dQ l j 3\/t=k.getD (k.length-d) 0
instance (l:List Int) (d:Nat) (k:List Rat) (t:Rat) (j:Nat):Decidable (pz l d k t j):=by unfold pz;infer_instance
def mT (l:List Int) (d:Nat):Nat->List Rat->Rat->Nat->List Rat × Rat × Nat
 | 0,k,t,j=>(k,t,j)
 | n+1,k,t,j=>if pz l d k t j then mT l d n (k++[t+jn l (dI l d k j)]) (t+jn l (dI l d k j)) (bD l (bD l (dI l d k j))) else mT l d n (k++[t]) t (dI l d k j)
theorem aa0 (l:List Int) (j:Nat):0<jn l j/\rl (jn l j)<=2:=by
 have h1:=nc (l:=l) (k:=j) (n:=3) ai
 have h2:=nc (l:=l) (k:=bD l j) (n:=2) ai
 have r1:rl ((1+dQ l j 3:Int):Rat)<=1:=abj J
 have r2:rl ((1+dQ l (bD l j) 2:Int):Rat)<=1:=abj J
 have r3:=oH ((1+dQ l j 3:Int):Rat) ((1+dQ l (bD l j) 2:Int):Rat)
 refine⟨?_,by unfold jn;omega⟩
 unfold jn
 rw [Rat.div_def]
 exact Rat.mul_pos (Rat.intCast_pos.2 J) (Rat.inv_pos.2 (Rat.intCast_pos.2 J))
theorem axg (l:List Int) {d n:Nat} {T:Rat} (hd:1<=d) (hn:n<=2) (hT:rl T<=1) (j:Nat) :
  ∃ dM t j',mT l d n (List.replicate (d+1) T) T j=(List.replicate (d+1) T++dM,t,j')/\dM.length=n/\ahs d T dM (t+1)/\rl t<=7/\T<t+1:=by
 have g8:rl 1=1:=rfl
 match n,hn with
 | 0,_ =>
  refine⟨[],T,j,by rw [List.append_nil];rfl,rfl,⟨fun x hx=>(by cases hx),fun i hi=>(by simp at hi),fun x hx=>(by cases hx),by decide,fun x hx=>(by cases hx)⟩,J,by grind⟩
 | 1,_ =>
  have hF:=aa0 l (dI l d (List.replicate (d+1) T) j)
  have hb:pz l d (List.replicate (d+1) T) T j:=.inl aO
  refine⟨[T+jn l (dI l d (List.replicate (d+1) T) j)],T+jn l (dI l d (List.replicate (d+1) T) j),bD l (bD l (dI l d (List.replicate (d+1) T) j)),by rw [mT,if_pos hb,mT],rfl,?_,?_,?_⟩
  ·generalize jn l _=f at hF
   have:=jq T f
   refine⟨fun x hx=>?_,fun i hi=>(by simp at hi),fun x hx=>?_,by simp,fun x hx=>?_⟩
   ·rw [List.mem_singleton.1 hx];constructor<;>grind
   ·show fp _ x 1<=d
    have:=ac7 [T+f] x 1
    omega
   ·rw [List.mem_singleton.1 hx];omega
  ·have:=jq T (jn l (dI l d (List.replicate (d+1) T) j));omega
  ·grind
 | 2,_ =>
  have hb:pz l d (List.replicate (d+1) T) T j:=.inl aO
  have hF:=aa0 l (dI l d (List.replicate (d+1) T) j)
  rw [mT,if_pos hb]
  generalize bD l (bD l (dI l d (List.replicate (d+1) T) j))=j1
  generalize jn l (dI l d (List.replicate (d+1) T) j)=f at *
  have a1:=jq T f
  rw [mT]
  by_cases ud:pz l d (List.replicate (d+1) T++[T+f]) (T+f) j1
  ·rw [if_pos ud,mT]
   have hG:=aa0 l (dI l d (List.replicate (d+1) T++[T+f]) j1)
   generalize bD l (bD l (dI l d (List.replicate (d+1) T++[T+f]) j1))=j2
   generalize jn l (dI l d (List.replicate (d+1) T++[T+f]) j1)=g at *
   have a2:=jq (T+f) g
   refine⟨[T+f,T+f+g],T+f+g,j2,by rw [List.append_assoc];rfl,rfl,⟨fun x hx=>?_,fun i hi=>?_,fun x hx=>?_,by simp,fun x hx=>?_⟩,J,by grind⟩
   ·simp only [List.mem_cons,List.not_mem_nil,or_false] at hx
    rcases hx with rfl | rfl<;>constructor<;>grind
   ·obtain rfl:i=0:=by simp at hi;omega
    show T+f<=T+f+g
    grind
   ·show fp _ x 2<=d
    have aQ:T+f≠T+f+g:=by grind
    have e:fp [T+f,T+f+g] x 2=0+(if T+f=x then 1 else 0)+(if T+f+g=x then 1 else 0):=rfl
    rw [e]
    by_cases c:T+f=x
    ·rw [if_pos c,if_neg (fun e=>aQ (c.trans e.symm))];omega
    ·rw [if_neg c];split<;>omega
   ·simp only [List.mem_cons,List.not_mem_nil,or_false] at hx
    rcases hx with rfl | rfl<;>omega
  ·rw [if_neg ud,mT]
   have ug:2<=d:=by
    rcases Nat.lt_or_ge d 2 with c | c
    ·exfalso
     obtain rfl:d=1:=by omega
     refine ud (.inr (.inr ?_))
     rw [show (List.replicate (1+1) T++[T+f]).length-1=2 by simp,vc aO];simp
    ·exact c
   refine⟨[T+f,T+f],T+f,dI l d (List.replicate (d+1) T++[T+f]) j1,by rw [List.append_assoc];rfl,rfl,⟨fun x hx=>?_,fun i hi=>?_,fun x hx=>?_,by simp,fun x hx=>?_⟩,J,by grind⟩
   ·simp only [List.mem_cons,List.not_mem_nil,or_false,or_self] at hx
    subst hx;constructor<;>grind
   ·obtain rfl:i=0:=by simp at hi;omega
    exact Rat.le_refl
   ·show fp _ x 2<=d
    have:=ac7 [T+f,T+f] x 2
    omega
   ·simp only [List.mem_cons,List.not_mem_nil,or_false,or_self] at hx
    subst hx;omega
def vw (l:List Int) (k n:Nat):Nat:=(dQ l (bD l k) ((n+1:Nat):Int)).toNat
def wx (l:List Int) (d k n:Nat):List Rat × Rat × Nat:=mT l d (vw l k n) (List.replicate (d+1) (kH l k)) (kH l k) (bD l (bD l k))
def knX (l:List Int) (d k n:Nat):List Rat:=(wx l d k n).1++List.replicate (d+1) ((wx l d k n).2.1+1)
theorem aeH (l:List Int) (k n:Nat):(vw l k n:Int)=dQ l (bD l k) ((n+1:Nat):Int)/\vw l k n<=n:=by
 have h:=nc (l:=l) (k:=bD l k) (n:=((n+1:Nat):Int)) J
 unfold vw
 omega
structure kiI (l:List Int) (d N c:Nat) (K:List Rat) (t:Rat) (j:Nat) (R:List Rat × Rat × Nat):Prop where
 hj:j<=500
 hl:K.length+c=d+1+N
 ht:rl t+3*c<=1+3*N
 hK:∀ x∈K,rl x<=7
 hR:mT l d c K t j=R
theorem ap7 {K:List Rat} {t:Rat} {R:Nat} (h:∀ x∈K,rl x<=R) (ht:rl t<=R):∀ x∈K++[t],rl x<=R:=fun x hx=>by
 rcases List.mem_append.1 hx with h1 | h1
 ·exact h x h1
 ·rw [List.mem_singleton.1 h1];exact ht
theorem adl {l:List Int} {d j:Nat} {K:List Rat} (hl:l.length<=500) (hj:j<=500):dI l d K j<=500:=by
 unfold dI;split
 ·exact hj
 ·exact l8 hl hj
theorem kiI.yes {l:List Int} {d N c:Nat} {K:List Rat} {t:Rat} {j:Nat} {R:List Rat × Rat × Nat} (hl:l.length<=500) (hN:N<=2) (h:kiI l d N (c+1) K t j R) (hb:pz l d K t j) :
  kiI l d N c (K++[t+jn l (dI l d K j)]) (t+jn l (dI l d K j)) (bD l (bD l (dI l d K j))) R:=by
 have hF:=(aa0 l (dI l d K j)).2
 have h1:=jq t (jn l (dI l d K j))
 have h2:=h.ht
 have h3:=h.hl
 have h4:=h.hR
 rw [mT,if_pos hb] at h4
 exact⟨l8 hl (l8 hl (adl hl h.hj)),by simp;omega,J,ap7 h.hK J,h4⟩
theorem kiI.no {l:List Int} {d N c:Nat} {K:List Rat} {t:Rat} {j:Nat} {R:List Rat × Rat × Nat} (hl:l.length<=500) (hN:N<=2) (h:kiI l d N (c+1) K t j R) (hb:¬pz l d K t j) :
  kiI l d N c (K++[t]) t (dI l d K j) R:=by
 have h2:=h.ht
 have h3:=h.hl
 have h4:=h.hR
 rw [mT,if_neg hb] at h4
 exact⟨adl hl h.hj,by simp;omega,J,ap7 h.hK J,h4⟩
namespace aq3
theorem aH {p q:Prop} (k:q) (e:p=q:=by simp only [e1,e2,e3,e4,p1,p2,p3,q1,q2,q3,l1,t0,t1,r1,r2,r3,r4,Nat.zero_add,Nat.reduceMul,Nat.reduceAdd,b1,b2,b3,b4,b5,b6,i1,i2,i3,i4,i5,i6,Nat.reduceBEq,l1,ang,aqV,ak1,gv,acM,ekb,ekj,eix,cx,List.length_map,List.append_nil,List.replicate_zero,Nat.add_zero,k5,kI,iz,List.length_cons,List.length_nil,List.nil_append,List.length_append,List.length_replicate,List.set_cons_zero,List.set_cons_succ,Nat.reduceEqDiff,reduceIte,if_true,if_false,dW,ec,aP bw,aP ao,cH,dO,LV.kill,bN,acH];exact rfl):p:=e.mpr k
end aq3
open aq3 in
theorem asa (l:List Int) (k:Nat) (hl:l.length<=500) (d:Nat) (kh:1<=d) (hd:d<=6) (n:Nat) (hn:n<=2) (hk:k<=500):lE Tryz.prog 76 ⟨2,[ik l k],true⟩ [.az 0 2 0 0,ah d,ah n] (.list 3 ((knX l d k n).map ae)) ⟨2,[ik l (wx l d k n).2.2],true⟩:=by
 have k1:=l8 (l:=l) hl hk
 have k2:=l8 (l:=l) hl k1
 have hb:=nc (l:=l) (k:=k) (n:=4) ai
 obtain⟨mj,lr⟩:=aeH l k n
 obtain⟨ht1,ht2⟩:=amW l k
 have h1r:rl 1=1:=rfl
 refine tD Tryz.func76 ?_
 have ang:True:=trivial
 have aqV:True:=trivial
 have ak1:True:=trivial
 have gv:True:=trivial
 have acM:True:=trivial
 have ekb:True:=trivial
 have ekj:True:=trivial
 have eix:True:=trivial
 refine bf ?_
 refine kj 0 rfl rfl rfl (cW l _) (.cons .ptr (.cons (.cf (.pure rfl)) .nil)) .ptr (oS l k 4 J J J J) rfl (cW l _) rfl ?_
 refine ak rfl tE ?_
 refine cp aK (oJ (dQ l k 4-2) J J) ?_
 refine mA ?_
 refine jo (aw.own (t:=8) 24 3 rfl rfl) ?_
 refine dJ (fun(i:Nat) L=>(((((((St.mk L.slot (hp [(0,⟨2,[ik l (bD l k)],true⟩),(7,⟨3,[ae (kH l k)],true⟩),(24,⟨3,(List.replicate i (kH l k)).map ae,true⟩)])).put (some 0) (.az 0 2 0 0)).put (some 1) (ah d)).put (some 7) (.az 7 3 0 0)).put (some 2) (ah n)).put (some 8) (.ref 24 3 0 i)).put (some 9) (ah i))) (fun i=>i<=d+1) (fun i=>d+1-i) 0 (Nat.zero_le _) ?_
 rintro i L1 hi
 refine bf ?_
 refine aC rfl ?_ ?_<;>intro rD rZ
 ·have dB:i<=d:=by omega
  have gv:=amw i (kH l k)
  have ang:((List.replicate i (kH l k)).map ae).take i=(List.replicate i (kH l k)).map ae:=List.take_of_length_le aO
  refine bf ?_
  refine bI rfl (.fX (d:=24) (news:=[ae ((kH l k))]) rfl rfl rfl rfl aO (.inl rfl) ai Tryz.underlying25 Tryz.underlying25 ko cK rfl kA (.inl ⟨23,0,_,rfl,by decide,rfl,rfl,by simp,rfl,by simp [aG,ao.pure]⟩) bm bm ai) ?_
  refine ax ?_
  refine cq (aw.kill _ 23) ?_
  refine ar ?_
  refine ak rfl cB ?_
  refine aJ ?_
  exact jX
 ·obtain rfl:i=d+1:=by omega
  refine bC ?_
  refine ak rfl cB ?_
  refine kj 0 rfl rfl rfl (cW l _) (.cons .ptr (.cons (.cf (.pure rfl)) .nil)) .ptr (oS l (bD l k) ((n+1:Nat):Int) J J J J) rfl (cW l _) rfl ?_
  rw [<-mj]
  refine ax ?_
  refine lp4 (fun(c:Nat) (K:List Rat) (t:Rat) (j:Nat) L=>((((((St.mk L.slot (hp [(0,⟨2,[ik l j],true⟩),(7,⟨3,[ae t],true⟩),(24,⟨3,K.map ae,true⟩)])).put (some 0) (.az 0 2 0 0)).put (some 1) (ah d)).put (some 7) (.az 7 3 0 0)).put (some 8) (.ref 24 3 0 K.length)).put (some 10) (ah c))) (fun c K t j=>kiI l d (vw l k n) c K t j (wx l d k n)) (fun c K t j=>c) (vw l k n) (List.replicate (d+1) (kH l k)) (kH l k) (bD l (bD l k)) ⟨k2,by simp,J,fun x hx=>by rw [(List.mem_replicate.1 hx).2];omega,rfl⟩ ?_
  rintro c K t j L2 hI
  refine aR ?_
  refine aC rfl ?_ ?_<;>intro aaC yx
  ·obtain⟨e,rfl⟩:∃ e,c=e+1:=⟨c-1,J⟩
   have hj5:=hI.hj
   have hjl:=l8 (l:=l) hl hj5
   have hKl:=hI.hl
   have hrt:=hI.ht
   have hrK:=hI.hK _ (dg (p:=K) (i:=K.length-d) J)
   have ak1:(K.map ae).take K.length=K.map ae:=List.take_of_length_le aO
   have hb3:=nc (l:=l) (k:=j) (n:=3) ai
   refine aA ?_
   refine fT (fun L=>∃  (L1:St),(True)/\L=(((((((St.mk L1.slot (hp [(0,⟨2,[ik l (dI l d K j)],true⟩),(7,⟨3,[ae t],true⟩),(24,⟨3,K.map ae,true⟩)])).put (some 0) (.az 0 2 0 0)).put (some 1) (ah d)).put (some 7) (.az 7 3 0 0)).put (some 8) (.ref 24 3 0 K.length)).put (some 10) (ah (e+1))).put (some 53) (bL (decide (pz l d K t j))))) ?_ ?_
   ·refine aan ?_
    refine ahI 0 6 15 rfl an an ?_
    simp only [List.drop_zero,List.drop_succ_cons,List.take_succ_cons,List.take_zero]
    refine aJ ?_
    refine ak rfl cB ?_
    refine aL ?_
    refine aE ?_
    refine aV 6 _ an rfl ?_
    refine dy 38 rfl ?_ ?_<;>intro afj h38
    ·have hL:K.length=d+1:=by omega
     have ekb:decide (pz l d K t j)=true:=decide_eq_true (.inl hL)
     have ekj:(dI l d K j)=j:=if_pos hL
     refine ar ?_
     refine aE ?_
     refine aV 7 _ an rfl ?_
     refine ar ?_
     refine aE ?_
     refine aV 8 _ an rfl ?_
     refine ar ?_
     refine aE ?_
     refine aV 9 _ an rfl ?_
     refine ar ?_
     refine aE ?_
     refine aV 10 _ an rfl ?_
     refine ar ?_
     refine aE ?_
     refine ahI 11 19 2 rfl an an ?_
     simp only [List.drop_zero,List.drop_succ_cons,List.take_succ_cons,List.take_zero]
     refine bf ?_
     refine aE ?_
     refine aV 19 _ an rfl ?_
     try simp only [t1,cx,Int.toNat_natCast,Nat.zero_add]
     refine ar ?_
     refine aE ?_
     refine aV 20 _ an rfl ?_
     refine ar ?_
     refine aE ?_
     refine eO an ?_
     refine ar ?_
     exact acU
    ·have hL:¬K.length=d+1:=by omega
     have ekj:(dI l d K j)=bD l j:=if_neg hL
     refine ar ?_
     refine aE ?_
     refine aV 7 _ an rfl ?_
     refine kj 0 (aZ (v:=false) rfl rfl (afj) rfl) rfl rfl (cW l _) (.cons .ptr (.cons (.cf (.pure rfl)) .nil)) .ptr (oS l j 3 J J J J) rfl (cW l _) rfl ?_
     refine aE ?_
     refine aV 8 _ an rfl ?_
     refine ar ?_
     refine aE ?_
     refine aV 9 _ an rfl ?_
     refine ar ?_
     refine aE ?_
     refine aV 10 _ an rfl ?_
     refine ar ?_
     refine aE ?_
     refine ahI 11 19 2 rfl an an ?_
     simp only [List.drop_zero,List.drop_succ_cons,List.take_succ_cons,List.take_zero]
     refine dy 43 rfl ?_ ?_<;>intro ajP h43
     ·have ekb:decide (pz l d K t j)=true:=decide_eq_true (.inr (.inl J))
      refine bf ?_
      refine aE ?_
      refine aV 19 _ an rfl ?_
      try simp only [t1,cx,Int.toNat_natCast,Nat.zero_add]
      refine ar ?_
      refine aE ?_
      refine aV 20 _ an rfl ?_
      refine ar ?_
      refine aE ?_
      refine eO an ?_
      refine ar ?_
      exact acU
     ·refine a6 ?_
      refine ak (aZ (v:=false) rfl rfl (ajP) rfl) (.bin rfl rfl (wS (c:=K.length-d) J J)) ?_
      refine aL ?_
      refine aE ?_
      refine aV 19 _ an rfl ?_
      try simp only [t1,cx,Int.toNat_natCast,Nat.zero_add]
      refine cp aq (azt t (K.getD (K.length-d) 0) J) ?_
      refine aE ?_
      refine aV 20 _ an rfl ?_
      have ekb:decide (pz l d K t j)=decide (t=K.getD (K.length-d) 0):=decide_eq_decide.2 ⟨fun h=>by rcases h with h | h | h<;>first | exact h | (exfalso;omega),fun h=>.inr (.inr h)⟩
      refine ar ?_
      refine aE ?_
      refine eO an ?_
      refine ar ?_
      exact acU
   ·rintro _ ⟨aDD,-,rfl⟩
    refine ar ?_
    refine aC rfl ?_ ?_<;>intro qf h53
    ·have hB:pz l d K t j:=by simpa using h53
     have hJ:=adl (l:=l) (d:=d) (j:=j) (K:=K) hl hj5
     have hJ2:=l8 (l:=l) hl hJ
     have hF:=aa0 l (dI l d K j)
     have hbA:=nc (l:=l) (k:=(dI l d K j)) (n:=3) ai
     have hbB:=nc (l:=l) (k:=bD l (dI l d K j)) (n:=2) ai
     have haF:=jq t (jn l (dI l d K j))
     refine fT (fun L=>∃  (L1:St),(True)/\L=((((((St.mk L1.slot (hp [(0,⟨2,[ik l (bD l (bD l (dI l d K j)))],true⟩),(7,⟨3,[ae (t+jn l (dI l d K j))],true⟩),(24,⟨3,K.map ae,true⟩)])).put (some 0) (.az 0 2 0 0)).put (some 1) (ah d)).put (some 7) (.az 7 3 0 0)).put (some 8) (.ref 24 3 0 K.length)).put (some 10) (ah (e+1)))) ?_ ?_
     ·refine aan ?_
      refine ab8 1 rfl rfl an (.move _) ?_
      refine ab8 4 rfl rfl an (.move _) ?_
      refine iX 0 2 _ _ an rfl rfl ?_ ?_
      ·refine ar ?_
       refine aE ?_
       refine aV 2 _ an rfl ?_
       refine kj 0 rfl rfl rfl (cW l _) (.cons .ptr (.cons (.cf (.pure rfl)) .nil)) .ptr (oS l (dI l d K j) 3 J J J J) rfl (cW l _) rfl ?_
       refine aE ?_
       refine ab8 3 rfl rfl an (.bin rfl rfl (o6 J J)) ?_
       refine aV 5 _ an rfl ?_
       refine kj 0 rfl rfl rfl (cW l _) (.cons .ptr (.cons (.cf (.pure rfl)) .nil)) .ptr (oS l (bD l (dI l d K j)) 2 J J J J) rfl (cW l _) rfl ?_
       refine aE ?_
       refine aV 6 _ an rfl ?_
       refine ak rfl wI ?_
       refine aE ?_
       refine aV 7 _ an rfl ?_
       refine cp aq (aam (1+dQ l (dI l d K j) 3) (1+dQ l (bD l (dI l d K j)) 2) J J J J J) ?_
       refine aE ?_
       refine aV 8 _ an rfl ?_
       refine cp aq (nw t (jn l (dI l d K j)) J) ?_
       refine aE ?_
       refine aV 9 _ an rfl ?_
       refine ar ?_
       refine aE ?_
       refine eO an ?_
       refine ar ?_
       exact qH
      ·refine kj 0 rfl rfl rfl (cW l _) (.cons .ptr (.cons (.cf (.pure rfl)) .nil)) .ptr (oS l (dI l d K j) 3 J J J J) rfl (cW l _) rfl ?_
       refine aE ?_
       refine ab8 3 rfl rfl an (.bin rfl rfl (o6 J J)) ?_
       refine iX 0 5 _ _ an rfl rfl ?_ ?_
       ·refine ar ?_
        refine aE ?_
        refine aV 5 _ an rfl ?_
        refine kj 0 rfl rfl rfl (cW l _) (.cons .ptr (.cons (.cf (.pure rfl)) .nil)) .ptr (oS l (bD l (dI l d K j)) 2 J J J J) rfl (cW l _) rfl ?_
        refine aE ?_
        refine aV 6 _ an rfl ?_
        refine ak rfl wI ?_
        refine aE ?_
        refine aV 7 _ an rfl ?_
        refine cp aq (aam (1+dQ l (dI l d K j) 3) (1+dQ l (bD l (dI l d K j)) 2) J J J J J) ?_
        refine aE ?_
        refine aV 8 _ an rfl ?_
        refine cp aq (nw t (jn l (dI l d K j)) J) ?_
        refine aE ?_
        refine aV 9 _ an rfl ?_
        refine ar ?_
        refine aE ?_
        refine eO an ?_
        refine ar ?_
        exact qH
       ·refine kj 0 rfl rfl rfl (cW l _) (.cons .ptr (.cons (.cf (.pure rfl)) .nil)) .ptr (oS l (bD l (dI l d K j)) 2 J J J J) rfl (cW l _) rfl ?_
        refine aE ?_
        refine ab8 6 rfl rfl an (.bin rfl rfl (o6 J J)) ?_
        refine iX 0 7 _ _ an rfl rfl ?_ ?_
        ·refine ar ?_
         refine aE ?_
         refine aV 7 _ an rfl ?_
         refine cp aq (aam (1+dQ l (dI l d K j) 3) (1+dQ l (bD l (dI l d K j)) 2) J J J J J) ?_
         refine aE ?_
         refine aV 8 _ an rfl ?_
         refine cp aq (nw t (jn l (dI l d K j)) J) ?_
         refine aE ?_
         refine aV 9 _ an rfl ?_
         refine ar ?_
         refine aE ?_
         refine eO an ?_
         refine ar ?_
         exact qH
        ·refine cp aq (aam (1+dQ l (dI l d K j) 3) (1+dQ l (bD l (dI l d K j)) 2) J J J J J) ?_
         refine aE ?_
         refine aV 0 _ an rfl ?_
         refine ar ?_
         refine aE ?_
         refine aV 8 _ an rfl ?_
         refine cp aq (nw t (jn l (dI l d K j)) J) ?_
         refine aE ?_
         refine aV 9 _ an rfl ?_
         refine ar ?_
         refine aE ?_
         refine eO an ?_
         refine ar ?_
         exact qH
     ·rintro _ ⟨aBA,-,rfl⟩
      refine a6 ?_
      first | refine bI rfl (.fX (d:=24) (news:=[ae ((t+jn l (dI l d K j)))]) rfl rfl rfl rfl aO (.inl rfl) ai Tryz.underlying25 Tryz.underlying25 ko cK rfl kA (.inl ⟨65,0,_,rfl,by decide,rfl,rfl,by simp,rfl,by simp [aG,ao.pure]⟩) bm bm ai) ?_ | refine bI rfl (.fX (d:=24) (news:=[ae (t)]) rfl rfl rfl rfl aO (.inl rfl) ai Tryz.underlying25 Tryz.underlying25 ko cK rfl kA (.inl ⟨65,0,_,rfl,by decide,rfl,rfl,by simp,rfl,by simp [aG,ao.pure]⟩) bm bm ai) ?_
      refine ax ?_
      refine cq (aw.kill _ 65) ?_
      refine ar ?_
      refine ak rfl jm ?_
      refine aJ ?_
      exact oM e (K++[(t+jn l (dI l d K j))]) (t+jn l (dI l d K j)) (bD l (bD l (dI l d K j))) (hI.yes hl J hB)
    ·have hB:¬pz l d K t j:=by simpa using h53
     refine aA ?_
     first | refine bI rfl (.fX (d:=24) (news:=[ae ((t+jn l (dI l d K j)))]) rfl rfl rfl rfl aO (.inl rfl) ai Tryz.underlying25 Tryz.underlying25 ko cK rfl kA (.inl ⟨65,0,_,rfl,by decide,rfl,rfl,by simp,rfl,by simp [aG,ao.pure]⟩) bm bm ai) ?_ | refine bI rfl (.fX (d:=24) (news:=[ae (t)]) rfl rfl rfl rfl aO (.inl rfl) ai Tryz.underlying25 Tryz.underlying25 ko cK rfl kA (.inl ⟨65,0,_,rfl,by decide,rfl,rfl,by simp,rfl,by simp [aG,ao.pure]⟩) bm bm ai) ?_
     refine ax ?_
     refine cq (aw.kill _ 65) ?_
     refine ar ?_
     refine ak rfl jm ?_
     refine aJ ?_
     exact oM e (K++[t]) t (dI l d K j) (hI.no hl J hB)
  ·obtain rfl:c=0:=by omega
   have hV:=hI.hR
   rw [mT] at hV
   have hj5:=hI.hj
   have hKl:=hI.hl
   have hrt:=hI.ht
   have aDV:=jq t 1
   refine aA ?_
   refine aY 3 an ?_
   refine ar ?_
   refine cp aK (oJ 1 ai ai) ?_
   refine cp aq (nw t 1 J) ?_
   refine bC ?_
   refine dJ (fun(i:Nat) L=>(((((St.mk L.slot (hp [(0,⟨2,[ik l j],true⟩),(7,⟨3,[ae (t+1)],true⟩),(24,⟨3,(K++List.replicate i (t+1)).map ae,true⟩)])).put (some 1) (ah d)).put (some 7) (.az 7 3 0 0)).put (some 8) (.ref 24 3 0 (K.length+i))).put (some 11) (ah i))) (fun i=>i<=d+1) (fun i=>d+1-i) 0 (Nat.zero_le _) ?_
   rintro i L3 hi
   refine bf ?_
   refine aC rfl ?_ ?_<;>intro aDC h72
   ·have dB:i<=d:=by omega
    have acM:K++List.replicate i (t+1)++[t+1]=K++List.replicate (i+1) (t+1):=by rw [List.append_assoc,amw]
    have aqV:((K++List.replicate i (t+1)).map ae).take (K.length+i)=(K++List.replicate i (t+1)).map ae:=List.take_of_length_le aO
    refine bf ?_
    refine bI rfl (.fX (d:=24) (news:=[ae (t+1)]) rfl rfl rfl rfl aO (.inl rfl) ai Tryz.underlying25 Tryz.underlying25 ko cK rfl kA (.inl ⟨77,0,_,rfl,by decide,rfl,rfl,by simp,rfl,by simp [aG,ao.pure]⟩) bm bm ai) ?_
    refine ax ?_
    refine cq (aw.kill _ 77) ?_
    refine ar ?_
    refine ak rfl cB ?_
    refine aJ ?_
    exact jX
   ·obtain rfl:i=d+1:=by omega
    refine bu ?_
    have hE:K++List.replicate (d+1) (t+1)=knX l d k n:=by unfold knX;rw [<-hV]
    have wP:j=(wx l d k n).2.2:=by rw [<-hV]
    rw [<-hE,<-wP]
    exact awe [24] rfl rfl (eN ao rfl rfl aO) rfl rfl (cW l _)
abbrev Sp:=Rat × Rat
abbrev ez:=List Sp × Nat × List Int
abbrev gQ:=List Sp × List Sp × Nat × Nat
def iS (s:Sp):Rat:=(s.1+s.2)/2
def nX (s:Sp):Sp:=(s.1,iS s)
def oT (s:Sp):Sp:=(iS s,s.2)
def vA (t:List Int):Nat->Nat
 | 0=>0
 | k+1=>if t.getD k 0<t.getD (vA t k) 0 then k else vA t k
theorem abf {t:List Int}:∀ k,k<=t.length->0<t.length->vA t k<t.length
 | 0,_,h=>h
 | k+1,h,h0=>by
   have:=abf k J h0
   unfold vA;split<;>omega
def eU (x:ez):Nat:=vA x.2.2 x.2.2.length
def yo (x:ez) (s:Sp):ez:=(x.1.set (eU x) s,x.2.1+1,x.2.2.set (eU x) (x.2.2.getD (eU x) 0+1))
def lL (x:ez):ez:=yo x (nX (x.1.getD (eU x) default))
def lO (x:ez):ez:=yo x (oT (x.1.getD (eU x) default))
def xz (l:List Sp) (w:Rat):Bool:=l.any fun s=>decide (w<s.2-s.1)
abbrev iU:=List Sp->List Sp->Bool × Nat × Nat
abbrev RunT:=List ez × Nat × List gQ
def lC (v:Bool × Nat × Nat):Nat:=if v.2.1=0 then 1 else v.2.1
def kV (v:Bool × Nat × Nat):Nat:=if v.2.1=0 then 0 else v.2.2
def mq (na:Nat) (x:ez) (v:Bool × Nat × Nat):gQ:=(x.1.take na,x.1.drop na,lC v,kV v)
def nI (D:Nat) (wd:Rat) (x:ez) (v:Bool × Nat × Nat):Bool :=
 (decide (lC v=3\/lC v=4) && (decide (wd=0) || !xz x.1 wd)) || decide (D<=x.2.1)
def lU (D W na:Nat) (wd:Rat) (lk:iU):RunT->RunT
 | ([],n,cs)=>([],n,cs)
 | (x :: st,n,cs) =>
  if W<=n then(st,n,cs++[mq na x (false,0,0)])
  else if (lk (x.1.take na) (x.1.drop na)).1 then(st,n+1,cs)
  else if nI D wd x (lk (x.1.take na) (x.1.drop na)) then(st,n+1,cs++[mq na x (lk (x.1.take na) (x.1.drop na))])
  else(lL x :: lO x :: st,n+1,cs)
def adz (D W na:Nat) (wd:Rat) (lk:iU):Nat->RunT->RunT
 | 0,s=>s
 | k+1,s=>adz D W na wd lk k (lU D W na wd lk s)
def rV (D:Nat) (x:ez):Nat:=2*2 ^ (D-x.2.1)-1
def fj (D:Nat) (st:List ez):Nat:=(st.map (rV D)).sum
theorem ach (D:Nat) (x:ez):1<=rV D x:=by
 unfold rV
 have:=Nat.one_le_two_pow (n:=D-x.2.1)
 omega
theorem ap5 {D:Nat} {x:ez} {s s':Sp} (h:x.2.1<D):rV D (yo x s)+rV D (yo x s')<rV D x:=by
 simp only [rV,yo]
 have h1:=Nat.one_le_two_pow (n:=D-(x.2.1+1))
 have h2:2 ^ (D-x.2.1)=2*2 ^ (D-(x.2.1+1)):=by
  rw [show D-x.2.1=(D-(x.2.1+1))+1 by omega,Nat.pow_succ,Nat.mul_comm]
 omega
theorem ayY {D:Nat} {wd:Rat} {x:ez} {v:Bool × Nat × Nat} (h:nI D wd x v=false):x.2.1<D:=by
 unfold nI at h
 simp only [Bool.or_eq_false_iff,decide_eq_false_iff_not] at h
 omega
theorem ahf {D W na:Nat} {wd:Rat} {lk:iU} {x:ez} {st:List ez} {n:Nat} {cs:List gQ}:fj D (lU D W na wd lk (x :: st,n,cs)).1<fj D (x :: st):=by
 have hw:=ach D x
 have hmu:fj D (x :: st)=rV D x+fj D st:=by simp [fj]
 rw [lU]
 split
 ·show fj D st<_;omega
 ·split
  ·show fj D st<_;omega
  ·split
   ·show fj D st<_;omega
   ·rename_i h
    have hd:=ayY lJ
    have:=ap5 (x:=x) (s:=nX (x.1.getD (eU x) default)) (s':=oT (x.1.getD (eU x) default)) hd
    have e:fj D (lL x :: lO x :: st)=rV D (lL x)+(rV D (lO x)+fj D st):=by simp [fj]
    show fj D (lL x :: lO x :: st)<_
    rw [e,hmu]
    unfold lL lO
    omega
theorem al4 {D W na:Nat} {wd:Rat} {lk:iU} {n:Nat} {cs:List gQ}:∀ k,adz D W na wd lk k ([],n,cs)=([],n,cs)
 | 0=>rfl
 | k+1=>by rw [adz,lU,al4 k]
def xQ (D W na:Nat) (wd:Rat) (lk:iU) (s R:RunT):Prop:=∃ k,fj D s.1<=k/\adz D W na wd lk k s=R
theorem xQ.step {D W na:Nat} {wd:Rat} {lk:iU} {x:ez} {st:List ez} {n:Nat} {cs:List gQ} {R:RunT} (h:xQ D W na wd lk (x :: st,n,cs) R) :
  xQ D W na wd lk (lU D W na wd lk (x :: st,n,cs)) R:=by
 obtain⟨k,h1,h2⟩:=h
 have hmu:fj D (x :: st)=rV D x+fj D st:=by simp [fj]
 have hw:=ach D x
 match k,h1,h2 with
 | 0,h1,_=>exact absurd (show fj D (x :: st)<=0 from h1) J
 | k+1,h1,h2 =>
  have:=ahf (D:=D) (W:=W) (na:=na) (wd:=wd) (lk:=lk) (x:=x) (st:=st) (n:=n) (cs:=cs)
  exact⟨k,by have:fj D (x :: st)<=k+1:=h1;omega,h2⟩
theorem xQ.nil {D W na:Nat} {wd:Rat} {lk:iU} {n:Nat} {cs:List gQ} {R:RunT} (h:xQ D W na wd lk ([],n,cs) R):R=([],n,cs):=by
 obtain⟨k,_,h2⟩:=h
 rw [al4] at h2;exact h2.symm
def rJ (D W na:Nat) (wd:Rat) (lk:iU) (s:RunT):RunT:=adz D W na wd lk (fj D s.1) s
theorem abp (D W na:Nat) (wd:Rat) (lk:iU) (s:RunT):xQ D W na wd lk s (rJ D W na wd lk s):=⟨_,Nat.le_refl _,rfl⟩
theorem aa5 {D W na:Nat} {wd:Rat} {lk:iU} (I:RunT->Prop) (hI:∀ x st n cs,I (x :: st,n,cs)->I (lU D W na wd lk (x :: st,n,cs))) :
  ∀ (m:Nat) {s R:RunT},fj D s.1<=m->I s->xQ D W na wd lk s R->I R/\R.1=[]
 | m,([],n,cs),R,_,hs,h=>by rw [h.nil];exact⟨hs,rfl⟩
 | 0,(x :: st,n,cs),R,hm,_,_=>by
   have hmu:fj D (x :: st)=rV D x+fj D st:=by simp [fj]
   have hw:=ach D x
   exact absurd (show fj D (x :: st)<=0 from hm) J
 | m+1,(x :: st,n,cs),R,hm,hs,h=>by
   have:=ahf (D:=D) (W:=W) (na:=na) (wd:=wd) (lk:=lk) (x:=x) (st:=st) (n:=n) (cs:=cs)
   exact aa5 I hI m (by have:fj D (x :: st)<=m+1:=hm;omega) (hI x st n cs hs) h.step
theorem dB (p q t:Rat):lF [p,q] t=[p+t*(q-p),q]:=by
 simp only [lF,List.length_cons,List.length_nil,qT,iO]
 simp
 grind
def me (s:Rat × Rat):Rat × Rat:=(-s.2,-s.1)
def d2S (p q r s:Rat × Rat):Rat × Rat:=sbS (xC p s) (xC q r)
def jR (s t:Rat × Rat):Bool:=decide (fQ s.1 t.1<=gj s.2 t.2)
def meB (a b:o5):Bool:=jR a.x b.x && jR a.y b.y && jR a.z b.z
def fW (a b c:V3):Rat:=1/de a (gO b c)
def qx (a b c:V3):V3:=⟨(jb (fW a b c) (gO b c)).x,(jb (fW a b c) (gO c a)).x,(jb (fW a b c) (gO a b)).x⟩
def p8 (a b c:V3):V3:=⟨(jb (fW a b c) (gO b c)).y,(jb (fW a b c) (gO c a)).y,(jb (fW a b c) (gO a b)).y⟩
def se (a b c:V3):V3:=⟨(jb (fW a b c) (gO b c)).z,(jb (fW a b c) (gO c a)).z,(jb (fW a b c) (gO a b)).z⟩
def wO (u v:V3):V3:=⟨u.x,(jb (-1) v).x,0⟩
def wN (u v:V3):V3:=⟨u.y,(jb (-1) v).y,0⟩
def wz:V3:=⟨0,0,1⟩
def tp (r:V3) (l:List V3):Rat × Rat:=gy (l.map (de r))
def jr (r:V3) (p q:List V3):Rat × Rat:=sbS (tp r p) (tp r q)
def tb (s t:Rat × Rat):Bool:=decide (cM s.1=cM s.2) && decide (cM t.1=cM t.2) && decide (cM s.1*cM t.1<0)
def arj (u v:V3) (pc pd:List V3):Bool:=tb (jr (qx (wO u v) (wN u v) wz) [pc.getD 0 default] pd) (jr (qx (wO u v) (wN u v) wz) [pc.getD (pc.length-1) default] pd)
def apT (u v:V3) (pc pd:List V3):Bool:=tb (jr (p8 (wO u v) (wN u v) wz) pc [pd.getD 0 default]) (jr (p8 (wO u v) (wN u v) wz) pc [pd.getD (pd.length-1) default])
def oO (sc sd:o5) (u v:V3) (pc pd:List V3):Nat :=
 if iW (d2S sc.x (me sd.x) sc.y (me sd.y)) 0 then 0 else if de (wO u v) (gO (wN u v) wz)=0 then 2 else if arj u v pc pd && apT u v pc pd then 3 else 2
def crV (u v:V3):Rat:=u.x*v.y-u.y*v.x
section
variable {u v:V3} (h:crV u v≠0)
include h
end
def ji (n:Nat) (q:Rat):Prop:=∃ z:Int,q=(z:Rat)/((2 ^ n:Nat):Int)
theorem two_pos (n:Nat):(0:Rat)<((2 ^ n:Nat):Int):=by
 have:=Nat.one_le_two_pow (n:=n)
 exact Rat.intCast_pos.2 J
theorem aop (n:Nat):(((2 ^ (n+1):Nat):Int):Rat)=((2 ^ n:Nat):Int)*2:=by
 rw [Nat.pow_succ];push_cast;rfl
theorem ji.mul {n:Nat} {q:Rat} (h:ji n q):∃ z:Int,q*((2 ^ n:Nat):Int)=z:=by
 obtain⟨z,rfl⟩:=h
 exact⟨z,Rat.div_mul_cancel (by have:=two_pos n;grind)⟩
theorem ji.of {n:Nat} {q:Rat} {z:Int} (h:q*((2 ^ n:Nat):Int)=z):ji n q:=⟨z,by
 have:=two_pos n
 rw [<-h,Rat.mul_div_cancel cA]⟩
theorem ji.succ {n:Nat} {q:Rat} (h:ji n q):ji (n+1) q:=by
 obtain⟨z,e⟩:=h.mul
 refine ji.of (z:=z*2) ?_
 rw [aop,<-Rat.mul_assoc,e];push_cast;rfl
theorem ji.md {n:Nat} {p q:Rat} (hp:ji n p) (hq:ji n q):ji (n+1) ((p+q)/2):=by
 obtain⟨z,e⟩:=hp.mul
 obtain⟨y,f⟩:=hq.mul
 refine ji.of (z:=z+y) ?_
 rw [aop]
 have h2:(p+q)/2*2=p+q:=Rat.div_mul_cancel ai
 have:(p+q)/2*(((2 ^ n:Nat):Int)*2:Rat)=(p+q)/2*2*((2 ^ n:Nat):Int):=by grind
 rw [this,h2]
 push_cast
 push_cast at e f
 rw [<-e,<-f];grind
theorem ji.sub {n:Nat} {p q:Rat} (hp:ji n p) (hq:ji n q):ji n (p-q):=by
 obtain⟨z,e⟩:=hp.mul
 obtain⟨y,f⟩:=hq.mul
 refine ji.of (z:=z-y) ?_
 push_cast
 push_cast at e f
 rw [<-e,<-f];grind
theorem aj7 (z:Int):ji 0 (z:Rat):=⟨z,by
 have:(((2 ^ 0:Nat):Int):Rat)=1:=rfl
 rw [this];grind⟩
theorem ji.le {n m:Nat} {q:Rat} (h:ji n q) (hm:n<=m):ji m q:=by
 induction m with
 | zero =>
      obtain rfl:n=0:=by omega
      exact h
 | succ m ih =>
  rcases Nat.lt_or_ge n (m+1) with g | g
  ·exact(ih J).succ
  ·obtain rfl:n=m+1:=by omega
   exact h
theorem ji.rl {n:Nat} {q:Rat} (h:ji n q) (hn:n<=24) (h1:-64<=q) (h2:q<=64):Go.Lg.rl q<=1:=by
 obtain⟨z,e⟩:=h.mul
 have hp:=two_pos n
 have zE:2 ^ n<=2 ^ 24:=Nat.pow_le_pow_right ai hn
 have uU:z<=64*((2 ^ n:Nat):Int):=by
  have:(z:Rat)<=((64*((2 ^ n:Nat):Int):Int):Rat):=by
   rw [<-e];rw [Rat.intCast_mul]
   exact Rat.mul_le_mul_of_nonneg_right h2 (Rat.le_of_lt hp)
  exact Rat.intCast_le_intCast.1 this
 have yE:-64*((2 ^ n:Nat):Int)<=z:=by
  have:((-64*((2 ^ n:Nat):Int):Int):Rat)<=(z:Rat):=by
   rw [<-e];rw [Rat.intCast_mul]
   exact Rat.mul_le_mul_of_nonneg_right h1 (Rat.le_of_lt hp)
  exact Rat.intCast_le_intCast.1 this
 have:q=(z:Rat)/((2 ^ n:Nat):Int):=by rw [<-e,Rat.mul_div_cancel cA]
 rw [this]
 exact aaz J J
def pK:Sp:=(0,1)
section
variable {a u p v:V3}
end
def jz (x:ez):LV:=.agg [.list 6 (x.1.map aD),ah x.2.1,.list 1 (x.2.2.map eW)]
def fg (c:gQ):LV:=.agg [.list 6 (c.1.map aD),.list 6 (c.2.1.map aD),ah c.2.2.1,ah c.2.2.2]
def vdL (v:Bool × Nat × Nat):LV:=.agg [.v (.bool v.1),ah v.2.1,ah v.2.2]
def prW (d w:Nat) (wd:Rat):LV:=.agg [ah d,ah w,ae wd]
theorem so (x:ez):(jz x).pure=true:=by simp [jz,LV.pure,aG,aW bS,aW m9]
theorem aiK (c:gQ):(fg c).pure=true:=by simp [fg,LV.pure,aG,aW bS]
theorem asU (v:Bool × Nat × Nat):(vdL v).pure=true:=by simp [vdL,LV.pure,aG]
theorem ayi (d w:Nat) (wd:Rat):(prW d w wd).pure=true:=by simp [prW,LV.pure,aG,ao.pure]
theorem aAT (x:ez):(jz x).au=3:=rfl
theorem ag2 (c:gQ):(fg c).au=4:=rfl
theorem abv:gL jz 3 true:=⟨aAT,fun _=>rfl,so⟩
theorem aaA:gL fg 4 true:=⟨ag2,fun _=>rfl,aiK⟩
theorem aaI (l:List gQ):aG (l.map fg)=true:=aW aaA l
structure adM (P:Program) (f:Nat) (cap:List LV) (D na n:Nat) (lk:iU) (I:ez->Prop):Prop where
 len:∀ x,I x->x.1.length=n/\x.2.2.length=n
 tm:∀ x,I x->∀ t∈x.2.2,0<=t/\t<=1000
 dep:∀ x,I x->x.2.1<=D
 sp:∀ x,I x->∀ s∈x.1,db 1000 s/\s.1<=s.2
 half:∀ x,I x->x.2.1<D->I (lL x)/\I (lO x)
 look:∀ x,I x->av P f ([.list 6 ((x.1.take na).map aD),.list 6 ((x.1.drop na).map aD)]++cap) (vdL (lk (x.1.take na) (x.1.drop na)))
 kd:∀ x,I x->(lk (x.1.take na) (x.1.drop na)).2.1<=4/\(lk (x.1.take na) (x.1.drop na)).2.2<=4
def l5 (n:Nat) (s:Sp):Prop:=ji n s.1/\ji n s.2/\0<=s.1/\s.1<s.2/\s.2<=1
def kF (D:Nat) (x:ez):Prop:=∃ (s t:Sp) (i j:Int),x.1=[s,t]/\x.2.2=[i,j]/\(0<=i/\i<=x.2.1/\0<=j/\j<=x.2.1)/\x.2.1<=D/\l5 x.2.1 s/\l5 x.2.1 t
theorem l5.succ {n:Nat} {s:Sp} (h:l5 n s):l5 (n+1) s:=⟨h.1.succ,h.2.1.succ,h.2.2⟩
theorem l5.half {n:Nat} {s:Sp} (h:l5 n s):l5 (n+1) (nX s)/\l5 (n+1) (oT s):=by
 obtain⟨h1,h2,h3,h4,h5⟩:=h
 have hm:=h1.md h2
 have e:(s.1+s.2)/2*2=s.1+s.2:=Rat.div_mul_cancel ai
 unfold nX oT iS
 exact⟨⟨h1.succ,hm,h3,by show s.1<(s.1+s.2)/2;grind,by show (s.1+s.2)/2<=1;grind⟩,⟨hm,h2.succ,by show 0<=(s.1+s.2)/2;grind,by show (s.1+s.2)/2<s.2;grind,h5⟩⟩
theorem l5.rl {n:Nat} {s:Sp} (h:l5 n s) (hn:n<=24):Go.Lg.rl s.1<=1/\Go.Lg.rl s.2<=1:=by
 obtain⟨h1,h2,h3,h4,h5⟩:=h
 exact⟨h1.rl hn cA cA,h2.rl hn cA cA⟩
end Go.Proofs.YtckppbhafancnaaGreat
end
