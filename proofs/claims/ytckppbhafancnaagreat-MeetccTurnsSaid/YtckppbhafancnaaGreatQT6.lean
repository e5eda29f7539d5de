/- Texts K21, Z1, Z2, U2, U3, U4, U7, A3, Y0, K25, K26, A4, A1 of this proof, joined. -/
import Derived.Test.YtckppbhafancnaaGreatQT5
set_option linter.unusedVariables false
set_option linter.unusedSimpArgs false
open And renaming intro->jN
open Go.Proofs.Tryz renaming func242->arp,prog->an,underlying137->zQ,underlying155->sD,underlying165->wK,underlying25->dI,underlying26->wB,underlying49->rf
open Int renaming toNat_natCast->ab0
open List renaming append_assoc->xS,append_nil->ng,count_replicate->auo,drop_append_of_le_length->alg,drop_left'->acq,drop_of_length_le->kg,drop_replicate->ay1,drop_succ_cons->ajo,drop_zero->mn,ext_getElem->vk,getD_eq_getElem?_getD->bp,getElem?_eq_getElem->b7,getElem?_map->g8,getElem?_range->aue,getElem_drop->amT,getElem_map->anr,getElem_mem->qk,getElem_range->alO,getElem_take->anu,length_append->lT,length_cons->rC,length_drop->lg,length_map->dL,length_replicate->tT,length_set->arv,length_take->eP,map_append->abR,map_drop->aeD,map_set->auy,map_take->xR,mem_append->o8,mem_cons->fx,mem_map->cQ,mem_of_mem_drop->wg,mem_of_mem_take->wh,mem_replicate->sZ,mem_singleton->gS,not_mem_nil->jy,range->c9,replicate->ay,replicate_succ'->ag1,take_add_one->zB,take_append->ayA,take_append_of_le_length->atA,take_left'->af5,take_length->nT,take_of_length_le->dg,take_succ_cons->yd,take_zero->abV
open Nat renaming le_refl->bq,le_trans->ba,lt_or_ge->gC,lt_succ_iff_lt_or_eq->al4,min_eq_left->mf,min_le_left->amO,mul_comm->fA,mul_le_mul->mM,not_lt_zero->ah1,one_le_two_pow->amB,pow_le_pow_right->mh,pow_succ->jt,sub_self->qn,zero_add->fF,zero_le->b8
open Rat renaming add_zero->kP,div_def->iV,div_mul_cancel->kf,intCast_le_intCast->adC,intCast_mul->sO,intCast_pos->sK,le_of_lt->ib,le_refl->gf,mul_div_cancel->vO,mul_le_mul_of_nonneg_right->pb
section
set_option linter.unusedVariables false
set_option linter.unusedSimpArgs false
set_option maxHeartbeats 8000000
set_option maxRecDepth 100000
attribute [local irreducible] Go.Lg.opsL Go.Lg.cP Go.Lg.qi Go.Lg.s7
namespace Go.Proofs.YtckppbhafancnaaGreat
open Go.Lg
def bu (d:Nat) (a b:Rat):List Rat:=ay (d+1) a++ay (d+1) b
theorem lL (d:Nat) (a b:Rat):(bu d a b).length=2*(d+1):=by simp [bu];omega
theorem iH (d:Nat) (a b:Rat) (i:Nat) (h:i<2*(d+1)):(bu d a b).getD i 0=if i<d+1 then a else b:=by
 unfold bu
 split
 ·rw [yA bz,vz ae]
 ·rw [zc bz,tT,vz ae]
theorem aaS (d:Nat) (a b:Rat):(bu d a b).getD 0 0=a:=by rw [iH _ _ _ _ ae,if_pos ae]
theorem ab2 (d:Nat) (a b:Rat):(bu d a b).getD (2*(d+1)-1) 0=b:=by rw [iH _ _ _ _ ae,if_neg ae]
theorem adb {d:Nat} {a b:Rat} {R:Nat} (ha:rl a<=R) (hb:rl b<=R):∀ x∈bu d a b,rl x<=R:=fun x hx=>by
 rcases o8.1 hx with g | g
 ·rw [(sZ.1 g).2];exact ha
 ·rw [(sZ.1 g).2];exact hb
theorem aG7 {d m:Nat} {a b:Rat} (h:m<2*(d+1)) (h2:m<=d):(bu d a b).take m++[a]=(bu d a b).take (m+1):=by
 have e:=iH d a b m h
 rw [if_pos ae] at e
 rw [<-ab6 (l:=bu d a b) (k:=m) (by rw [lL];exact h),e]
theorem aEj {d m:Nat} {a b:Rat} (h:m<2*(d+1)) (h2:¬m<=d):(bu d a b).take m++[b]=(bu d a b).take (m+1):=by
 have e:=iH d a b m h
 rw [if_neg ae] at e
 rw [<-ab6 (l:=bu d a b) (k:=m) (by rw [lL];exact h),e]
theorem aJF {a b:Rat} (h:a<b):fb a b=a:=by unfold fb;rw [if_neg cj]
theorem aEL {a b:Rat} (h:a<b):eQ a b=b:=by unfold eQ;rw [if_pos h]
theorem avh {p:List Rat} {x:Rat} (hl:p.length<=7) (hp:∀ y∈p,rl y<=7000000) (hx:rl x<=100000):HS p x:=by
 have h1:=jF 1 x
 have h0:rl 1=1:=rfl
 refine⟨rl (1-x)+rl x+1,bq _,ae,fun y hy=>?_⟩
 have h2:=hp y hy
 have h3:2 ^ p.length<=2 ^ 7:=mh aj hl
 have h4:(rl y+(rl (1-x)+rl x+1))*2 ^ p.length<=8000000*2 ^ 7:=mM ae h3
 omega
theorem aEd {p:List Rat} {x:Rat} {R S:Nat} (hl:p.length<=7) (hp:∀ y∈p,rl y<=R) (hR:1<=R) (hx:rl (1-x)+rl x+1<=S):∀ y∈nU p x,rl y<=(R+S)*64:=fun y hy=>by
 obtain⟨j,hj,rfl⟩:=List.mem_iff_getElem.1 hy
 have jr:j<p.length:=by rw [aaA] at hj;exact hj
 have e:(nU p x)[j]=(nU p x).getD j 0:=by rw [bp,b7 hj];rfl
 rw [e,aic jr]
 have h1:=aiL (a:=1-x) (b:=x) (p.length-1-j) (fun i=>p.getD (j+i) 0) R (fun i=>iX hR hp _)
 have h2:2 ^ (p.length-1-j)<=64:=mh (n:=2) aj (show p.length-1-j<=6 by omega)
 exact ba h1 (mM ae h2)
theorem aBP {n:Nat} (h:2*n<=9223372036854775807):dN .mul .i64 2 (n:Nat)=some (.int .i64 ((2*n:Nat):Int)):=by
 rw [air ae ae];congr 2
theorem ayF (d sz:Nat) (x z:LV) (Z:Nat->Prop) (μ:Nat->Option Nat) (w:World) (cs:List Value) (h:aB Z μ w (.agg [x,.v (.slice none 0 0),z]) cs):aB Z μ w (.agg [x,.ref d sz 0 0,z]) cs:=by
 simp only [aB,cC] at h ⊢
 obtain⟨c1,c2,e1,e2,e3,c3,c4,e4,e5,e6,c5,c6,e7,e8,e9,e10⟩:=h
 exact⟨c1,c2,e1,e2,e3,c3,c4,e4,e5,.inl ⟨e6.1,trivial⟩,c5,c6,e7,e8,e9,e10⟩
namespace ath
theorem aO {p q:Prop} (k:q) (e:p=q:=by simp only [e1,e2,e3,e4,p1,p2,p3,q1,q2,q3,l1,t0,t1,r1,r2,r3,r4,Nat.zero_add,Nat.reduceMul,Nat.reduceAdd,b1,b2,b3,b4,b5,b6,i1,i2,i3,i4,i5,i6,Nat.reduceBEq,gZ,iS,nt,nm,jK,List.length_cons,List.length_nil,List.nil_append,List.map_nil,List.take_nil,List.append_nil,List.set_cons_zero,List.set_cons_succ,Nat.reduceEqDiff,reduceIte,if_true,if_false,eN,eY,aV bl,aV bF,aV ar,cU,eu,LV.kill,bX];exact rfl):p:=e.mpr k
end ath
open ath in
theorem aIO (d:Nat) (kn:List Rat) (po:List aG) (R:Nat) (hR:R<=1000000) (h:ow po d R):ax an 99 [.agg [ai d,.list 3 (kn.map ah),.list 12 (po.map aY)]] (.list 9 ((po.map (·.p)).map a5)):=by
 have hl:=h.hl
 have hd:=h.hd
 have h6:=h.h6
 have gh:LV.pure (.agg [ai d,.list 3 (kn.map ah),.list 12 (po.map aY)])=true:=by simp [LV.pure,aN,a7 ar,a7 bF]
 refine aW Tryz.func99 (ht:=(fun g=>LV.di g _ (fc bl _ _))) ?_
 have gZ:True:=trivial
 have iS:True:=trivial
 refine aaN ?_
 refine lR ((az.kill _ 1).trans (az.own (t:=3) 17 9 rfl rfl)) ?_
 refine dV (fun(i:Nat) L=>(((((St.mk L.slot (hp [(17,⟨9,((po.map (·.p)).take i).map a5,true⟩)])).put (some 3) (.ref 17 9 0 i)).put (some 7) (.list 12 (po.map aY))).put (some 8) (ai po.length)).put (some 9) (ai i))) (fun i=>i<=po.length) (fun i=>po.length-i) 0 (b8 _) ?_
 rintro i L1 hi
 refine aC ?_
 refine aH rfl ?_ ?_<;>intro ob qf
 ·have dR:i<po.length:=by omega
  have iS:=acy (·.p) po dR
  have htl:((po.map (·.p)).take i).length=i:=by rw [eP,dL];omega
  have gZ:(((po.map (·.p)).take i).map a5).take i=((po.map (·.p)).take i).map a5:=dg kR
  refine jI ?_
  refine bS rfl (.iJ (d:=17) (news:=[a5 (po.getD i default).p]) rfl rfl rfl rfl bz (.inl rfl) aj wK wK Z40 ju cs B40 (.inl ⟨16,0,_,rfl,by decide,rfl,rfl,by simp,rfl,by simp [aN,bl.pure]⟩) bz bz aj) ?_
  refine aA ?_
  refine cM ((az.kill _ 5).trans (az.kill _ 16)) ?_
  refine ak rfl cV ?_
  refine aQ ?_
  exact l5
 ·obtain rfl:i=po.length:=by omega
  have hE:(po.map (·.p)).take po.length=(po.map (·.p)):=dg aM
  refine bG ?_
  simp only [hE]
  exact o4 [17] rfl rfl (fI bl rfl rfl aM)
open iy in
theorem aye (q:aG) (R:Nat) (hR:R<=1000000) (h:sf R q):ax an 153 [aY q] (.agg [ah (q.w*q.p.x),ah (q.w*q.p.y),ah (q.w*q.p.z),ah q.w]):=by
 obtain⟨⟨a1,a2,a3⟩,a4,_⟩:=h
 have hA:=jJ q.w 0 (by have:rl 0=1:=rfl;omega)
 rw [kP] at hA
 refine aW Tryz.func153 (ht:=(fun g=>LV.di g _ pu)) ?_
 refine pa ?_
 refine bN ?_
 refine aC ?_
 refine cu (b:=_) rfl aj ?_
 refine qF ?_
 refine cp au (iR q.w q.p.x ae) ?_
 refine bc ?_
 refine cM (az.kill _ 5) ?_
 refine aA ?_
 refine bN ?_
 refine aC ?_
 refine cu (b:=_) rfl aj ?_
 refine qF ?_
 refine cp au (iR q.w q.p.y ae) ?_
 refine bc ?_
 refine cM (az.kill _ 5) ?_
 refine aA ?_
 refine bN ?_
 refine aC ?_
 refine cu (b:=_) rfl aj ?_
 refine qF ?_
 refine cp au (iR q.w q.p.z ae) ?_
 refine bc ?_
 refine cM (az.kill _ 5) ?_
 refine aA ?_
 refine bN ?_
 refine aC ?_
 refine ff (b:=_) rfl aj ?_
 refine bD ?_
 refine ak rfl qY ?_
 refine cp au (hA) ?_
 refine bC ?_
 exact iG [] rfl rfl rfl cs (dZ cs rfl) abo (.pure pu)
namespace axN
theorem aO {p q:Prop} (k:q) (e:p=q:=by simp only [e1,e2,e3,e4,p1,p2,p3,q1,q2,q3,l1,t0,t1,r1,r2,r3,r4,Nat.zero_add,Nat.reduceMul,Nat.reduceAdd,b1,b2,b3,b4,b5,b6,i1,i2,i3,i4,i5,i6,Nat.reduceBEq,awg,avO,aff,ayj,ayX,auf,agB,av8,nt,nm,jK,List.length_cons,List.length_nil,List.nil_append,List.map_nil,List.take_nil,List.append_nil,List.set_cons_zero,List.set_cons_succ,Nat.reduceEqDiff,reduceIte,if_true,if_false,eN,eY,aV bl,aV bF,aV ar,cU,eu,LV.kill,bX];exact rfl):p:=e.mpr k
end axN
open axN in
theorem ah2 (d:Nat) (kn:List Rat) (po:List aG) (R:Nat) (hR:R<=1000000) (h:ow po d R):ax an 93 [.agg [ai d,.list 3 (kn.map ah),.list 12 (po.map aY)]] (.agg [.list 3 ((a8 po 0).map ah),.list 3 ((a8 po 1).map ah),.list 3 ((a8 po 2).map ah),.list 3 ((aL po).map ah)]):=by
 have hl:=h.hl
 have hd:=h.hd
 have h6:=h.h6
 have gh:LV.pure (.agg [ai d,.list 3 (kn.map ah),.list 12 (po.map aY)])=true:=by simp [LV.pure,aN,a7 ar,a7 bF]
 have jn:=kY po 0
 have nQ:=kY po 1
 have nL:=kY po 2
 have hn3:=mC po
 refine aW Tryz.func93 (ht:=(fun g=>LV.di g _ (by simp [LV.pure,aN,a7 ar]))) ?_
 have awg:True:=trivial
 have avO:True:=trivial
 have aff:True:=trivial
 have ayj:True:=trivial
 have ayX:True:=trivial
 have auf:True:=trivial
 have agB:True:=trivial
 have av8:True:=trivial
 refine aaN ?_
 refine lR (((az.kill _ 1).trans (az.cell 3 rfl (fun Z μ w cs h=>aGi 1001 1002 1003 1004 3 Z μ w cs h))).trans ((az.xh _ 1001 3 rfl).trans ((az.xh _ 1002 3 rfl).trans ((az.xh _ 1003 3 rfl).trans (az.xh _ 1004 3 rfl))))) ?_
 refine dV (fun(j:Nat) L=>((((((St.mk L.slot (hp [(2,⟨4,[.agg [.v (.slice none 0 0),.v (.slice none 0 0),.v (.slice none 0 0),.v (.slice none 0 0)]],true⟩),(3,⟨4,[.agg [.ref 1001 3 0 j,.ref 1002 3 0 j,.ref 1003 3 0 j,.ref 1004 3 0 j]],true⟩),(1001,⟨3,((a8 po 0).take j).map ah,true⟩),(1002,⟨3,((a8 po 1).take j).map ah,true⟩),(1003,⟨3,((a8 po 2).take j).map ah,true⟩),(1004,⟨3,((aL po).take j).map ah,true⟩)])).put (some 2) (.aD 2 4 0 0)).put (some 3) (.aD 3 4 0 0)).put (some 9) (.list 12 (po.map aY))).put (some 10) (ai po.length)).put (some 11) (ai j))) (fun j=>j<=po.length) (fun j=>po.length-j) 0 (b8 _) ?_
 rintro j L1 hj
 refine aC ?_
 refine aH rfl ?_ ?_<;>intro adI h12
 ·have jr:j<po.length:=by omega
  have fT:=h.ok _ (sJ jr)
  have ayX:(a8 po 0).take j++[(po.getD j default).w*(po.getD j default).p.x]=(a8 po 0).take (j+1):=acy (fun q:aG=>q.w*q.p.at 0) po jr
  have auf:(a8 po 1).take j++[(po.getD j default).w*(po.getD j default).p.y]=(a8 po 1).take (j+1):=acy (fun q:aG=>q.w*q.p.at 1) po jr
  have agB:(a8 po 2).take j++[(po.getD j default).w*(po.getD j default).p.z]=(a8 po 2).take (j+1):=acy (fun q:aG=>q.w*q.p.at 2) po jr
  have av8:(aL po).take j++[(po.getD j default).w]=(aL po).take (j+1):=acy (fun q:aG=>q.w) po jr
  have awg:(((a8 po 0).take j).map ah).take j=((a8 po 0).take j).map ah:=dg zF
  have avO:(((a8 po 1).take j).map ah).take j=((a8 po 1).take j).map ah:=dg zF
  have aff:(((a8 po 2).take j).map ah).take j=((a8 po 2).take j).map ah:=dg zF
  have ayj:(((aL po).take j).map ah).take j=((aL po).take j).map ah:=dg zF
  refine iE ?_
  refine cp aR (aye (po.getD j default) R hR fT) ?_
  refine aA ?_
  refine bN ?_
  refine aC ?_
  refine cu (b:=_) rfl aj ?_
  refine dH ?_
  refine iC 6 [0] aq ?_
  refine aC ?_
  refine bS rfl (.iJ (d:=1001) (news:=[ah ((po.getD j default).w*(po.getD j default).p.x)]) rfl rfl rfl rfl bz (.inl rfl) aj sD sD mq db rfl mY (.inl ⟨26,0,_,rfl,by decide,rfl,rfl,by simp,rfl,by simp [aN,ar.pure]⟩) bz bz aj) ?_
  refine bc ?_
  refine cM ((az.kill _ 7).trans (az.kill _ 26)) ?_
  refine aA ?_
  refine bN ?_
  refine aC ?_
  refine cu (b:=_) rfl aj ?_
  refine dH ?_
  refine iC 6 [0] aq ?_
  refine aC ?_
  refine bS rfl (.iJ (d:=1002) (news:=[ah ((po.getD j default).w*(po.getD j default).p.y)]) rfl rfl rfl rfl bz (.inl rfl) aj sD sD mq db rfl mY (.inl ⟨26,0,_,rfl,by decide,rfl,rfl,by simp,rfl,by simp [aN,ar.pure]⟩) bz bz aj) ?_
  refine bc ?_
  refine cM ((az.kill _ 7).trans (az.kill _ 26)) ?_
  refine aA ?_
  refine bN ?_
  refine aC ?_
  refine cu (b:=_) rfl aj ?_
  refine dH ?_
  refine iC 6 [0] aq ?_
  refine aC ?_
  refine bS rfl (.iJ (d:=1003) (news:=[ah ((po.getD j default).w*(po.getD j default).p.z)]) rfl rfl rfl rfl bz (.inl rfl) aj sD sD mq db rfl mY (.inl ⟨26,0,_,rfl,by decide,rfl,rfl,by simp,rfl,by simp [aN,ar.pure]⟩) bz bz aj) ?_
  refine bc ?_
  refine cM ((az.kill _ 7).trans (az.kill _ 26)) ?_
  refine aA ?_
  refine bN ?_
  refine aC ?_
  refine cu (b:=_) rfl aj ?_
  refine dH ?_
  refine iC 6 [0] aq ?_
  refine aC ?_
  refine bS rfl (.iJ (d:=1004) (news:=[ah ((po.getD j default).w)]) rfl rfl rfl rfl bz (.inl rfl) aj sD sD mq db rfl mY (.inl ⟨26,0,_,rfl,by decide,rfl,rfl,by simp,rfl,by simp [aN,ar.pure]⟩) bz bz aj) ?_
  refine bc ?_
  refine cM ((az.kill _ 7).trans (az.kill _ 26)) ?_
  refine aA ?_
  refine bN ?_
  refine aC ?_
  refine ff (b:=_) rfl aj ?_
  refine aC ?_
  refine cM (az.kill _ 5) ?_
  refine ak rfl cV ?_
  refine aQ ?_
  exact y9
 ·obtain rfl:j=po.length:=by omega
  have hE0:(a8 po 0).take po.length=(a8 po 0):=dg ae
  have hE1:(a8 po 1).take po.length=(a8 po 1):=dg ae
  have hE2:(a8 po 2).take po.length=(a8 po 2):=dg ae
  have hE3:(aL po).take po.length=(aL po):=dg ae
  refine bG ?_
  simp only [hE0,hE1,hE2,hE3]
  exact iG [1001,1002,1003,1004] rfl rfl rfl cs (dZ cs rfl) aww (.agg (.cons (fI ar rfl rfl jn.symm) (.cons (fI ar rfl rfl nQ.symm) (.cons (fI ar rfl rfl nL.symm) (.cons (fI ar rfl rfl hn3.symm) .nil)))))
namespace asO
theorem aO {p q:Prop} (k:q) (e:p=q:=by simp only [e1,e2,e3,e4,p1,p2,p3,q1,q2,q3,l1,t0,t1,r1,r2,r3,r4,Nat.zero_add,Nat.reduceMul,Nat.reduceAdd,b1,b2,b3,b4,b5,b6,i1,i2,i3,i4,i5,i6,Nat.reduceBEq,cN,iI,cg,iT,List.length_map,List.set_cons_zero,List.set_cons_succ,Nat.reduceEqDiff,reduceIte,if_true,if_false,eN,eY,aV bl,aV bF,aV ar,cU,eu,LV.kill,bX];exact rfl):p:=e.mpr k
end asO
open asO in
theorem ahD (d:Nat) (a b:Rat) (po:List aG) (ha:rl a<=100) (hb:rl b<=100) (cL:a<b) (h9:d<=6):ax an 41 [.agg [ai d,.list 3 ((bu d a b).map ah),.list 12 (po.map aY)]] (aE (a,b)):=by
 have iI:=lL d a b
 have cg:=aaS d a b
 have iT:=ab2 d a b
 have gh:LV.pure (.agg [ai d,.list 3 ((bu d a b).map ah),.list 12 (po.map aY)])=true:=by simp [LV.pure,aN,a7 ar,a7 bF]
 have hS:=acg a b ae
 rw [aJF cL,aEL cL] at hS
 refine aW Tryz.func41 ?_
 refine iE ?_
 refine aH rfl ?_ ?_<;>intro x8 h6
 ·omega
 ·refine aQ ?_
  refine a9 13 aq ?_
  refine bD ?_
  refine ak rfl lK ?_
  refine aT ?_
  try simp only [t1,cN,iI,cg,iT,dL]
  refine cp au (hS) ?_
  refine aA ?_
  exact uy
open iy in
theorem anS (d:Nat) (a b:Rat) (po:List aG) (ha:rl a<=100) (hb:rl b<=100) (cL:a<b) (h9:d<=6) (t x:Rat) (ht:rl t<=100) (h1:a<=t) (h2:t<=b) (hx:(t-a)/(b-a)=x) (oR:0<po.length):ax an 91 [.agg [ai d,.list 3 ((bu d a b).map ah),.list 12 (po.map aY)],ah t] (.bf [ah x,ah (b-a),bL true]):=by
 have iI:=lL d a b
 have cg:=aaS d a b
 have iT:=ab2 d a b
 have gh:LV.pure (.agg [ai d,.list 3 ((bu d a b).map ah),.list 12 (po.map aY)])=true:=by simp [LV.pure,aN,a7 ar,a7 bF]
 have yG:=jF t a
 have hz2:=jF b a
 have hD:=ahD d a b po ha hb cL h9
 have hW:ax an 164 [aE (a,b)] (ah (b-a)):=ami (a,b) (by show rl b+rl a<=_;omega)
 have hQ:ax an 169 [ah (t-a),ah (b-a)] (.bf [ah x,iL 0]):=by
  have:=wY (t-a) (b-a) ae
  rw [if_neg cj,hx] at this
  exact this
 have hH:ax an 103 [aE (a,b),ah t] (bL true):=by
  have:=ajw (a,b) t (by show rl a+rl t<=_;omega) (by show rl t+rl b<=_;omega)
  unfold jX at this
  rw [decide_eq_true h1,decide_eq_true h2] at this
  exact this
 refine aW Tryz.func91 (ht:=(aii (ar.pure _) (ar.pure _) rfl)) ?_
 refine bG ?_
 refine cp aR (hD) ?_
 refine bG ?_
 refine ez 15 rfl ?_ ?_<;>intro qI nG
 ·omega
 ·refine aT ?_
  refine cp au (hH) ?_
  refine aA ?_
  refine aH rfl ?_ ?_<;>intro aaL h20
  ·first | exact h20.elim | cases aaL
  ·refine bc ?_
   refine cp aR (hW) ?_
   refine aA ?_
   refine iC 9 [8] aq ?_
   refine aQ ?_
   refine cp au (sw t a ae) ?_
   refine av ?_
   refine cp au (hQ) ?_
   refine bo ?_
   refine ab3 ?_
   refine iP 2 rfl rfl aq (.pure (.move _)) lD iQ ?_
   refine iP 3 rfl rfl aq (.pure biA) lD iQ ?_
   refine kz 0 1 _ _ aq rfl rfl ?_ ?_
   ·refine av ?_
    refine aK ?_
    refine kz 1 4 _ _ aq rfl rfl ?_ ?_
    ·refine av ?_
     refine aK ?_
     refine a6 4 _ aq rfl ?_
     refine av ?_
     refine aK ?_
     refine a6 5 _ aq rfl ?_
     refine av ?_
     refine aK ?_
     refine a6 6 _ aq rfl ?_
     refine av ?_
     refine aK ?_
     refine fW aq ?_
     refine aT ?_
     exact anN
    ·refine av ?_
     refine aK ?_
     refine a6 1 _ aq rfl ?_
     refine av ?_
     refine aK ?_
     refine a6 5 _ aq rfl ?_
     refine av ?_
     refine aK ?_
     refine a6 6 _ aq rfl ?_
     refine av ?_
     refine aK ?_
     refine fW aq ?_
     refine aT ?_
     exact anN
   ·refine av ?_
    refine aK ?_
    refine a6 0 _ aq rfl ?_
    refine av ?_
    refine aK ?_
    refine a6 4 _ aq rfl ?_
    refine av ?_
    refine aK ?_
    refine a6 5 _ aq rfl ?_
    refine av ?_
    refine aK ?_
    refine a6 6 _ aq rfl ?_
    refine av ?_
    refine aK ?_
    refine fW aq ?_
    refine aT ?_
    exact anN
namespace ajV
theorem aO {p q:Prop} (k:q) (e:p=q:=by simp only [e1,e2,e3,e4,p1,p2,p3,q1,q2,q3,l1,t0,t1,r1,r2,r3,r4,Nat.zero_add,Nat.reduceMul,Nat.reduceAdd,b1,b2,b3,b4,b5,b6,i1,i2,i3,i4,i5,i6,Nat.reduceBEq,List.getD_cons_zero,List.set_cons_zero,List.set_cons_succ,Nat.reduceEqDiff,reduceIte,if_true,if_false,eN,eY,aV bl,aV bF,aV ar,cU,eu,LV.kill,bX];exact rfl):p:=e.mpr k
end ajV
open ajV in
theorem asI (n0 n1 n2 w:Rat) (R:Nat) (hR:R<=1000000000) (h0:rl n0<=R) (h1:rl n1<=R) (h2:rl n2<=R) (hw:rl w<=R) (ni:0<w):ax an 96 [.agg [ah n0,ah n1,ah n2,ah w]] (aY ⟨⟨n0/w,n1/w,n2/w⟩,w⟩):=by
 have hA:=jJ w 0 (by have:rl 0=1:=rfl;omega)
 rw [kP] at hA
 have aX:w≠0:=by grind
 have hQ0:ax an 169 [ah n0,ah w] (.bf [ah (n0/w),iL 0]):=by
  have:=wY n0 w ae
  rwa [if_neg aX] at this
 have hQ1:ax an 169 [ah n1,ah w] (.bf [ah (n1/w),iL 0]):=by
  have:=wY n1 w ae
  rwa [if_neg aX] at this
 have hQ2:ax an 169 [ah n2,ah w] (.bf [ah (n2/w),iL 0]):=by
  have:=wY n2 w ae
  rwa [if_neg aX] at this
 refine aW Tryz.func96 (ht:=(fun g=>LV.di g _ (bF.pure _))) ?_
 refine bo ?_
 try simp only [List.getD_cons_zero]
 refine aT ?_
 refine ak rfl qY ?_
 refine cp au (hA) ?_
 refine rG (bdW rfl) ?_
 refine bC ?_
 refine bN ?_
 refine aC ?_
 refine cu (b:=_) rfl aj ?_
 refine bM ?_
 refine iC 12 [9] aq ?_
 refine aC ?_
 refine cp au (hQ0) ?_
 refine dM ?_
 refine bN ?_
 refine aC ?_
 refine cu (b:=_) rfl aj ?_
 refine bM ?_
 refine iC 12 [9] aq ?_
 refine aC ?_
 refine cp au (hQ1) ?_
 refine dM ?_
 refine bN ?_
 refine aC ?_
 refine cu (b:=_) rfl aj ?_
 refine bM ?_
 refine iC 12 [9] aq ?_
 refine aC ?_
 refine cp au (hQ2) ?_
 refine dM ?_
 refine bN ?_
 refine aC ?_
 refine ff (b:=_) rfl aj ?_
 refine bG ?_
 exact iG [] rfl rfl rfl cs (dZ cs rfl) uF (.pure pu)
namespace axJ
theorem aO {p q:Prop} (k:q) (e:p=q:=by simp only [e1,e2,e3,e4,p1,p2,p3,q1,q2,q3,l1,t0,t1,r1,r2,r3,r4,Nat.zero_add,Nat.reduceMul,Nat.reduceAdd,b1,b2,b3,b4,b5,b6,i1,i2,i3,i4,i5,i6,Nat.reduceBEq,List.take_zero,gZ,axL,aso,iS,cN,jn,nQ,nL,hn3,List.length_map,nt,nm,jK,List.length_cons,List.length_nil,List.nil_append,List.map_nil,List.take_nil,List.append_nil,List.set_cons_zero,List.set_cons_succ,Nat.reduceEqDiff,reduceIte,if_true,if_false,eN,eY,aV bl,aV bF,aV ar,cU,eu,LV.kill,bX];exact rfl):p:=e.mpr k
end axJ
open axJ in
theorem aCB (d:Nat) (a b:Rat) (po:List aG) (ha:rl a<=100) (hb:rl b<=100) (cL:a<b) (h9:d<=6) (lo hi x y:Rat) (rA:rl lo<=100) (uZ:rl hi<=100) (k1:a<=lo) (k2:lo<hi) (k3:hi<=b) (hx:(lo-a)/(b-a)=x) (hy:(hi-a)/(b-a)=y) (fh:x<1) (xw:rl (1-x)+rl x+1<=20) (hyr:rl (1-y)+rl y+1<=20) (R:Nat) (hR:R<=1000000) (h:ow po d R) (hN:∀ k,∀ z∈a8 po k,rl z<=100000) (hW:∀ z∈aL po,rl z<=100000) (iO:0<=x) (jE:0<=y) (ke:y<=1):ax an 43 [.agg [ai d,.list 3 ((bu d a b).map ah),.list 12 (po.map aY)],ah lo,ah hi] (.bf [.agg [ai d,.list 3 ((bu d lo hi).map ah),.list 12 ((lJ po x y).map aY)],iL 0]):=by
 have hl:=h.hl
 have hd:=h.hd
 have h6:=h.h6
 have gh:LV.pure (.agg [ai d,.list 3 ((bu d a b).map ah),.list 12 (po.map aY)])=true:=by simp [LV.pure,aN,a7 ar,a7 bF]
 have hOx:=anS d a b po ha hb cL h9 lo x rA k1 cj hx ae
 have hOy:=anS d a b po ha hb cL h9 hi y uZ cj k3 hy ae
 have hcm:¬0<=gJ lo hi:=fun e=>by have:=wD.1 e;grind
 have hrx:rl x<=20:=by omega
 have hry:rl y<=20:=by omega
 have uv:rl 0=1:=rfl
 have hAl:=jJ lo 0 ae
 have hAh:=jJ hi 0 ae
 rw [kP] at hAl hAh
 have iI:=lL d lo hi
 have hw3:=adw h
 have px:=abW h 0
 have rX:=abW h 1
 have hq2:=abW h 2
 have jn:(eH (a8 po 0) x y).length=d+1:=by rw [zt];omega
 have nQ:(eH (a8 po 1) x y).length=d+1:=by rw [zt];omega
 have nL:(eH (a8 po 2) x y).length=d+1:=by rw [zt];omega
 have hn3:(eH (aL po) x y).length=d+1:=by rw [zt];omega
 have hsy:=jF y x
 have oG:∀ l:List Rat,aN (l.map ah)=true:=fun l=>a7 ar l
 have ak5:∀ q0 oL tG q3':Rat,LV.pure (.agg [ah q0,ah oL,ah tG,ah q3'])=true:=fun _ _ _ _=>by simp [LV.pure,aN,ar.pure]
 have vL:=jF 1 x
 have hdv:=tA (y-x) (1-x)
 have aX:1-x≠0:=by grind
 have hP:∀ p:List Rat,p.length=d+1->(∀ z∈p,rl z<=100000)->ax an 94 [.list 3 (p.map ah),ah x,ah y] (.list 3 ((eH p x y).map ah)):=fun p hp hz=>by
  have:=aEW p x y ae ae (fun z hh=>ba (hz z hh) aj) ae (fun _=>⟨avh ae (fun z hh=>ba (hz z hh) aj) ae,avh (by rw [aaA];omega) (fun z hh=>ba (aEd ae hz aj xw z hh) aj) ae⟩) (fun e=>absurd e aX)
  rwa [arJ] at this
 have hP0:=hP (a8 po 0) ae (hN 0)
 have hP1:=hP (a8 po 1) ae (hN 1)
 have hP2:=hP (a8 po 2) ae (hN 2)
 have hP3:=hP (aL po) ae hW
 refine aW Tryz.func43 (ht:=(kL (by simp [LV.pure,aN,a7 ar,a7 bF]) rfl)) ?_
 have gZ:True:=trivial
 have axL:True:=trivial
 have aso:True:=trivial
 have iS:True:=trivial
 refine dH ?_
 refine cp au (hOx) ?_
 refine iE ?_
 refine cp au (hOy) ?_
 refine jI ?_
 refine ak (aP (v:=false) rfl rfl ((rfl)) rfl) (.move _) ?_
 refine ak (aP (v:=false) rfl rfl ((rfl)) rfl) (.not rfl) ?_
 refine ak rfl (.ox rfl ((rfl))) ?_
 refine av ?_
 refine ak (aP (v:=false) rfl rfl ((rfl)) rfl) gg ?_
 refine ak (aP (v:=false) rfl rfl ((rfl)) rfl) gg ?_
 refine fG (aP (v:=false) rfl rfl ((rfl)) rfl) (.cons et (.cons et .nil)) (n7 lo hi ae) ?_
 refine ak (aP (v:=false) rfl rfl ((rfl)) rfl) (.bin rfl rfl rfl) ?_
 refine ak rfl (.ox rfl ((rfl))) ?_
 refine aT ?_
 refine aH rfl ?_ ?_<;>intro aLj h46
 ·first | exact hcm h46 | omega
 ·refine bC ?_
  refine cp aR (ah2 d (bu d a b) po R hR h) ?_
  refine aA ?_
  refine bN ?_
  refine aC ?_
  refine cu (b:=_) rfl aj ?_
  refine jI ?_
  refine cp ig (hP0) ?_
  refine bM ?_
  refine bN ?_
  refine aC ?_
  refine cu (b:=_) rfl aj ?_
  refine jI ?_
  refine cp ig (hP1) ?_
  refine bM ?_
  refine bN ?_
  refine aC ?_
  refine cu (b:=_) rfl aj ?_
  refine jI ?_
  refine cp ig (hP2) ?_
  refine bM ?_
  refine bN ?_
  refine aC ?_
  refine cu (b:=_) rfl aj ?_
  refine jI ?_
  refine cp ig (hP3) ?_
  refine bM ?_
  refine bN ?_
  refine aC ?_
  refine ff (b:=_) rfl aj ?_
  refine pU ?_
  refine ak rfl cV ?_
  refine ak rfl (.bin rfl rfl (aBP ae)) ?_
  refine aA ?_
  refine lR ((az.cell 17 rfl (fun Z μ w cs h=>ayF 83 3 _ _ Z μ w cs h)).trans (az.xh _ 83 3 rfl)) ?_
  refine dV (fun(m:Nat) L=>(((((((((St.mk L.slot (hp [(3,⟨3,[.agg [ai d,.list 3 ((bu d a b).map ah),.list 12 (po.map aY)]],true⟩),(4,⟨3,[ah lo],true⟩),(5,⟨3,[ah hi],true⟩),(6,⟨3,[.agg [.v (.int .i64 0),.v (.slice none 0 0),.v (.slice none 0 0)]],true⟩),(8,⟨3,[ah x],true⟩),(9,⟨3,[ah (b-a)],true⟩),(11,⟨3,[ah y],true⟩),(12,⟨3,[ah (b-a)],true⟩),(14,⟨4,[.agg [.list 3 ((eH (a8 po 0) x y).map ah),.list 3 ((eH (a8 po 1) x y).map ah),.list 3 ((eH (a8 po 2) x y).map ah),.list 3 ((eH (aL po) x y).map ah)]],true⟩),(17,⟨3,[.agg [ai d,.ref 83 3 0 m,.v (.slice none 0 0)]],true⟩),(83,⟨3,((bu d lo hi).take m).map ah,true⟩)])).put (some 3) (.aD 3 3 0 0)).put (some 4) (.aD 4 3 0 0)).put (some 5) (.aD 5 3 0 0)).put (some 6) (.aD 6 3 0 0)).put (some 14) (.aD 14 4 0 0)).put (some 17) (.aD 17 3 0 0)).put (some 67) (ai (2*(d+1)))).put (some 68) (ai m))) (fun m=>m<=2*(d+1)) (fun m=>2*(d+1)-m) 0 (b8 _) ?_
  rintro m L2 hm
  refine aC ?_
  refine aH rfl ?_ ?_<;>intro aqw h69
  ·have fe:m<2*(d+1):=by omega
   have lF:((bu d lo hi).take m).length=m:=by rw [eP];omega
   have gZ:(((bu d lo hi).take m).map ah).take m=((bu d lo hi).take m).map ah:=dg kR
   refine azz ?_
   refine aH rfl ?_ ?_<;>intro aLS h75
   ·have hmd:¬m<=d:=by omega
    have aso:=aEj (a:=lo) (b:=hi) fe hmd
    refine bc ?_
    refine a9 6 aq ?_
    refine aA ?_
    first | refine cp au hAl ?_ | refine cp au hAh ?_
    refine av ?_
    first | refine bS rfl (.app (news:=[ah lo]) rfl rfl rfl rfl rfl kR (.inl rfl) aj dI dI mq db rfl mY (.inl ⟨82,0,_,rfl,by decide,rfl,rfl,by simp,rfl,by simp [aN,ar.pure]⟩) bz bz aj) ?_ | refine bS rfl (.app (news:=[ah hi]) rfl rfl rfl rfl rfl kR (.inl rfl) aj dI dI mq db rfl mY (.inl ⟨82,0,_,rfl,by decide,rfl,rfl,by simp,rfl,by simp [aN,ar.pure]⟩) bz bz aj) ?_
    refine bc ?_
    refine cM ((az.kill _ 19).trans (az.kill _ 82)) ?_
    refine ak rfl cV ?_
    refine aQ ?_
    exact jL (m+1) ae
   ·have hmd:m<=d:=by omega
    have axL:=aG7 (a:=lo) (b:=hi) fe hmd
    refine aT ?_
    refine a9 6 aq ?_
    refine aA ?_
    first | refine cp au hAl ?_ | refine cp au hAh ?_
    refine av ?_
    first | refine bS rfl (.app (news:=[ah lo]) rfl rfl rfl rfl rfl kR (.inl rfl) aj dI dI mq db rfl mY (.inl ⟨82,0,_,rfl,by decide,rfl,rfl,by simp,rfl,by simp [aN,ar.pure]⟩) bz bz aj) ?_ | refine bS rfl (.app (news:=[ah hi]) rfl rfl rfl rfl rfl kR (.inl rfl) aj dI dI mq db rfl mY (.inl ⟨82,0,_,rfl,by decide,rfl,rfl,by simp,rfl,by simp [aN,ar.pure]⟩) bz bz aj) ?_
    refine bc ?_
    refine cM ((az.kill _ 19).trans (az.kill _ 82)) ?_
    refine ak rfl cV ?_
    refine aQ ?_
    exact jL (m+1) ae
  ·obtain rfl:m=2*(d+1):=by omega
   have hEk:(bu d lo hi).take (2*(d+1))=(bu d lo hi):=dg ae
   simp only [hEk]
   refine iE ?_
   refine lR ((az.cell 17 rfl (fun Z μ w cs h=>agc 117 12 _ _ Z μ w cs h)).trans (az.xh _ 117 12 rfl)) ?_
   refine dV (fun(j:Nat) L=>(((((((((St.mk L.slot (hp [(3,⟨3,[.agg [ai d,.list 3 ((bu d a b).map ah),.list 12 (po.map aY)]],true⟩),(4,⟨3,[ah lo],true⟩),(5,⟨3,[ah hi],true⟩),(6,⟨3,[.agg [.v (.int .i64 0),.v (.slice none 0 0),.v (.slice none 0 0)]],true⟩),(8,⟨3,[ah x],true⟩),(9,⟨3,[ah (b-a)],true⟩),(11,⟨3,[ah y],true⟩),(12,⟨3,[ah (b-a)],true⟩),(14,⟨4,[.agg [.list 3 ((eH (a8 po 0) x y).map ah),.list 3 ((eH (a8 po 1) x y).map ah),.list 3 ((eH (a8 po 2) x y).map ah),.list 3 ((eH (aL po) x y).map ah)]],true⟩),(17,⟨3,[.agg [ai d,.ref 83 3 0 (2*(d+1)),.ref 117 12 0 j]],true⟩),(83,⟨3,(bu d lo hi).map ah,true⟩),(117,⟨12,((lJ po x y).take j).map aY,true⟩)])).put (some 3) (.aD 3 3 0 0)).put (some 4) (.aD 4 3 0 0)).put (some 5) (.aD 5 3 0 0)).put (some 6) (.aD 6 3 0 0)).put (some 14) (.aD 14 4 0 0)).put (some 17) (.aD 17 3 0 0)).put (some 88) (ai (d+1))).put (some 89) (ai j))) (fun j=>j<=d+1) (fun j=>d+1-j) 0 (b8 _) ?_
   rintro j L3 hj
   refine aC ?_
   refine aH rfl ?_ ?_<;>intro aGm h90
   ·have jr:j<d+1:=by omega
    have hpj:=ahf h iO fh jE ke (j:=j) ae
    have lF:((lJ po x y).take j).length=j:=by rw [eP,uD];omega
    have gZ:(((lJ po x y).take j).map aY).take j=((lJ po x y).take j).map aY:=dg kR
    have iS:(lJ po x y).take j++[wM po x y j]=(lJ po x y).take (j+1):=by
     rw [<-amW (x:=x) (y:=y) (show j<po.length by omega),zB,bp,b7 (by rw [uD];omega)];rfl
    have hcw:rl ((eH (aL po) x y).getD j 0)<=500000000:=by
     rw [aeG h fh ae]
     exact ba (ag2 (R:=100000) xw hyr h6 ae fun i=>iX aj hW i) aj
    have aDo:rl ((eH (a8 po 0) x y).getD j 0)<=500000000:=by
     rw [acB h fh 0 ae]
     exact ba (ag2 (R:=100000) xw hyr h6 ae fun i=>iX aj (hN 0) i) aj
    have aE6:rl ((eH (a8 po 1) x y).getD j 0)<=500000000:=by
     rw [acB h fh 1 ae]
     exact ba (ag2 (R:=100000) xw hyr h6 ae fun i=>iX aj (hN 1) i) aj
    have aG1:rl ((eH (a8 po 2) x y).getD j 0)<=500000000:=by
     rw [acB h fh 2 ae]
     exact ba (ag2 (R:=100000) xw hyr h6 ae fun i=>iX aj (hN 2) i) aj
    have hFP:ax an 96 [.agg [ah ((eH (a8 po 0) x y).getD j 0),ah ((eH (a8 po 1) x y).getD j 0),ah ((eH (a8 po 2) x y).getD j 0),ah ((eH (aL po) x y).getD j 0)]] (aY (wM po x y j)):=asI _ _ _ _ 500000000 aj aDo aE6 aG1 hcw hpj
    refine bM ?_
    refine a9 25 aq ?_
    refine abi ?_
    have aKR:=ak5 ((eH (a8 po 0) x y).getD j 0) ((eH (a8 po 1) x y).getD j 0) ((eH (a8 po 2) x y).getD j 0) ((eH (aL po) x y).getD j 0)
    refine cp aR (hFP) ?_
    refine av ?_
    refine bS rfl (.app (news:=[aY (wM po x y j)]) rfl rfl rfl rfl rfl kR (.inl rfl) aj wB wB Z42 uF cs B42 (.inl ⟨116,0,_,rfl,by decide,rfl,rfl,by simp,rfl,by simp [aN,bF.pure]⟩) bz bz aj) ?_
    refine bc ?_
    refine cM (az.kill _ 116) ?_
    refine ak rfl cV ?_
    refine aQ ?_
    exact y9
   ·obtain rfl:j=d+1:=by omega
    have hEp:(lJ po x y).take (d+1)=(lJ po x y):=dg (by rw [uD];omega)
    refine dH ?_
    simp only [hEp]
    exact vW [83,117] rfl rfl rfl cs (dZ cs rfl) mj (.agg (.cons (.pure rfl) (.cons (fI (l:=bu d lo hi) ar rfl rfl iI.symm) (.cons (fI (l:=lJ po x y) bF rfl rfl (by rw [uD];omega)) .nil)))) rfl (.pure rfl)
theorem aFo {P:Program} {L:St} {a:Nat} {T:TypeId} {b sz t:Nat} {x y x' y':LV} {m:Bool} {n:Nat} {ag:Bool} {blk:bg} (h:L.slot a=.aD b sz 0 0) (hb:L.heap b=some ⟨sz,[x],m⟩)
  (hx:x.aw=sz) (cm:x.at 0 n ag=some x) (hT:bE P T n ag) (hi:xg L.heap 0 x y) (h':L.slot t=x') (n5:xg L.heap 0 x' y') (gE:L.heap 0=some blk) (hm:blk.mt=true) (hp:aN blk.vals=true):zi P [.cell a T,.tmp t] L (.bf [y,y']) blk :=
 ⟨[x,x'],[y,y'],L.heap,.cons ⟨b,sz,0,0,_,x,n,ag,h,hb,rfl,rfl,hx,cm,hT⟩ (.cons h' .nil),bW.le_refl _,.cons hi (.cons n5 .nil),gE,hm,hp,rfl⟩
def bsj (f:Rat) (v:List Rat) (j:Nat):List Rat:=(c9 v.length).map fun i=>if j<i then v.getD (i-1) 0+f*(v.getD i 0-v.getD (i-1) 0) else v.getD i 0
theorem ag0 (f:Rat) (v:List Rat) (j:Nat):(bsj f v j).length=v.length:=by simp [bsj]
theorem ant (f:Rat) (v:List Rat) (j i:Nat) (h:i<v.length):(bsj f v j).getD i 0=if j<i then v.getD (i-1) 0+f*(v.getD i 0-v.getD (i-1) 0) else v.getD i 0:=by
 unfold bsj
 rw [bp,g8,aue h]
 rfl
theorem afN {p q:List Rat} (h:p.length=q.length) (hg:∀ i,i<p.length->p.getD i 0=q.getD i 0):p=q:=by
 refine vk h fun i h1 h2=>?_
 have:=hg i h1
 rwa [bp,bp,b7 h1,b7 h2] at this
def wR (F:Rat->Rat) (args v:List Rat):Nat->List Rat
 | 0=>v
 | r+1=>bsj (F (args.getD r 0)) (wR F args v r) r
theorem afI (F:Rat->Rat) (args v:List Rat):∀ r,(wR F args v r).length=v.length
 | 0=>rfl
 | r+1=>by rw [wR,ag0,afI F args v r]
def bfS (Q R:Nat):Nat->Nat
 | 0=>R
 | r+1=>3*bfS Q R r+Q+2
theorem atg {Q R:Nat} (hR:1<=R):∀ r,1<=bfS Q R r
 | 0=>hR
 | r+1=>by have:=atg (Q:=Q) hR r;unfold bfS;omega
theorem avi {Q R:Nat} (hR:1<=R):∀ {r s},r<=s->bfS Q R r<=bfS Q R s
 | r,0,h=>by
         obtain rfl:r=0:=by omega
         exact bq _
 | r,s+1,h=>by
  rcases gC s r with g | g
  ·obtain rfl:r=s+1:=by omega
   exact bq _
  ·have:=avi (Q:=Q) hR (r:=r) (s:=s) g
   show _<=3*bfS Q R s+Q+2
   omega
def blo (d:Nat) (a b:Rat) (v args:List Rat):Rat:=(wR (fun t=>(t-a)/(b-a)) args v d).getD d 0
theorem aC3 (v:List Rat) (j i:Nat) (h:i<v.length) (hj:j<i):(bsj 0 v j).getD i 0=v.getD (i-1) 0:=by
 rw [ant _ _ _ _ h,if_pos hj];grind
theorem aFq (v:List Rat) (j:Nat):bsj 1 v j=v:=afN (ag0 _ _ _) fun i hi=>by
 rw [ag0] at hi
 rw [ant _ _ _ _ hi];split<;>grind
theorem aoI {a b:Rat} {args v:List Rat} (n:Nat) (hA:∀ r,r<n->args.getD r 0=a):∀ r,r<=n->∀ i,i<v.length->r<=i->(wR (fun t=>(t-a)/(b-a)) args v r).getD i 0=v.getD (i-r) 0
 | 0,_,i,_,_=>rfl
 | r+1,h,i,hi,hr=>by
  have ih:=aoI (b:=b) (v:=v) n hA r ae (i-1) ae ae
  rw [wR,hA r ae,show (a-a)/(b-a)=0 by rw [Rat.sub_self,iV,Rat.zero_mul],aC3 _ _ _ (by rw [afI];exact hi) ae,ih]
  congr 1;omega
theorem aqi {a b:Rat} (cL:a≠b) {args v:List Rat} (n:Nat) (hB:∀ r,n<=r->r<args.length->args.getD r 0=b):∀ k,n+k<=args.length->wR (fun t=>(t-a)/(b-a)) args v (n+k)=wR (fun t=>(t-a)/(b-a)) args v n
 | 0,_=>rfl
 | k+1,h=>by
  have ih:=aqi cL (v:=v) n hB k ae
  rw [<-Nat.add_assoc,wR,hB (n+k) ae ae,show (b-a)/(b-a)=1 by rw [iV];exact Rat.mul_inv_cancel _ cj,aFq,ih]
theorem ayO {d j:Nat} {a b:Rat} (hj:j<=d):((bu d a b).drop (j+1)).take d=ay (d-j) a++ay j b:=by
 have hl:(((bu d a b).drop (j+1)).take d).length=d:=by rw [eP,lg,lL];omega
 refine afN (by rw [hl,lT,tT,tT];omega) fun i hi=>?_
 rw [hl] at hi
 rw [bp,List.getElem?_take_of_lt hi,List.getElem?_drop,<-bp,iH _ _ _ _ ae]
 by_cases g:i<d-j
 ·rw [if_pos ae,yA (by simpa using g),vz g]
 ·rw [if_neg ae,zc bz,tT,vz ae]
theorem aFz {d j:Nat} {a b:Rat} (cL:a<b) {v:List Rat} (hv:v.length=d+1) (hj:j<=d):blo d a b v (((bu d a b).drop (j+1)).take d)=v.getD j 0:=by
 rw [ayO hj,blo]
 have yY:(ay (d-j) a++ay j b).length=d:=by simp;omega
 have h1:=aqi (a:=a) (b:=b) cj (args:=ay (d-j) a++ay j b) (v:=v) (d-j) (fun r g1 g2=>by rw [yY] at g2;rw [zc (by simpa using g1),tT,vz ae]) j (by rw [yY];omega)
 rw [show d-j+j=d by omega] at h1
 rw [h1,aoI (d-j) (fun r g=>by rw [yA (by simpa using g),vz g]) (d-j) (bq _) d ae ae]
 congr 1;omega
open anv in
theorem aHs (p:List Rat) (hl:p.length<=1048576) (oe:∀ x∈p,rl x<=274877906944):pW an 157 [.list 3 (p.map ah)] (.ref 1 3 0 p.length) [⟨3,p.map ah,true⟩]:=by
 refine fnO Tryz.func157 ?_
 have iS:True:=trivial
 have gZ:True:=trivial
 refine bD ?_
 refine fL rfl rfl (.nh (n:=0) (m:=p.length) ml ml om om om) ?_
 refine bG ?_
 refine dV (fun(k:Nat) L=>(((((St.mk L.slot (hp [(8,⟨3,(p.take k).map ah,true⟩)])).put (some 3) (.ref 8 3 0 k)).put (some 9) (.list 3 (p.map ah))).put (some 10) (ai p.length)).put (some 11) (ai k))) (fun k=>k<=p.length) (fun k=>p.length-k) 0 (b8 _) ?_
 rintro k L1 hk
 refine aC ?_
 refine aH rfl ?_ ?_<;>intro adI h12
 ·have nv:k<p.length:=by omega
  have hrk:=oe _ (dK nv)
  have hA:=jJ (p.getD k 0) 0 (by rw [show rl 0=1 from rfl];omega)
  rw [kP] at hA
  have iS:=ab6 (l:=p) nv
  have gZ:((p.take k).map ah).take k=(p.take k).map ah:=dg zF
  refine iE ?_
  refine ak rfl qY ?_
  refine cp au (hA) ?_
  refine av ?_
  refine bS rfl av4 ?_
  refine aA ?_
  refine cM ((az.kill _ 5).trans (az.kill _ 19)) ?_
  refine ak rfl cV ?_
  refine aQ ?_
  exact jL (k+1) ae
 ·obtain rfl:k=p.length:=by omega
  have hE:p.take p.length=p:=nT
  refine bG ?_
  rw [hE]
  exact agt rfl rfl (a7 ar _)
theorem aBU (p:List Rat) (hl:p.length<=1048576) (oe:∀ x∈p,rl x<=274877906944):ax an 157 [.list 3 (p.map ah)] (.list 3 (p.map ah)):=amR (aHs p hl oe) (a7 ar _) aM
open iy in
theorem aGv (a b t:Rat) (h:rl a+rl b+rl t<=100000) (cL:a<b):ax an 289 [ah a,ah b,ah t] (ah ((t-a)/(b-a))):=by
 have h1:=jF t a
 have h2:=jF b a
 have hQ:ax an 169 [ah (t-a),ah (b-a)] (.bf [ah ((t-a)/(b-a)),iL 0]):=by
  have:=wY (t-a) (b-a) ae
  rwa [if_neg cj] at this
 refine aW Tryz.func289 ?_
 refine bD ?_
 refine iC 11 [9] aq ?_
 refine aT ?_
 refine cp au (sw t a ae) ?_
 refine aT ?_
 refine cp au (sw b a ae) ?_
 refine cp au (hQ) ?_
 refine iE ?_
 exact gy
namespace axW
theorem aO {p q:Prop} (k:q) (e:p=q:=by simp only [e1,e2,e3,e4,p1,p2,p3,q1,q2,q3,l1,t0,t1,r1,r2,r3,r4,Nat.zero_add,Nat.reduceMul,Nat.reduceAdd,b1,b2,b3,b4,b5,b6,i1,i2,i3,i4,i5,i6,Nat.reduceBEq,iI,cg,iT,uK,afR,List.length_map,cN,List.set_cons_zero,List.set_cons_succ,Nat.reduceEqDiff,reduceIte,if_true,if_false,eN,eY,aV bl,aV bF,aV ar,cU,eu,LV.kill,bX];exact rfl):p:=e.mpr k
end axW
open axW in
theorem aAj (d:Nat) (a b t:Rat) (hd:d<=6) (hT:rl a<=100) (hT1:rl b<=100) (ht:rl t<=1000) (h1:a<=t) (h2:t<b):ax an 242 [.list 3 ((bu d a b).map ah),ai d,ah t] (.bf [ai d,iL 0]):=by
 have iI:=lL d a b
 have cg:=aaS d a b
 have iT:=ab2 d a b
 have c1:¬gJ t a<0:=fun e=>by have:=wD.2 h1;omega
 have c2:¬gJ t b > 0:=fun e=>by have:=vB.1 e;grind
 have uK:((2*(d+1):Nat):Int).toNat-1=2*(d+1)-1:=by omega
 have afR:(((2*(d+1):Nat):Int)-1).toNat=2*(d+1)-1:=by omega
 have c3:gJ t b<0:=aeI.2 h2
 refine aW arp (ht:=(kL rfl rfl)) ?_
 refine bD ?_
 refine a9 22 aq ?_
 refine aA ?_
 refine ak (aP (v:=false) rfl rfl ((beq_eq_false_iff_ne.2 ae)) rfl) gg ?_
 refine ak (aP (v:=false) rfl rfl ((beq_eq_false_iff_ne.2 ae)) rfl) (.move _) ?_
 refine ak (aP (v:=false) rfl rfl ((beq_eq_false_iff_ne.2 ae)) rfl) xP ?_
 refine ak (aP (v:=false) rfl rfl ((beq_eq_false_iff_ne.2 ae)) rfl) gg ?_
 try simp only [t1,cN,cg]
 refine fG (aP (v:=false) rfl rfl ((beq_eq_false_iff_ne.2 ae)) rfl) (.cons et (.cons et .nil)) (n7 t a ae) ?_
 refine ak (aP (v:=false) rfl rfl ((beq_eq_false_iff_ne.2 ae)) rfl) (.bin rfl rfl rfl) ?_
 refine ak rfl (.ox rfl ((beq_eq_false_iff_ne.2 ae))) ?_
 refine av ?_
 refine ak (aP (v:=false) rfl rfl ((decide_eq_false c1)) rfl) gg ?_
 refine ak (aP (v:=false) rfl rfl ((decide_eq_false c1)) rfl) (.move _) ?_
 refine ak (aP (v:=false) rfl rfl ((decide_eq_false c1)) rfl) (.move _) ?_
 refine ak (aP (v:=false) rfl rfl ((decide_eq_false c1)) rfl) wV ?_
 refine ak (aP (v:=false) rfl rfl ((decide_eq_false c1)) rfl) (.bin rfl rfl (afV ae ae)) ?_
 refine ak (aP (v:=false) rfl rfl ((decide_eq_false c1)) rfl) xP ?_
 refine ak (aP (v:=false) rfl rfl ((decide_eq_false c1)) rfl) gg ?_
 try simp only [t1,cN,iI,iT,afR]
 refine fG (aP (v:=false) rfl rfl ((decide_eq_false c1)) rfl) (.cons et (.cons et .nil)) (n7 t b ae) ?_
 refine ak (aP (v:=false) rfl rfl ((decide_eq_false c1)) rfl) (.bin rfl rfl rfl) ?_
 refine ak rfl (.ox rfl ((decide_eq_false c1))) ?_
 refine aT ?_
 refine ff (b:=_) rfl (decide_eq_false c2) ?_
 refine dM ?_
 refine dV (fun(i:Nat) L=>(((((St.mk L.slot (hp [(5,⟨3,[ah t],true⟩)])).put (some 0) (.list 3 ((bu d a b).map ah))).put (some 5) (.aD 5 3 0 0)).put (some 8) (ai 0)).put (some 9) (ai i))) (fun i=>i<=d) (fun i=>d-i) 0 (b8 _) ?_
 rintro i L1 hi
 have hA:i<d->¬gJ ((bu d a b).getD i 0) ((bu d a b).getD (i+1) 0)<0:=fun g=>by
  rw [iH _ _ _ _ ae,iH _ _ _ _ ae,if_pos ae,if_pos ae]
  exact fun e=>by have:=wD.2 (show a<=a by grind);omega
 have hB:i=d->gJ ((bu d a b).getD i 0) ((bu d a b).getD (i+1) 0)<0:=fun g=>by
  rw [iH _ _ _ _ ae,iH _ _ _ _ ae,if_pos ae,if_neg ae]
  exact aeI.2 cj
 have ub:=adb (d:=d) hT hT1
 have fu:=ub _ (dK (p:=bu d a b) (i:=i) ae)
 have qj:=ub _ (dK (p:=bu d a b) (i:=i+1) ae)
 refine aA ?_
 refine ak rfl cV ?_
 refine bc ?_
 refine cu (b:=_) rfl (decide_eq_true (by first | omega | (simp only [dL,iI];omega))) ?_
 refine aC ?_
 refine a9 11 aq ?_
 refine aC ?_
 refine ak rfl cV ?_
 refine aT ?_
 try simp only [t1,cN]
 refine cp au (n7 ((bu d a b).getD i 0) ((bu d a b).getD (i+1) 0) ae) ?_
 refine aQ ?_
 refine aH rfl ?_ ?_<;>intro acK h49
 ·have dR:i<d:=by
   rcases gC i d with g | g
   ·exact g
   ·have:=hB ae
    omega
  refine aC ?_
  refine ak rfl cV ?_
  refine aQ ?_
  exact l5
 ·obtain rfl:i=d:=by
   rcases gC i d with g | g
   ·have:=hA g
    omega
   ·omega
  have aHK:(bu i a b).getD (i+1) 0=b:=by rw [iH _ _ _ _ ae,if_neg ae]
  refine bD ?_
  refine a9 8 aq ?_
  refine aQ ?_
  refine ak rfl cV ?_
  refine aT ?_
  try simp only [t1,cN,aHK]
  refine cp au (n7 t b ae) ?_
  refine aQ ?_
  refine aH rfl ?_ ?_<;>intro aw5 h58
  ·refine dM ?_
   exact yI
  ·omega
structure Q4 where
 x:Rat
 y:Rat
 z:Rat
 w:Rat
instance:Inhabited Q4:=⟨⟨0,0,0,0⟩⟩
def dz (q:Q4):LV:=.agg [ah q.x,ah q.y,ah q.z,ah q.w]
theorem lE:iZ dz 12 true:=⟨fun q=>by simp [dz,LV.aw,da,ar.aw],fun _=>rfl,fun q=>by simp [dz,LV.pure,aN,ar.pure]⟩
theorem ad1 (b:Nat) (q:Q4):(dz q).kill b=dz q:=LV.mr b _ (lE.pure q)
def rv (R:Nat) (q:Q4):Prop:=rl q.x<=R/\rl q.y<=R/\rl q.z<=R/\rl q.w<=R
def pol (d:Nat) (a b:Rat) (C:List Q4) (args:List Rat):Q4:=⟨blo d a b (C.map (·.x)) args,blo d a b (C.map (·.y)) args,blo d a b (C.map (·.z)) args,blo d a b (C.map (·.w)) args⟩
theorem aDy {C:List Q4} {i:Nat} (h:i<C.length):C.getD i default∈C:=by
 rw [bp,b7 h];exact qk h
theorem ag4 {C:List Q4} {i:Nat} (h:i<C.length) (f:Q4->Rat):(C.map f).getD i 0=f (C.getD i default):=by
 rw [bp,g8,bp,b7 h];rfl
theorem ahn {A B:List Rat} {i:Nat} (hl:A.length=B.length) (h:i<A.length):(A.take i++B.drop i).set i (A.getD i 0)=A.take (i+1)++B.drop (i+1):=by
 rw [List.set_append_right _ _ (by rw [eP];omega),eP,mf ae,qn,<-ab6 h,xS]
 congr 1
 rw [List.drop_eq_getElem_cons (by omega:i<B.length),List.set_cons_zero];rfl
theorem aiH {A B:List Rat} {i:Nat} (hl:A.length=B.length) (h:i<=A.length):(A.take i++B.drop i).length=A.length:=by
 rw [lT,eP,lg];omega
theorem aim {A B:List Rat} {i:Nat} (hl:A.length=B.length) (h:A.length<=i):A.take i++B.drop i=A:=by
 rw [dg h,kg ae,ng]
theorem ag8 {P:Program} {dst:Option Tmp} {ty:TypeId} {pos:String} {af:Array Edge} {g:Option (Nat × Bool)} {rest:List Oper} {L:St} {K:St->Prop} {f:FuncId} {xs:Array Operand} {ve:Array TypeId} {args:List LV} {r:LV} {ops:Array Oper} (b:Nat) {blk blk':bg} (hg:ef ops L ⟨dst,.call ⟨.value (.func f),xs,ve⟩,ty,pos,af,g⟩ true)
  (hb:L.heap b=some blk) (hm:blk.mt=true) (hp:aN blk.vals=true) (ha:x7 L.heap b (xs.toList.map L.ev) args) (hn:Names b (xs.toList.map L.ev)) (hk:nO P f blk args r blk')
  (qH:blk'.mt=true) (kG:aN blk'.vals=true) (hr:∀ g,r.bV g=r) (k:opsL P false ops rest ((L.bO b (some blk')).put dst r) K) :
  opsL P false ops (⟨dst,.call ⟨.value (.func f),xs,ve⟩,ty,pos,af,g⟩ :: rest) L K :=
 ye b hg hb hm hp ha hn hk qH kG (by rw [hr];exact k)
instance:EC an 159 dz 12 true ⟨0,0,0,0⟩:=⟨lE,ajj,abo⟩
namespace atN
theorem aO {p q:Prop} (k:q) (e:p=q:=by simp only [e1,e2,e3,e4,p1,p2,p3,q1,q2,q3,l1,t0,t1,r1,r2,r3,r4,Nat.zero_add,Nat.reduceMul,Nat.reduceAdd,b1,b2,b3,b4,b5,b6,i1,i2,i3,i4,i5,i6,Nat.reduceBEq,cN,List.set_cons_zero,List.set_cons_succ,Nat.reduceEqDiff,reduceIte,if_true,if_false,eN,eY,aV bl,aV bF,aV ar,cU,eu,LV.kill,bX,List.length_map];exact rfl):p:=e.mpr k
end atN
open atN in
theorem aiV (f:Nat) (cap:List LV) (gh:aN cap=true) (hcs:∀ x∈cap,x.aw=1/\x.isAgg=false) (pr:Rat->Bool) (l:List Rat) (hl:l.length<=1048576) (hf:∀ x∈l,ax an f ([ah x]++cap) (bL (pr x))):ax an 161 [.list 3 (l.map ah),.dq f cap] (iL (ada pr l)):=by
 refine aW Tryz.func161 ?_
 refine dM ?_
 refine dV (fun(i:Nat) L=>((((((St.mk L.slot (hp [])).put (some 0) (.list 3 (l.map ah))).put (some 1) (.dq f cap)).put (some 6) (.list 3 (l.map ah))).put (some 7) (ai l.length)).put (some 8) (ai i))) (fun i=>i<=l.length/\∀ j,j<i->pr (l.getD j default)=false) (fun i=>l.length-i) 0 ⟨b8 _,fun j hj=>absurd hj (ah1 j)⟩ ?_
 rintro i L1 ⟨hi,h0⟩
 refine aC ?_
 refine aH rfl ?_ ?_<;>intro wQ h9
 ·have dR:i<l.length:=by omega
  have hc:=hf _ (dK dR)
  refine jI ?_
  refine oD [] rfl rfl (.dq (f:=f) (cap:=cap) (args:=[ah (l.getD i 0)]) rfl (.cons et .nil) ⟨gh,hcs⟩ hc.1 aj (fun _ h=>by cases h)) (hc.2 _) ?_
  refine aT ?_
  refine aH rfl ?_ ?_<;>intro abC zd
  ·have hV:ada pr l=(i:Int):=agn dR h0 (by first | exact abC | exact zd)
   refine bG ?_
   rw [hV]
   exact n6
  ·have hn:∀ j,j<i+1->pr (l.getD j default)=false:=fun j hj=>by
    rcases al4.1 hj with e | rfl
    ·exact h0 j e
    ·first | exact abC | (simpa using zd)
   refine aA ?_
   refine ak rfl cV ?_
   refine aQ ?_
   exact jL (i+1) ⟨ae,hn⟩
 ·obtain rfl:i=l.length:=by omega
  refine bC ?_
  rw [aI6 h0]
  exact n6
open iy in
theorem arU (a x:Rat) (h:rl a+rl x<=100000):ax an 162 [ah x,.cr (ah a)] (bL (decide (gJ x a > 0))):=by
 refine aW Tryz.func162 ?_
 refine bM ?_
 refine cp au (n7 x a ae) ?_
 refine bc ?_
 exact n6
open iy in
theorem as8 (a x:Rat) (h:rl a+rl x<=100000):ax an 163 [ah x,.cr (ah a)] (bL (decide (gJ x a>=0))):=by
 refine aW Tryz.func163 ?_
 refine bM ?_
 refine cp au (n7 x a ae) ?_
 refine bc ?_
 exact n6
def rq (f:Nat->Rat) (v:List Rat) (j:Nat):List Rat:=(c9 v.length).map fun i=>if j<i then v.getD (i-1) 0+f i*(v.getD i 0-v.getD (i-1) 0) else v.getD i 0
theorem vu (f:Nat->Rat) (v:List Rat) (j:Nat):(rq f v j).length=v.length:=by simp [rq]
theorem u6 (f:Nat->Rat) (v:List Rat) (j i:Nat) (h:i<v.length):(rq f v j).getD i 0=if j<i then v.getD (i-1) 0+f i*(v.getD i 0-v.getD (i-1) 0) else v.getD i 0:=by
 unfold rq
 rw [bp,g8,aue h]
 rfl
theorem aDS (f:Nat->Rat) (v:List Rat) (j:Nat) (h:v.length<=j+1):rq f v j=v :=
 afN (vu f v j) fun i hi=>by
  rw [vu] at hi
  rw [u6 f v j i hi,if_neg ae]
theorem aC5 (f:Nat->Rat) (v:List Rat) (j:Nat) (h0:0<j) (h:j<v.length):(rq f v j).set j (v.getD (j-1) 0+f j*(v.getD j 0-v.getD (j-1) 0))=rq f v (j-1) :=
 afN (by rw [arv,vu,vu]) fun i hi=>by
  rw [arv,vu] at hi
  rw [u6 f v (j-1) i hi,bp,List.getElem?_set]
  by_cases e:j=i
  ·subst e
   rw [if_pos rfl,if_pos (by rw [vu];exact h),if_pos ae];rfl
  ·rw [if_neg e,<-bp,u6 f v j i hi]
   by_cases g:j<i
   ·rw [if_pos g,if_pos ae]
   ·rw [if_neg g,if_neg ae]
def cG (F:Nat->Nat->Rat) (v:List Rat):Nat->List Rat
 | 0=>v
 | r+1=>rq (F r) (cG F v r) r
theorem uC (F:Nat->Nat->Rat) (v:List Rat):∀ r,(cG F v r).length=v.length
 | 0=>rfl
 | r+1=>by rw [cG,vu,uC F v r]
theorem az1 {f:Nat->Rat} {v:List Rat} {Q R j:Nat} (hf:∀ i,j<i->i<v.length->rl (f i)<=Q) (hR:1<=R) (hv:∀ x∈v,rl x<=R):∀ x∈rq f v j,rl x<=3*R+Q+2:=fun x hx=>by
 obtain⟨i,hi,rfl⟩:=afW hx
 rw [vu] at hi
 rw [u6 f v j i hi]
 have a:=iX hR hv i
 have b:=iX hR hv (i-1)
 split
 ·rename_i g
  have h0:=hf i g hi
  have h1:=jF (v.getD i 0) (v.getD (i-1) 0)
  have h2:=df (f i) (v.getD i 0-v.getD (i-1) 0)
  have h3:=lN (v.getD (i-1) 0) (f i*(v.getD i 0-v.getD (i-1) 0))
  omega
 ·omega
theorem ayU {F:Nat->Nat->Rat} {v:List Rat} {Q R n:Nat} (hQ:∀ r i,r<n->r<i->i<v.length->rl (F r i)<=Q) (hR:1<=R) (hv:∀ x∈v,rl x<=R):∀ r,r<=n->∀ x∈cG F v r,rl x<=bfS Q R r
 | 0,_=>hv
 | r+1,h=>az1 (fun i h1 h2=>hQ r i ae h1 (by rwa [uC] at h2)) (atg hR r) (ayU hQ hR hv r ae)
def gF (k:List Rat) (d pc:Nat) (args:List Rat) (r j:Nat):Rat:=(args.getD r 0-k.getD (pc-d+j) 0)/(k.getD (pc+j-r) 0-k.getD (pc-d+j) 0)
def cZ (k:List Rat) (d pc:Nat) (v args:List Rat):Rat:=(cG (gF k d pc args) ((v.drop (pc-d)).take (d+1)) d).getD d 0
def mX (k:List Rat) (d pc:Nat) (C:List Q4) (args:List Rat):Q4:=⟨cZ k d pc (C.map (·.x)) args,cZ k d pc (C.map (·.y)) args,cZ k d pc (C.map (·.z)) args,cZ k d pc (C.map (·.w)) args⟩
structure xk (k:List Rat) (d pc:Nat):Prop where
 d6:d<=6
 kl:k.length<=100
 kr:∀ x∈k,rl x<=100
 srt:∀ i j,i<=j->j<k.length->k.getD i 0<=k.getD j 0
 p1:d<=pc
 p2:pc+d+1<k.length
 lt:k.getD pc 0<k.getD (pc+1) 0
theorem xk.fr {k:List Rat} {d pc:Nat} (h:xk k d pc) {r j:Nat} (h1:r<j) (h2:j<=d):k.getD (pc-d+j) 0<k.getD (pc+j-r) 0:=by
 have a1:=h.p1
 have a2:=h.p2
 have b1:=h.srt (pc-d+j) pc ae ae
 have b2:=h.srt (pc+1) (pc+j-r) ae ae
 have b3:=h.lt
 grind
theorem xk.kn {k:List Rat} {d pc:Nat} (h:xk k d pc) {i:Nat} (hi:i<k.length):rl (k.getD i 0)<=100:=h.kr _ (dK hi)
theorem xk.fl {k:List Rat} {d pc:Nat} (h:xk k d pc) {args:List Rat} (hA:∀ t∈args,rl t<=100) {r j:Nat} (h1:r<j) (h2:j<=d) (h3:r<args.length):rl (gF k d pc args r j)<=402:=by
 have a1:=h.p1
 have a2:=h.p2
 have b1:=h.kn (i:=pc-d+j) ae
 have b2:=h.kn (i:=pc+j-r) ae
 have b3:=hA _ (dK h3)
 have c1:=jF (args.getD r 0) (k.getD (pc-d+j) 0)
 have c2:=jF (k.getD (pc+j-r) 0) (k.getD (pc-d+j) 0)
 have c3:=tA (args.getD r 0-k.getD (pc-d+j) 0) (k.getD (pc+j-r) 0-k.getD (pc-d+j) 0)
 unfold gF
 omega
namespace axZ
theorem aO {p q:Prop} (k:q) (e:p=q:=by simp only [e1,e2,e3,e4,p1,p2,p3,q1,q2,q3,l1,t0,t1,r1,r2,r3,r4,Nat.zero_add,Nat.reduceMul,Nat.reduceAdd,b1,b2,b3,b4,b5,b6,i1,i2,i3,i4,i5,i6,Nat.reduceBEq,fy0,fyc,hnR,hnB,hnC,kK,cN,Rat.add_zero,List.length_map,List.set_cons_zero,List.set_cons_succ,Nat.reduceEqDiff,reduceIte,if_true,if_false,eN,eY,aV bl,aV bF,aV ar,cU,eu,LV.kill,bX];exact rfl):p:=e.mpr k
end axZ
open axZ in
theorem akt (k:List Rat) (t:Rat) (i0:Nat) (h3:i0<k.length) (hl:k.length<=1000) (hr:∀ x∈k,rl x<=100000) (ht:rl t<=100000) (h1:∀ j,j<i0->k.getD j 0<=t) (h2:t<k.getD i0 0):ax an 159 [.list 3 (k.map ah),ah t] (.list 3 ((k.take i0++t :: k.drop i0).map ah)):=by
 have uG:=fc ar 3 k
 have hKc:=ap7 k ae (fun x hx=>ba (hr x hx) aj)
 have hA:=jJ t 0 (by rw [show rl 0=1 from rfl];omega)
 rw [kP] at hA
 have kE:aN [ah t]=true:=by simp [aN,ar.pure]
 have sE:aN (k.map ah)=true:=a7 ar _
 have hIn:=aGG k i0 t h3 hl
 have kK:nq 27 28 1=1000449:=rfl
 have hnR:(LV.ref 1 3 0 (k.length+1)).bV (nq 27 28)=.ref 1000449 3 0 (k.length+1):=rfl
 have hnB:dA (nq 27 28) [ah t]=[ah t]:=oI _ _ kE
 have hnC:dA (nq 27 28) ((k.take i0++t :: k.drop i0).map ah)=(k.take i0++t :: k.drop i0).map ah:=oI _ _ (a7 ar _)
 have hlR:(k.take i0++t :: k.drop i0).length=k.length+1:=by rw [lT,rC,eP,lg];omega
 have sX:∀ i,i<k.length->rl (k.getD i 0)<=100000:=fun i hi=>hr _ (dK hi)
 refine aW Tryz.func159 ?_
 refine dH ?_
 refine dV (fun(i:Nat) L=>((((St.mk L.slot (hp [(3,⟨3,[ah t],true⟩)])).put (some 0) (.list 3 (k.map ah))).put (some 3) (.aD 3 3 0 0)).put (some 5) (ai i))) (fun i=>i<=i0) (fun i=>i0-i) 0 (b8 _) ?_
 rintro i L1 hi
 refine aT ?_
 refine a9 13 aq ?_
 refine bc ?_
 refine ak (aP (v:=true) rfl rfl ((decide_eq_true nc)) rfl) (.move _) ?_
 refine ak (aP (v:=true) rfl rfl ((decide_eq_true nc)) rfl) (.move _) ?_
 refine ak (aP (v:=true) rfl rfl ((decide_eq_true nc)) rfl) xP ?_
 refine ak (aP (v:=true) rfl rfl ((decide_eq_true nc)) rfl) gg ?_
 refine ak (aP (v:=true) rfl rfl ((decide_eq_true nc)) rfl) gg ?_
 try simp only [t1,cN]
 refine fG (aP (v:=true) rfl rfl ((decide_eq_true nc)) rfl) (.cons et (.cons et .nil)) (n7 (k.getD i 0) t (by have:=sX i ae;omega)) ?_
 refine ak (aP (v:=true) rfl rfl ((decide_eq_true nc)) rfl) (.bin rfl rfl rfl) ?_
 refine ak rfl (.ou rfl ((decide_eq_true nc))) ?_
 refine aT ?_
 refine aH rfl ?_ ?_<;>intro uO uY
 ·have dR:i<i0:=by
   rcases gC i i0 with g | g
   ·exact g
   ·obtain rfl:i=i0:=by omega
    have:=vB.2 h2
    omega
  refine bc ?_
  refine ak rfl cV ?_
  refine aA ?_
  exact l5
 ·obtain rfl:i0=i:=by
   rcases gC i i0 with g | g
   ·have:=afm.2 (h1 i g)
    omega
   ·omega
  refine aC ?_
  refine aEu rfl 7 aq aj ?_
  simp only [yd,abV]
  refine av ?_
  refine aba [] rfl rfl (.cons (.pure uG) .nil) hKc (a7 ar _) rfl ?_
  refine aT ?_
  refine ak rfl qY ?_
  refine cp au (hA) ?_
  refine av ?_
  try refine aO ?_
  refine aBA rfl (art (f:=240) (b:=27) (c:=1000353) (sz:=3) (csz:=3) (vals:=[ah t]) (cvals:=k.map ah) 28 rfl aj aj (by rw [oI _ _ kE];rfl) (by rw [oI _ _ sE];rfl) (.cons (.bV (y:=.ref 1 3 0 k.length) ⟨by simp,by simp⟩) (.cons (.cF (.pure rfl)) (.cons (.bV (y:=.ref 0 3 0 1) ⟨by simp,by simp⟩) .nil))) (.tl (.tl (.ref aj))) hIn aM (fun kk hkk=>aI9 (by intro x hx;simp only [List.map_cons,List.map_nil,fx,jy,or_false] at hx;unfold eE;omega))) ?_
  simp only [ur,kK,hnR,hnB,hnC]
  try refine aO ?_
  simp only [ajo,mn]
  refine aA ?_
  exact o4 [1000449] rfl rfl (fI (l:=(k.take i0++t :: k.drop i0)) ar rfl rfl hlR.symm)
namespace axK
theorem aO {p q:Prop} (k:q) (e:p=q:=by simp only [e1,e2,e3,e4,p1,p2,p3,q1,q2,q3,l1,t0,t1,r1,r2,r3,r4,Nat.zero_add,Nat.reduceMul,Nat.reduceAdd,b1,b2,b3,b4,b5,b6,i1,i2,i3,i4,i5,i6,Nat.reduceBEq,afR,List.length_map,cN,List.set_cons_zero,List.set_cons_succ,Nat.reduceEqDiff,reduceIte,if_true,if_false,eN,eY,aV bl,aV bF,aV ar,cU,eu,LV.kill,bX];exact rfl):p:=e.mpr k
end axK
open axK in
theorem apu (d:Nat) (k:List Rat) (t:Rat) (r:Nat) (hl:k.length<=1000) (hr:∀ x∈k,rl x<=100000) (ht:rl t<=100000) (h0:k.getD 0 0<=t) (h1:t<=k.getD (k.length-1) 0) (fu:r+1<k.length) (qj:k.getD r 0<k.getD (r+1) 0) (hA:∀ i,i<r->k.getD i 0<k.getD (i+1) 0->k.getD (i+1) 0<=t) (hB:t<k.getD (r+1) 0\/∀ i,r<i->i+1<k.length->¬k.getD i 0<k.getD (i+1) 0):ax an 242 [.list 3 (k.map ah),ai d,ah t] (.bf [ai r,iL 0]):=by
 have afR:((k.length:Int)-1).toNat=k.length-1:=by omega
 have sX:∀ i,i<k.length->rl (k.getD i 0)<=100000:=fun i hi=>hr _ (dK hi)
 have c1:¬gJ t (k.getD 0 0)<0:=fun e=>by have:=wD.2 h0;omega
 have c2:¬gJ t (k.getD (k.length-1) 0) > 0:=fun e=>by have:=vB.1 e;grind
 have uv:=sX 0 ae
 have hrN:=sX (k.length-1) ae
 refine aW arp (ht:=(kL rfl rfl)) ?_
 refine bD ?_
 refine a9 22 aq ?_
 refine aA ?_
 refine ak (aP (v:=false) rfl rfl ((beq_eq_false_iff_ne.2 ae)) rfl) gg ?_
 refine ak (aP (v:=false) rfl rfl ((beq_eq_false_iff_ne.2 ae)) rfl) (.move _) ?_
 refine ak (aP (v:=false) rfl rfl ((beq_eq_false_iff_ne.2 ae)) rfl) xP ?_
 refine ak (aP (v:=false) rfl rfl ((beq_eq_false_iff_ne.2 ae)) rfl) gg ?_
 try simp only [t1,cN]
 refine fG (aP (v:=false) rfl rfl ((beq_eq_false_iff_ne.2 ae)) rfl) (.cons et (.cons et .nil)) (n7 t (k.getD 0 0) ae) ?_
 refine ak (aP (v:=false) rfl rfl ((beq_eq_false_iff_ne.2 ae)) rfl) (.bin rfl rfl rfl) ?_
 refine ak rfl (.ox rfl ((beq_eq_false_iff_ne.2 ae))) ?_
 refine av ?_
 refine ak (aP (v:=false) rfl rfl ((decide_eq_false c1)) rfl) gg ?_
 refine ak (aP (v:=false) rfl rfl ((decide_eq_false c1)) rfl) (.move _) ?_
 refine ak (aP (v:=false) rfl rfl ((decide_eq_false c1)) rfl) (.move _) ?_
 refine ak (aP (v:=false) rfl rfl ((decide_eq_false c1)) rfl) wV ?_
 refine ak (aP (v:=false) rfl rfl ((decide_eq_false c1)) rfl) (.bin rfl rfl (afV ae ae)) ?_
 refine ak (aP (v:=false) rfl rfl ((decide_eq_false c1)) rfl) xP ?_
 refine ak (aP (v:=false) rfl rfl ((decide_eq_false c1)) rfl) gg ?_
 try simp only [t1,cN,afR]
 refine fG (aP (v:=false) rfl rfl ((decide_eq_false c1)) rfl) (.cons et (.cons et .nil)) (n7 t (k.getD (k.length-1) 0) ae) ?_
 refine ak (aP (v:=false) rfl rfl ((decide_eq_false c1)) rfl) (.bin rfl rfl rfl) ?_
 refine ak rfl (.ox rfl ((decide_eq_false c1))) ?_
 refine aT ?_
 refine ff (b:=_) rfl (decide_eq_false c2) ?_
 refine dM ?_
 refine ma (fun(i la:Nat) L=>(((((St.mk L.slot (hp [(5,⟨3,[ah t],true⟩)])).put (some 0) (.list 3 (k.map ah))).put (some 5) (.aD 5 3 0 0)).put (some 8) (ai la)).put (some 9) (ai i))) (fun i la=>i<k.length/\(r<i->la=r/\k.getD (r+1) 0<=t)) (fun i la=>k.length-i) 0 0 ⟨ae,fun h=>absurd h (ah1 _)⟩ ?_
 rintro i la L1 ⟨hi,fV⟩
 refine aA ?_
 refine ak rfl cV ?_
 refine bc ?_
 refine aH rfl ?_ ?_<;>intro awa h36
 ·have dR:i+1<k.length:=by omega
  have oh:=sX i ae
  have hg2:=sX (i+1) dR
  refine aC ?_
  refine a9 11 aq ?_
  refine aC ?_
  refine ak rfl cV ?_
  refine aT ?_
  try simp only [t1,cN]
  refine cp au (n7 (k.getD i 0) (k.getD (i+1) 0) ae) ?_
  refine aQ ?_
  refine aH rfl ?_ ?_<;>intro acK h49
  ·have nj:¬k.getD i 0<k.getD (i+1) 0:=fun e=>by have:=aeI.2 e;omega
   have nQ:r<i+1->la=r/\k.getD (r+1) 0<=t:=fun h=>by
    rcases al4.1 h with g | g
    ·exact fV g
    ·exact absurd (g ▸ qj) nj
   refine aC ?_
   refine ak rfl cV ?_
   refine aQ ?_
   exact jh (i+1) la ⟨ae,nQ⟩
  ·have bH:k.getD i 0<k.getD (i+1) 0:=adU.1 ae
   refine bD ?_
   refine a9 8 aq ?_
   refine aQ ?_
   refine ak rfl cV ?_
   refine aT ?_
   try simp only [t1,cN]
   refine cp au (n7 t (k.getD (i+1) 0) ae) ?_
   refine aQ ?_
   refine aH rfl ?_ ?_<;>intro aw5 h58
   ·obtain rfl:i=r:=by
     have hb:=adU.1 h58
     rcases Nat.lt_trichotomy i r with g | g | g
     ·have:=hA i g bH
      grind
     ·exact g
     ·rcases hB with e | e
      ·have:=(fV g).2
       grind
      ·exact absurd bH (e i g dR)
    refine dM ?_
    exact yI
   ·have kM:k.getD (i+1) 0<=t:=wD.1 ae
    have nL:r<i+1->i=r/\k.getD (r+1) 0<=t:=fun h=>by
     rcases al4.1 h with g | g
     ·exfalso
      rcases hB with e | e
      ·have:=(fV g).2
       grind
      ·exact absurd bH (e i g dR)
     ·exact⟨g.symm,g ▸ kM⟩
    refine bc ?_
    refine ak rfl cV ?_
    refine aQ ?_
    exact jh (i+1) i ⟨ae,nL⟩
 ·obtain rfl:la=r:=(fV ae).1
  refine dH ?_
  exact yI
namespace ap6
theorem aO {p q:Prop} (k:q) (e:p=q:=by simp only [e1,e2,e3,e4,p1,p2,p3,q1,q2,q3,l1,t0,t1,r1,r2,r3,r4,Nat.zero_add,Nat.reduceMul,Nat.reduceAdd,b1,b2,b3,b4,b5,b6,i1,i2,i3,i4,i5,i6,Nat.reduceBEq,cN,List.length_map,List.set_cons_zero,List.set_cons_succ,Nat.reduceEqDiff,reduceIte,if_true,if_false,eN,eY,aV bl,aV bF,aV ar,cU,eu,LV.kill,bX];exact rfl):p:=e.mpr k
end ap6
open ap6 in
theorem an9 (k:List Rat) (j r:Nat) (hl:k.length<=1000) (hr:∀ x∈k,rl x<=100000) (hj:j<=r) (fu:r+1<k.length) (qj:k.getD r 0<k.getD (r+1) 0) (hA:∀ i,j<=i->i<r->¬k.getD i 0<k.getD (i+1) 0):ax an 241 [.list 3 (k.map ah),ai j] (ai r):=by
 have sX:∀ i,i<k.length->rl (k.getD i 0)<=100000:=fun i hi=>hr _ (dK hi)
 refine aW Tryz.func241 ?_
 refine aZ ?_
 refine dV (fun(i:Nat) L=>(((St.mk L.slot (hp [])).put (some 0) (.list 3 (k.map ah))).put (some 1) (ai i))) (fun i=>j<=i/\i<=r) (fun i=>r-i) j ⟨bq _,hj⟩ ?_
 rintro i L1 ⟨lP,hi⟩
 refine aT ?_
 refine a9 18 aq ?_
 refine av ?_
 refine ak rfl cV ?_
 refine aA ?_
 refine ak (aP (v:=true) rfl rfl ((decide_eq_true nc)) rfl) (.move _) ?_
 refine ak (aP (v:=true) rfl rfl ((decide_eq_true nc)) rfl) (.move _) ?_
 refine ak (aP (v:=true) rfl rfl ((decide_eq_true nc)) rfl) xP ?_
 refine ak (aP (v:=true) rfl rfl ((decide_eq_true nc)) rfl) gg ?_
 refine ak (aP (v:=true) rfl rfl ((decide_eq_true nc)) rfl) (.move _) ?_
 refine ak (aP (v:=true) rfl rfl ((decide_eq_true nc)) rfl) (.move _) ?_
 refine ak (aP (v:=true) rfl rfl ((decide_eq_true nc)) rfl) (.bin rfl rfl (agu ae)) ?_
 refine ak (aP (v:=true) rfl rfl ((decide_eq_true nc)) rfl) xP ?_
 refine ak (aP (v:=true) rfl rfl ((decide_eq_true nc)) rfl) gg ?_
 try simp only [t1,cN]
 refine fG (aP (v:=true) rfl rfl ((decide_eq_true nc)) rfl) (.cons et (.cons et .nil)) (n7 (k.getD i 0) (k.getD (i+1) 0) (by have:=sX i ae;have:=sX (i+1) ae;omega)) ?_
 refine ak (aP (v:=true) rfl rfl ((decide_eq_true nc)) rfl) (.bin rfl rfl rfl) ?_
 refine ak rfl (.ou rfl ((decide_eq_true nc))) ?_
 refine aT ?_
 refine aH rfl ?_ ?_<;>intro aeH h22
 ·have dR:i<r:=by
   rcases gC i r with g | g
   ·exact g
   ·obtain rfl:i=r:=by omega
    have:=adU.2 qj
    omega
  refine bc ?_
  refine ak rfl cV ?_
  refine aA ?_
  exact jL (i+1) ⟨ae,ae⟩
 ·obtain rfl:i=r:=by
   rcases gC i r with g | g
   ·exact absurd (adU.1 ae) (hA i lP g)
   ·omega
  refine bG ?_
  exact n6
namespace aoY
theorem aO {p q:Prop} (k:q) (e:p=q:=by simp only [e1,e2,e3,e4,p1,p2,p3,q1,q2,q3,l1,t0,t1,r1,r2,r3,r4,Nat.zero_add,Nat.reduceMul,Nat.reduceAdd,b1,b2,b3,b4,b5,b6,i1,i2,i3,i4,i5,i6,Nat.reduceBEq,awe,sN,q8,hxd,hxe,axF,yY,ewl,ewj,ewk,aqD,cN,Rat.add_zero,Nat.sub_self,List.drop_zero,List.take_zero,List.nil_append,List.length_map,List.length_replicate,List.append_nil,List.set_cons_zero,List.set_cons_succ,Nat.reduceEqDiff,reduceIte,if_true,if_false,eN,eY,aV bl,aV bF,aV ar,cU,eu,LV.kill,bX];exact rfl):p:=e.mpr k
end aoY
open aoY in
theorem ajC (k:List Rat) (d pc:Nat) (c args:List Rat) (R:Nat) (h:xk k d pc) (hc:c.length=k.length-d-1) (yY:args.length=d) (fH:1<=R) (hR:R<=10000000) (lO:∀ x∈c,rl x<=R) (hA:∀ t∈args,rl t<=100):nO an 280 ⟨3,c.map ah,true⟩ [.list 3 (k.map ah),ai d,.ref 0 3 0 c.length,ai pc,.list 3 (args.map ah)] (.bf [ah (cZ k d pc c args),iL 0]) ⟨3,c.map ah,true⟩:=by
 have h9:=h.d6
 have iI:=h.kl
 have kE:=h.p1
 have sE:=h.p2
 have aKS:=h.lt
 have hs9:bfS 402 R 6<=10000000000:=by simp only [bfS];omega
 have sN:((c.drop (pc-d)).take (d+1)).length=d+1:=by rw [eP,lg];omega
 have hvR:∀ x∈((c.drop (pc-d)).take (d+1)),rl x<=R:=fun x hx=>lO x (wg (wh hx))
 have hFl:∀ r i,r<d->r<i->i<((c.drop (pc-d)).take (d+1)).length->rl ((gF k d pc args) r i)<=402:=fun r i g1 g2 g3=>h.fl hA g2 ae ae
 have hBR:∀ r,r<=d->∀ x∈(cG (gF k d pc args) ((c.drop (pc-d)).take (d+1)) r),rl x<=10000000000:=fun r hr x hx=>ba (ayU hFl fH hvR r hr x hx) (ba (avi fH (show r<=6 by omega)) hs9)
 have hG:∀ i,i<k.length->rl (k.getD i 0)<=100:=fun i hi=>h.kn hi
 have c1:¬gJ (k.getD pc 0) (k.getD (pc+1) 0)>=0:=fun e=>by have:=wD.1 e;grind
 have oh:=hG pc ae
 have hg2:=hG (pc+1) ae
 have hpa:=fc ar 3 args
 have uG:=fc ar 3 k
 have aLk:=iX aj (hBR d (bq _)) d
 have hAd:=jJ ((cG (gF k d pc args) ((c.drop (pc-d)).take (d+1)) d).getD d 0) 0 (by have:rl 0=1:=rfl;omega)
 rw [kP] at hAd
 have xG:(((c.drop (pc-d)).take (d+1)).map ah).length=d+1:=by rw [dL,sN]
 have hxd:(ay (d+1) (ah 0)).drop (d+1)=[]:=kg aM
 have hxe:((ay (d+1) (0:Rat)).map ah).drop (d+1)=[]:=kg aM
 refine xY Tryz.func280 ?_
 have awe:True:=trivial
 have axF:True:=trivial
 have ewl:True:=trivial
 have ewj:True:=trivial
 have ewk:True:=trivial
 have aqD:True:=trivial
 refine dM ?_
 refine cp au (aj9 k d ae ae) ?_
 refine aT ?_
 refine ak (aP (v:=false) rfl rfl ((bne_eq_false_iff_eq.2 nc)) rfl) (.move _) ?_
 refine ak (aP (v:=false) rfl rfl ((bne_eq_false_iff_eq.2 nc)) rfl) wV ?_
 refine ak (aP (v:=false) rfl rfl ((bne_eq_false_iff_eq.2 nc)) rfl) (.move _) ?_
 refine ak (aP (v:=false) rfl rfl ((bne_eq_false_iff_eq.2 nc)) rfl) (.bin rfl rfl rfl) ?_
 refine ak rfl (.ox rfl ((bne_eq_false_iff_eq.2 nc))) ?_
 refine aQ ?_
 refine ff (b:=_) rfl (bne_eq_false_iff_eq.2 (by first | omega | (simp only [dL,yY];omega))) ?_
 refine av ?_
 refine a9 23 aq ?_
 refine aA ?_
 refine ak (aP (v:=false) rfl rfl ((decide_eq_false ae)) rfl) (.move _) ?_
 refine ak (aP (v:=false) rfl rfl ((decide_eq_false ae)) rfl) (.move _) ?_
 refine ak (aP (v:=false) rfl rfl ((decide_eq_false ae)) rfl) wV ?_
 refine ak (aP (v:=false) rfl rfl ((decide_eq_false ae)) rfl) (.bin rfl rfl rfl) ?_
 refine ak rfl (.ox rfl ((decide_eq_false ae))) ?_
 refine av ?_
 refine ak (aP (v:=false) rfl rfl ((decide_eq_false ae)) rfl) (.move _) ?_
 refine ak (aP (v:=false) rfl rfl ((decide_eq_false ae)) rfl) (.move _) ?_
 refine ak (aP (v:=false) rfl rfl ((decide_eq_false ae)) rfl) xP ?_
 refine ak (aP (v:=false) rfl rfl ((decide_eq_false ae)) rfl) gg ?_
 refine ak (aP (v:=false) rfl rfl ((decide_eq_false ae)) rfl) (.move _) ?_
 refine ak (aP (v:=false) rfl rfl ((decide_eq_false ae)) rfl) (.move _) ?_
 refine ak (aP (v:=false) rfl rfl ((decide_eq_false ae)) rfl) (.bin rfl rfl (agu ae)) ?_
 refine ak (aP (v:=false) rfl rfl ((decide_eq_false ae)) rfl) xP ?_
 refine ak (aP (v:=false) rfl rfl ((decide_eq_false ae)) rfl) gg ?_
 try simp only [t1,cN]
 refine fG (aP (v:=false) rfl rfl ((decide_eq_false ae)) rfl) (.cons et (.cons et .nil)) (n7 (k.getD pc 0) (k.getD (pc+1) 0) ae) ?_
 refine ak (aP (v:=false) rfl rfl ((decide_eq_false ae)) rfl) (.bin rfl rfl rfl) ?_
 refine ak rfl (.ox rfl ((decide_eq_false ae))) ?_
 refine aQ ?_
 refine ff (b:=_) rfl (decide_eq_false c1) ?_
 refine aC ?_
 refine ak rfl cV ?_
 refine fL rfl rfl (.nh (n:=d+1) (m:=d+1) ml ml om om om) ?_
 refine bD ?_
 refine ak rfl (.bin rfl rfl (aam (a:=pc) (b:=d) (c:=pc-d) ae ae)) ?_
 refine ak rfl (.wS (a:=pc-d) (h:=c.length) rfl dI db (fun y hy=>by cases hy;exact⟨_,rfl⟩) (fun h=>by cases h) (fun y hy=>by cases hy) (fun _=>rfl) om om om) ?_
 try refine aO ?_
 refine bS rfl (.adm (b:=58) (off:=0) (sz:=3) (n1:=d+1) (c:=0) (off2:=pc-d) (n2:=c.length-(pc-d)) (news:=(((c.drop (pc-d)).take (d+1)).map ah)) rfl rfl rfl rfl (b8 _) dI dI db rfl rfl rfl (by rw [xG];show _=min _ _;omega) (by rw [xG];omega) (by rw [xG,dL];omega) (by rw [xG,<-aeD,<-xR])) ?_
 refine bC ?_
 refine dV (fun(r:Nat) L=>(((((((((St.mk L.slot (hp [(0,⟨3,c.map ah,true⟩),(10,⟨3,[ah 0],true⟩),(58,⟨3,(cG (gF k d pc args) ((c.drop (pc-d)).take (d+1)) r).map ah,true⟩)])).put (some 0) (.list 3 (k.map ah))).put (some 1) (ai d)).put (some 3) (ai pc)).put (some 10) (.aD 10 3 0 0)).put (some 12) (.ref 58 3 0 (d+1))).put (some 66) (.list 3 (args.map ah))).put (some 67) (ai d)).put (some 68) (ai r))) (fun r=>r<=d) (fun r=>d-r) 0 (b8 _) ?_
 rintro r L1 hr
 refine aC ?_
 refine aH rfl ?_ ?_<;>intro aqw h69
 ·have qj:r<d:=by omega
  have hrt:=hA _ (dK (p:=args) (i:=r) ae)
  have tp:(cG (gF k d pc args) ((c.drop (pc-d)).take (d+1)) r).length=d+1:=by rw [uC,sN]
  have aqD:rq ((gF k d pc args) r) (cG (gF k d pc args) ((c.drop (pc-d)).take (d+1)) r) d=(cG (gF k d pc args) ((c.drop (pc-d)).take (d+1)) r):=aDS _ _ _ ae
  refine aaN ?_
  refine dV (fun(j:Nat) L=>((((((((((((St.mk L.slot (hp [(0,⟨3,c.map ah,true⟩),(10,⟨3,[ah 0],true⟩),(58,⟨3,(rq ((gF k d pc args) r) (cG (gF k d pc args) ((c.drop (pc-d)).take (d+1)) r) j).map ah,true⟩),(14,⟨3,[ah (args.getD r 0)],true⟩)])).put (some 0) (.list 3 (k.map ah))).put (some 1) (ai d)).put (some 3) (ai pc)).put (some 10) (.aD 10 3 0 0)).put (some 12) (.ref 58 3 0 (d+1))).put (some 13) (ai r)).put (some 14) (.aD 14 3 0 0)).put (some 15) (ai j)).put (some 66) (.list 3 (args.map ah))).put (some 67) (ai d)).put (some 68) (ai r))) (fun j=>r<=j/\j<=d) (fun j=>j) d ⟨ae,bq _⟩ ?_
  rintro j L2 ⟨hj1,jr⟩
  refine bo ?_
  refine aH rfl ?_ ?_<;>intro aIU h76
  ·have hj3:r<j:=by omega
   have ewl:(rq ((gF k d pc args) r) (cG (gF k d pc args) ((c.drop (pc-d)).take (d+1)) r) j).length=d+1:=by rw [vu,tp]
   have ewj:(rq ((gF k d pc args) r) (cG (gF k d pc args) ((c.drop (pc-d)).take (d+1)) r) j).getD j 0=(cG (gF k d pc args) ((c.drop (pc-d)).take (d+1)) r).getD j 0:=by rw [u6 _ _ _ _ ae,if_neg ae]
   have ewk:(rq ((gF k d pc args) r) (cG (gF k d pc args) ((c.drop (pc-d)).take (d+1)) r) j).getD (j-1) 0=(cG (gF k d pc args) ((c.drop (pc-d)).take (d+1)) r).getD (j-1) 0:=by rw [u6 _ _ _ _ ae,if_neg ae]
   have hv1:=iX aj (hBR r ae) j
   have hv2:=iX aj (hBR r ae) (j-1)
   have hfq:rl ((gF k d pc args) r j)<=402:=h.fl hA hj3 ae ae
   have ey:=jF ((cG (gF k d pc args) ((c.drop (pc-d)).take (d+1)) r).getD j 0) ((cG (gF k d pc args) ((c.drop (pc-d)).take (d+1)) r).getD (j-1) 0)
   have hmf:=df ((gF k d pc args) r j) ((cG (gF k d pc args) ((c.drop (pc-d)).take (d+1)) r).getD j 0-(cG (gF k d pc args) ((c.drop (pc-d)).take (d+1)) r).getD (j-1) 0)
   have axF:=aC5 ((gF k d pc args) r) (cG (gF k d pc args) ((c.drop (pc-d)).take (d+1)) r) j ae ae
   have vn:=hG (pc-d+j) ae
   have nv:=hG (pc+j-r) ae
   have dQ:ax an 289 [ah (k.getD (pc-d+j) 0),ah (k.getD (pc+j-r) 0),ah (args.getD r 0)] (ah ((gF k d pc args) r j)):=aGv _ _ _ ae (h.fr hj3 ae)
   refine bo ?_
   refine ak rfl (.bin rfl rfl (aam (a:=pc) (b:=d) (c:=pc-d) ae ae)) ?_
   refine av ?_
   refine ak rfl (.bin rfl rfl (xj (a:=pc-d) (b:=j) ae)) ?_
   refine aA ?_
   refine a9 15 aq ?_
   refine aZ ?_
   refine ak rfl (.bin rfl rfl (xj (a:=pc-d+j) (b:=d) ae)) ?_
   refine av ?_
   refine ak rfl (.bin rfl rfl (aam (a:=pc-d+j+d) (b:=r) (c:=pc+j-r) ae ae)) ?_
   refine aQ ?_
   try simp only [t1,cN]
   refine cp ig (dQ) ?_
   refine aA ?_
   refine a9 21 aq ?_
   refine aA ?_
   refine ak rfl lK ?_
   refine bD ?_
   refine ak rfl lK ?_
   refine aT ?_
   refine aO ?_
   refine cp au (sw ((cG (gF k d pc args) ((c.drop (pc-d)).take (d+1)) r).getD j 0) ((cG (gF k d pc args) ((c.drop (pc-d)).take (d+1)) r).getD (j-1) 0) ae) ?_
   refine cp au (iR ((gF k d pc args) r j) ((cG (gF k d pc args) ((c.drop (pc-d)).take (d+1)) r).getD j 0-(cG (gF k d pc args) ((c.drop (pc-d)).take (d+1)) r).getD (j-1) 0) ae) ?_
   refine cp au (jJ ((cG (gF k d pc args) ((c.drop (pc-d)).take (d+1)) r).getD (j-1) 0) ((gF k d pc args) r j*((cG (gF k d pc args) ((c.drop (pc-d)).take (d+1)) r).getD j 0-(cG (gF k d pc args) ((c.drop (pc-d)).take (d+1)) r).getD (j-1) 0)) ae) ?_
   refine bc ?_
   refine cM (az.kill _ 17) ?_
   refine av ?_
   refine ak rfl lK ?_
   refine aQ ?_
   exact jL (j-1) ⟨ae,ae⟩
  ·obtain rfl:r=j:=by omega
   refine aC ?_
   refine cM (az.kill _ 14) ?_
   refine ak rfl cV ?_
   refine aQ ?_
   exact jL (r+1) ae
 ·obtain rfl:d=r:=by omega
  have awe:(cG (gF k d pc args) ((c.drop (pc-d)).take (d+1)) d).length=d+1:=by rw [uC,sN]
  refine bC ?_
  refine aO ?_
  refine ak rfl qY ?_
  refine cp au (hAd) ?_
  refine bc ?_
  exact aFo rfl rfl (ar.aw _) (rh _) db (.cF (.pure (ar.pure _))) rfl (.cF (.pure rfl)) rfl rfl (a7 ar _)
namespace ayr
theorem aO {p q:Prop} (k:q) (e:p=q:=by simp only [e1,e2,e3,e4,p1,p2,p3,q1,q2,q3,l1,t0,t1,r1,r2,r3,r4,Nat.zero_add,Nat.reduceMul,Nat.reduceAdd,b1,b2,b3,b4,b5,b6,i1,i2,i3,i4,i5,i6,Nat.reduceBEq,q8,dz,xD,ect,aaB,zS,cN,List.drop_zero,List.take_zero,List.nil_append,List.length_map,List.length_replicate,ad1,aV lE,List.set_cons_zero,List.set_cons_succ,Nat.reduceEqDiff,reduceIte,if_true,if_false,eN,eY,aV bl,aV bF,aV ar,cU,eu,LV.kill,bX];exact rfl):p:=e.mpr k
end ayr
open ayr in
theorem aIy (k:List Rat) (d pc:Nat) (C:List Q4) (args:List Rat) (R:Nat) (h:xk k d pc) (hC:C.length=k.length-d-1) (yY:args.length=d) (fH:1<=R) (hR:R<=10000000) (lO:∀ q∈C,rv R q) (hA:∀ t∈args,rl t<=100):ax an 243 [.agg [ai d,.list 3 (k.map ah),.list 12 (C.map dz)],ai pc,.list 3 (args.map ah)] (dz (mX k d pc C args)):=by
 have kE:=h.p1
 have sE:=h.p2
 have iI:=h.kl
 have hCp:0<C.length:=by omega
 have hC9:C.length<=100:=by omega
 have hpS:LV.pure (.agg [ai d,.list 3 (k.map ah),.list 12 (C.map dz)])=true:=by simp [LV.pure,aN,a7 ar,a7 lE]
 have uG:=fc ar 3 k
 have hpa:=fc ar 3 args
 have iB:∀ x∈(C.map (·.x)),rl x<=R:=fun x hx=>by
  obtain⟨q,hq,rfl⟩:=cQ.1 hx
  exact(lO q hq).1
 have arl:=ajC k d pc (C.map (·.x)) args R h (by rw [dL,hC]) yY fH hR iB hA
 rw [show (C.map (·.x)).length=C.length from dL _] at arl
 have jY:∀ x∈(C.map (·.y)),rl x<=R:=fun x hx=>by
  obtain⟨q,hq,rfl⟩:=cQ.1 hx
  exact(lO q hq).2.1
 have avC:=ajC k d pc (C.map (·.y)) args R h (by rw [dL,hC]) yY fH hR jY hA
 rw [show (C.map (·.y)).length=C.length from dL _] at avC
 have fe:∀ x∈(C.map (·.z)),rl x<=R:=fun x hx=>by
  obtain⟨q,hq,rfl⟩:=cQ.1 hx
  exact(lO q hq).2.2.1
 have akw:=ajC k d pc (C.map (·.z)) args R h (by rw [dL,hC]) yY fH hR fe hA
 rw [show (C.map (·.z)).length=C.length from dL _] at akw
 have qV:∀ x∈(C.map (·.w)),rl x<=R:=fun x hx=>by
  obtain⟨q,hq,rfl⟩:=cQ.1 hx
  exact(lO q hq).2.2.2
 have as1:=ajC k d pc (C.map (·.w)) args R h (by rw [dL,hC]) yY fH hR qV hA
 rw [show (C.map (·.w)).length=C.length from dL _] at as1
 refine aW Tryz.func243 (ht:=(fun g=>LV.di g _ (lE.pure _))) ?_
 have xD:True:=trivial
 have ect:True:=trivial
 have aaB:True:=trivial
 have zS:True:=trivial
 refine oF ?_
 refine fL rfl rfl (.nh (n:=C.length) (m:=C.length) ml ml om om om) ?_
 refine bM ?_
 refine bN ?_
 refine aC ?_
 refine cu (b:=_) rfl aj ?_
 refine pa ?_
 refine dV (fun(i:Nat) L=>((((((((((((St.mk L.slot (hp [(3,⟨3,[.agg [ai d,.list 3 (k.map ah),.list 12 (C.map dz)]],true⟩),(6,⟨12,[.agg [ah 0,ah 0,ah 0,ah 0]],true⟩),(7,⟨12,[.agg [ah 0,ah 0,ah 0,ah 0]],true⟩),(15,⟨3,((C.map (·.x)).take i++(ay C.length (0:Rat)).drop i).map ah,true⟩)])).put (some 1) (ai pc)).put (some 2) (.list 3 (args.map ah))).put (some 3) (.aD 3 3 0 0)).put (some 6) (.aD 6 12 0 0)).put (some 7) (.aD 7 12 0 0)).put (some 8) (.ref 15 3 0 C.length)).put (some 9) (ai 0)).put (some 16) (ai 0)).put (some 20) (.list 12 (C.map dz))).put (some 21) (ai C.length)).put (some 22) (ai i))) (fun i=>i<=C.length) (fun i=>C.length-i) 0 (b8 _) ?_
 rintro i L2 hi
 refine aC ?_
 refine aH rfl ?_ ?_<;>intro tP sg
 ·have dR:i<C.length:=by omega
  have zS:=ag4 (C:=C) (i:=i) ae (·.x)
  have ect:((C.map (·.x)).take i++(ay C.length (0:Rat)).drop i).set i ((C.getD i default).x)=(C.map (·.x)).take (i+1)++(ay C.length (0:Rat)).drop (i+1):=by
   rw [<-zS]
   exact ahn aM bz
  have xD:((C.map (·.x)).take i++(ay C.length (0:Rat)).drop i).length=C.length:=by rw [aiH aM bz];simp
  refine wP ?_
  refine cM (az.kill _ 11) ?_
  refine ak rfl cV ?_
  refine aQ ?_
  exact l5
 ·obtain rfl:i=C.length:=by omega
  have aaB:(C.map (·.x)).take C.length++(ay C.length (0:Rat)).drop C.length=(C.map (·.x)):=aim aM aM
  try simp only [aaB]
  refine dM ?_
  refine ag8 15 rfl rfl rfl (a7 ar _) (.cons (.cF (.pure uG)) (.cons (.cF (.pure rfl)) (.cons .ref (.cons (.cF (.pure rfl)) (.cons (.cF (.pure hpa)) .nil))))) (.tl (.tl (.ref hCp))) arl rfl (a7 ar _) (kL (ar.pure _) rfl) ?_
  refine dH ?_
  refine bN ?_
  refine aC ?_
  refine cu (b:=_) rfl aj ?_
  refine pa ?_
  refine dV (fun(i:Nat) L=>((((((((((((St.mk L.slot (hp [(3,⟨3,[.agg [ai d,.list 3 (k.map ah),.list 12 (C.map dz)]],true⟩),(6,⟨12,[.agg [ah 0,ah 0,ah 0,ah 0]],true⟩),(7,⟨12,[.agg [ah (cZ k d pc (C.map (·.x)) args),ah 0,ah 0,ah 0]],true⟩),(15,⟨3,((C.map (·.y)).take i++(C.map (·.x)).drop i).map ah,true⟩)])).put (some 1) (ai pc)).put (some 2) (.list 3 (args.map ah))).put (some 3) (.aD 3 3 0 0)).put (some 6) (.aD 6 12 0 0)).put (some 7) (.aD 7 12 0 0)).put (some 8) (.ref 15 3 0 C.length)).put (some 9) (ai 1)).put (some 16) (ai 1)).put (some 20) (.list 12 (C.map dz))).put (some 21) (ai C.length)).put (some 22) (ai i))) (fun i=>i<=C.length) (fun i=>C.length-i) 0 (b8 _) ?_
  rintro i L2 hi
  refine aC ?_
  refine aH rfl ?_ ?_<;>intro tP sg
  ·have dR:i<C.length:=by omega
   have zS:=ag4 (C:=C) (i:=i) ae (·.y)
   have ect:((C.map (·.y)).take i++(C.map (·.x)).drop i).set i ((C.getD i default).y)=(C.map (·.y)).take (i+1)++(C.map (·.x)).drop (i+1):=by
    rw [<-zS]
    exact ahn aM bz
   have xD:((C.map (·.y)).take i++(C.map (·.x)).drop i).length=C.length:=by rw [aiH aM bz];simp
   refine wP ?_
   refine cM (az.kill _ 11) ?_
   refine ak rfl cV ?_
   refine aQ ?_
   exact l5
  ·obtain rfl:i=C.length:=by omega
   have aaB:(C.map (·.y)).take C.length++(C.map (·.x)).drop C.length=(C.map (·.y)):=aim aM aM
   try simp only [aaB]
   refine dM ?_
   refine ag8 15 rfl rfl rfl (a7 ar _) (.cons (.cF (.pure uG)) (.cons (.cF (.pure rfl)) (.cons .ref (.cons (.cF (.pure rfl)) (.cons (.cF (.pure hpa)) .nil))))) (.tl (.tl (.ref hCp))) avC rfl (a7 ar _) (kL (ar.pure _) rfl) ?_
   refine dH ?_
   refine bN ?_
   refine aC ?_
   refine cu (b:=_) rfl aj ?_
   refine pa ?_
   refine dV (fun(i:Nat) L=>((((((((((((St.mk L.slot (hp [(3,⟨3,[.agg [ai d,.list 3 (k.map ah),.list 12 (C.map dz)]],true⟩),(6,⟨12,[.agg [ah 0,ah 0,ah 0,ah 0]],true⟩),(7,⟨12,[.agg [ah (cZ k d pc (C.map (·.x)) args),ah (cZ k d pc (C.map (·.y)) args),ah 0,ah 0]],true⟩),(15,⟨3,((C.map (·.z)).take i++(C.map (·.y)).drop i).map ah,true⟩)])).put (some 1) (ai pc)).put (some 2) (.list 3 (args.map ah))).put (some 3) (.aD 3 3 0 0)).put (some 6) (.aD 6 12 0 0)).put (some 7) (.aD 7 12 0 0)).put (some 8) (.ref 15 3 0 C.length)).put (some 9) (ai 2)).put (some 16) (ai 2)).put (some 20) (.list 12 (C.map dz))).put (some 21) (ai C.length)).put (some 22) (ai i))) (fun i=>i<=C.length) (fun i=>C.length-i) 0 (b8 _) ?_
   rintro i L2 hi
   refine aC ?_
   refine aH rfl ?_ ?_<;>intro tP sg
   ·have dR:i<C.length:=by omega
    have zS:=ag4 (C:=C) (i:=i) ae (·.z)
    have ect:((C.map (·.z)).take i++(C.map (·.y)).drop i).set i ((C.getD i default).z)=(C.map (·.z)).take (i+1)++(C.map (·.y)).drop (i+1):=by
     rw [<-zS]
     exact ahn aM bz
    have xD:((C.map (·.z)).take i++(C.map (·.y)).drop i).length=C.length:=by rw [aiH aM bz];simp
    refine wP ?_
    refine cM (az.kill _ 11) ?_
    refine ak rfl cV ?_
    refine aQ ?_
    exact l5
   ·obtain rfl:i=C.length:=by omega
    have aaB:(C.map (·.z)).take C.length++(C.map (·.y)).drop C.length=(C.map (·.z)):=aim aM aM
    try simp only [aaB]
    refine dM ?_
    refine ag8 15 rfl rfl rfl (a7 ar _) (.cons (.cF (.pure uG)) (.cons (.cF (.pure rfl)) (.cons .ref (.cons (.cF (.pure rfl)) (.cons (.cF (.pure hpa)) .nil))))) (.tl (.tl (.ref hCp))) akw rfl (a7 ar _) (kL (ar.pure _) rfl) ?_
    refine dH ?_
    refine bN ?_
    refine aC ?_
    refine cu (b:=_) rfl aj ?_
    refine pa ?_
    refine dV (fun(i:Nat) L=>((((((((((((St.mk L.slot (hp [(3,⟨3,[.agg [ai d,.list 3 (k.map ah),.list 12 (C.map dz)]],true⟩),(6,⟨12,[.agg [ah 0,ah 0,ah 0,ah 0]],true⟩),(7,⟨12,[.agg [ah (cZ k d pc (C.map (·.x)) args),ah (cZ k d pc (C.map (·.y)) args),ah (cZ k d pc (C.map (·.z)) args),ah 0]],true⟩),(15,⟨3,((C.map (·.w)).take i++(C.map (·.z)).drop i).map ah,true⟩)])).put (some 1) (ai pc)).put (some 2) (.list 3 (args.map ah))).put (some 3) (.aD 3 3 0 0)).put (some 6) (.aD 6 12 0 0)).put (some 7) (.aD 7 12 0 0)).put (some 8) (.ref 15 3 0 C.length)).put (some 9) (ai 3)).put (some 16) (ai 3)).put (some 20) (.list 12 (C.map dz))).put (some 21) (ai C.length)).put (some 22) (ai i))) (fun i=>i<=C.length) (fun i=>C.length-i) 0 (b8 _) ?_
    rintro i L2 hi
    refine aC ?_
    refine aH rfl ?_ ?_<;>intro tP sg
    ·have dR:i<C.length:=by omega
     have zS:=ag4 (C:=C) (i:=i) ae (·.w)
     have ect:((C.map (·.w)).take i++(C.map (·.z)).drop i).set i ((C.getD i default).w)=(C.map (·.w)).take (i+1)++(C.map (·.z)).drop (i+1):=by
      rw [<-zS]
      exact ahn aM bz
     have xD:((C.map (·.w)).take i++(C.map (·.z)).drop i).length=C.length:=by rw [aiH aM bz];simp
     refine wP ?_
     refine cM (az.kill _ 11) ?_
     refine ak rfl cV ?_
     refine aQ ?_
     exact l5
    ·obtain rfl:i=C.length:=by omega
     have aaB:(C.map (·.w)).take C.length++(C.map (·.z)).drop C.length=(C.map (·.w)):=aim aM aM
     try simp only [aaB]
     refine dM ?_
     refine ag8 15 rfl rfl rfl (a7 ar _) (.cons (.cF (.pure uG)) (.cons (.cF (.pure rfl)) (.cons .ref (.cons (.cF (.pure rfl)) (.cons (.cF (.pure hpa)) .nil))))) (.tl (.tl (.ref hCp))) as1 rfl (a7 ar _) (kL (ar.pure _) rfl) ?_
     refine dH ?_
     refine bN ?_
     refine aC ?_
     refine ff (b:=_) rfl aj ?_
     refine bG ?_
     exact iG [] rfl rfl rfl cs (dZ cs rfl) abo (.pure (lE.pure (mX k d pc C args)))
theorem awn {α:Type} (f:Nat->α) (j:Nat):(c9 j).map f++[f j]=(c9 (j+1)).map f:=by rw [List.range_succ,abR];rfl
namespace av3
theorem aO {p q:Prop} (k:q) (e:p=q:=by simp only [e1,e2,e3,e4,p1,p2,p3,q1,q2,q3,l1,t0,t1,r1,r2,r3,r4,Nat.zero_add,Nat.reduceMul,Nat.reduceAdd,b1,b2,b3,b4,b5,b6,i1,i2,i3,i4,i5,i6,Nat.reduceBEq,iS,gZ,ejd,cN,List.length_map,List.length_range,nt,nm,jK,List.length_cons,List.length_nil,List.nil_append,List.map_nil,List.take_nil,List.append_nil,ad1,aV lE,List.set_cons_zero,List.set_cons_succ,Nat.reduceEqDiff,reduceIte,if_true,if_false,eN,eY,aV bl,aV bF,aV ar,cU,eu,LV.kill,bX];exact rfl):p:=e.mpr k
end av3
open av3 in
theorem aua (k w:List Rat) (d N:Nat) (C:List Q4) (R:Nat) (I A:Nat->Nat) (hN0:0<N) (hw:w.length=N+d+1) (jb:w.length<=100) (hwr:∀ x∈w,rl x<=100) (hC:C.length=k.length-d-1) (fH:1<=R) (hR:R<=10000000) (lO:∀ q∈C,rv R q) (hIl:∀ j,j<N->I j<w.length) (hG:∀ j,j<N->xk k d (A j)) (hPc:∀ j,j<N->ax an 241 [.list 3 (w.map ah),ai j] (ai (I j))) (hIv:∀ j,j<N->ax an 242 [.list 3 (k.map ah),ai d,ah (w.getD (I j) 0)] (.bf [ai (A j),iL 0])):ax an 160 [.agg [ai d,.list 3 (k.map ah),.list 12 (C.map dz)],.list 3 (w.map ah)] (.agg [ai d,.list 3 (w.map ah),.list 12 (((c9 N).map fun j=>mX k d (A j) C ((w.drop (j+1)).take d)).map dz)]):=by
 have hpS:LV.pure (.agg [ai d,.list 3 (k.map ah),.list 12 (C.map dz)])=true:=by simp [LV.pure,aN,a7 ar,a7 lE]
 have uG:=fc ar 3 w
 have hN9:N<=100:=by omega
 have hd9:d<=100:=by omega
 have hKP:=aj9 w d ae ae
 rw [show w.length-d-1=N by omega] at hKP
 refine aW Tryz.func160 (ht:=(fun g=>LV.di g _ (by simp [LV.pure,aN,a7 ar,a7 lE,-List.map_map]))) ?_
 have iS:True:=trivial
 have gZ:True:=trivial
 have ejd:True:=trivial
 refine aol ?_
 refine cp au (hKP) ?_
 refine aA ?_
 refine lR ((az.cell 5 rfl (fun Z μ w cs h=>agc 51 12 _ _ Z μ w cs h)).trans (az.xh _ 51 12 rfl)) ?_
 refine dV (fun(j:Nat) L=>(((((((St.mk L.slot (hp [(2,⟨3,[.agg [ai d,.list 3 (k.map ah),.list 12 (C.map dz)]],true⟩),(4,⟨3,[.agg [.v (.int .i64 0),.v (.slice none 0 0),.v (.slice none 0 0)]],true⟩),(5,⟨3,[.agg [ai d,.list 3 (w.map ah),.ref 51 12 0 j]],true⟩),(51,⟨12,((c9 j).map fun j=>mX k d (A j) C ((w.drop (j+1)).take d)).map dz,true⟩)])).put (some 1) (.list 3 (w.map ah))).put (some 2) (.aD 2 3 0 0)).put (some 4) (.aD 4 3 0 0)).put (some 5) (.aD 5 3 0 0)).put (some 17) (ai N)).put (some 18) (ai j))) (fun j=>j<=N) (fun j=>N-j) 0 (b8 _) ?_
 rintro j L1 hj
 refine aC ?_
 refine aH rfl ?_ ?_<;>intro agV h19
 ·have jr:j<N:=by omega
  have iS:((c9 j).map fun j=>mX k d (A j) C ((w.drop (j+1)).take d))++[(mX k d (A j) C ((w.drop (j+1)).take d))]=((c9 (j+1)).map fun j=>mX k d (A j) C ((w.drop (j+1)).take d)):=awn (fun j=>(mX k d (A j) C ((w.drop (j+1)).take d))) j
  have gZ:(((c9 j).map fun j=>mX k d (A j) C ((w.drop (j+1)).take d)).map dz).take j=((c9 j).map fun j=>mX k d (A j) C ((w.drop (j+1)).take d)).map dz:=dg aM
  have ejd:(w.take (j+d+1)).drop (j+1)=(w.drop (j+1)).take d:=by
   rw [List.drop_take]
   congr 1
   omega
  have aJB:=hPc j jr
  have aIs:=hIv j jr
  have aK9:=hIl j jr
  have hPo:=aIy k d (A j) C ((w.drop (j+1)).take d) R (hG j jr) hC (by rw [eP,lg];omega) fH hR lO (fun t ht=>hwr t (wg (wh ht)))
  refine dM ?_
  refine cp au (aJB) ?_
  refine aA ?_
  refine a9 14 aq ?_
  refine bo ?_
  try simp only [t1,cN]
  refine cp ig (aIs) ?_
  refine aZ ?_
  refine a9 15 aq ?_
  refine aC ?_
  refine ak rfl cV ?_
  refine aQ ?_
  refine ak rfl (.bin rfl rfl (xj (a:=j) (b:=d) ae)) ?_
  refine ak rfl cV ?_
  refine ak rfl (.amw (a:=j+1) (h:=j+d+1) ar rfl dI db rfl rfl om om) ?_
  refine aO ?_
  refine cp ig (hPo) ?_
  refine av ?_
  refine bS rfl (.iJ (d:=51) (news:=[dz (mX k d (A j) C ((w.drop (j+1)).take d))]) rfl rfl rfl rfl aM (.inl rfl) aj zQ zQ ajj abo cs ayZ (.inl ⟨50,0,_,rfl,by decide,rfl,rfl,by simp,rfl,by simp [aN,lE.pure]⟩) bz bz aj) ?_
  refine bc ?_
  refine cM (az.kill _ 50) ?_
  refine ak rfl cV ?_
  refine aQ ?_
  exact y9
 ·obtain rfl:j=N:=by omega
  refine bG ?_
  exact iG [51] rfl rfl rfl cs (dZ cs rfl) agR (.agg (.cons (.pure rfl) (.cons (.pure uG) (.cons (fI (l:=((c9 j).map fun j=>mX k d (A j) C ((w.drop (j+1)).take d))) lE rfl rfl aM) .nil))))
namespace auD
theorem aO {p q:Prop} (k:q) (e:p=q:=by simp only [e1,e2,e3,e4,p1,p2,p3,q1,q2,q3,l1,t0,t1,r1,r2,r3,r4,Nat.zero_add,Nat.reduceMul,Nat.reduceAdd,b1,b2,b3,b4,b5,b6,i1,i2,i3,i4,i5,i6,Nat.reduceBEq,hK0,hK1,hK2,uK,hiy,eal,ebl,eap,ebp,ajT,hmj,List.replicate_zero,Nat.add_zero,cN,List.getD_cons_zero,List.getD_cons_succ,List.length_map,List.length_replicate,nt,nm,jK,List.length_cons,List.length_nil,List.nil_append,List.map_nil,List.take_nil,List.append_nil,ad1,aV lE,List.set_cons_zero,List.set_cons_succ,Nat.reduceEqDiff,reduceIte,if_true,if_false,eN,eY,aV bl,aV bF,aV ar,cU,eu,LV.kill,bX];exact rfl):p:=e.mpr k
end auD
open auD in
theorem alu (k w:List Rat) (d:Nat) (C C2:List Q4) (a b:Rat) (ea eb:Bool) (na nb:Nat) (KA KB:Nat->List Rat) (f1 l2:Nat) (hd:d<=6) (ha:rl a<=100) (hb:rl b<=100) (h1k:0<k.length) (iI:k.length<=100) (kN:∀ x∈k,rl x<=100) (hK0:KA 0=k) (hK1:KA na=KB 0) (hK2:KB nb=w) (hBl:0<(KB 0).length) (akw:(KB 0).length<=100) (hBr:∀ x∈KB 0,rl x<=100) (jb:w.length<=100) (hea:(decide (a=k.getD 0 0) || decide (a=k.getD (k.length-1) 0))=ea) (heb:(decide (b=(KB 0).getD 0 0) || decide (b=(KB 0).getD ((KB 0).length-1) 0))=eb) (hna:na<=d) (hnb:nb<=d) (zk:ea=true->na=0) (hzb:eb=true->nb=0) (hTA:ea=false->∀ n,n<=na->ax an 158 [.list 3 ((KA n).map ah),ah a] (ai (d-(na-n)))) (hTB:eb=false->∀ n,n<=nb->ax an 158 [.list 3 ((KB n).map ah),ah b] (ai (d-(nb-n)))) (hIA:∀ n,n<na->ax an 159 [.list 3 ((KA n).map ah),ah a] (.list 3 ((KA (n+1)).map ah))) (hIB:∀ n,n<nb->ax an 159 [.list 3 ((KB n).map ah),ah b] (.list 3 ((KB (n+1)).map ah))) (hO:ax an 160 [.agg [ai d,.list 3 (k.map ah),.list 12 (C.map dz)],.list 3 (w.map ah)] (.agg [ai d,.list 3 (w.map ah),.list 12 (C2.map dz)])) (th:ax an 161 [.list 3 (w.map ah),.dq 162 [.cr (ah a)]] (ai f1)) (sv:ax an 161 [.list 3 (w.map ah),.dq 163 [.cr (ah b)]] (ai l2)) (hf1:d+1<=f1) (rO:f1<=l2) (oX:l2<=C2.length) (nS:C2.length<=w.length):ax an 86 [.agg [ai d,.list 3 (k.map ah),.list 12 (C.map dz)],ah a,ah b] (.agg [ai d,.list 3 ((ay (d+1) a++((w.take l2).drop f1)++ay (d+1) b).map ah),.list 12 (((C2.take l2).drop (f1-1-d)).map dz)]):=by
 have hpS:LV.pure (.agg [ai d,.list 3 (k.map ah),.list 12 (C.map dz)])=true:=by simp [LV.pure,aN,a7 ar,a7 lE]
 have hpw:=fc ar 3 w
 have uK:((k.length:Int)-1).toNat=k.length-1:=by omega
 have hiy:(((KB 0).length:Int)-1).toNat=(KB 0).length-1:=by omega
 have sL:=kN _ (dK (p:=k) (i:=0) ae)
 have oh:=kN _ (dK (p:=k) (i:=k.length-1) ae)
 have hg2:=hBr _ (dK (p:=KB 0) (i:=0) ae)
 have zC:=hBr _ (dK (p:=KB 0) (i:=(KB 0).length-1) ae)
 have hmj:(ay (d+1) a).map ah++((w.take l2).drop f1).map ah=(ay (d+1) a++((w.take l2).drop f1)).map ah:=abR.symm
 have ajT:((w.take l2).drop f1).length=l2-f1:=by rw [lg,eP];omega
 have aEM:=aaa a (k.getD 0 0) ae
 have aFx:=aaa a (k.getD (k.length-1) 0) ae
 have azL:=aaa b ((KB 0).getD 0 0) ae
 have aIY:=aaa b ((KB 0).getD ((KB 0).length-1) 0) ae
 refine aW Tryz.func86 (ht:=(fun g=>LV.di g _ (by simp [LV.pure,aN,a7 ar,a7 lE,-abR,-aeD,-xR]))) ?_
 have eal:True:=trivial
 have ebl:True:=trivial
 have eap:True:=trivial
 have ebp:True:=trivial
 refine wP ?_
 refine bN ?_
 refine aC ?_
 refine cu (b:=_) rfl aj ?_
 refine bG ?_
 refine iM (fun L=>∃  (L1:St),(True)/\L=((((((((((St.mk L1.slot (hp [(3,⟨3,[.agg [ai d,.list 3 (k.map ah),.list 12 (C.map dz)]],true⟩),(4,⟨3,[ah a],true⟩),(5,⟨3,[ah b],true⟩),(6,⟨3,[.agg [.v (.int .i64 0),.v (.slice none 0 0),.v (.slice none 0 0)]],true⟩),(9,⟨3,[ah a],true⟩)])).put (some 3) (.aD 3 3 0 0)).put (some 4) (.aD 4 3 0 0)).put (some 5) (.aD 5 3 0 0)).put (some 6) (.aD 6 3 0 0)).put (some 7) (.list 3 (k.map ah))).put (some 9) (.aD 9 3 0 0)).put (some 10) (bL ea)).put (some 19) (.agg [ah a,ah b])).put (some 20) (ai 0))) ?_ ?_
 ·refine a9 16 aq ?_
  refine aA ?_
  try refine aO ?_
  refine cp au (aEM) ?_
  refine av ?_
  refine ez 28 rfl ?_ ?_<;>intro xU qN
  ·first | (have nP:bL ea=bL true:=by rw [<-hea,decide_eq_true qN,Bool.true_or]) | (have nP:bL eb=bL true:=by rw [<-heb,decide_eq_true qN,Bool.true_or])
   refine aZ ?_
   try refine aO ?_
   refine bc ?_
   exact⟨_,trivial,((al (al (al (al (al (al (al (al (al (bK cl) cl) cl) cl) cl) cl) cl) (by first | exact nP | exact nP.symm | (refine aO ?_;first | exact nP | exact nP.symm))) cl) cl)).symm⟩
  ·first | (have nP:bL ea=bL (decide (a=k.getD (k.length-1) 0)):=by rw [<-hea,decide_eq_false qN,Bool.false_or]) | (have nP:bL eb=bL (decide (b=(KB 0).getD ((KB 0).length-1) 0)):=by rw [<-heb,decide_eq_false qN,Bool.false_or])
   refine aA ?_
   refine ak (aP (v:=false) rfl rfl (xU) rfl) (.bin rfl rfl (afV ae ae)) ?_
   refine aT ?_
   try refine aO ?_
   refine cp au (aFx) ?_
   refine aA ?_
   exact⟨_,trivial,((al (al (al (al (al (al (al (al (al (bK cl) cl) cl) cl) cl) cl) cl) (by first | exact nP | exact nP.symm | (refine aO ?_;first | exact nP | exact nP.symm))) cl) cl)).symm⟩
 ·rintro _ ⟨LR5,-,rfl⟩
  refine av ?_
  refine iM (fun L=>∃  (L1:St),(True)/\L=((((((((St.mk L1.slot (hp [(3,⟨3,[.agg [ai d,.list 3 (k.map ah),.list 12 (C.map dz)]],true⟩),(4,⟨3,[ah a],true⟩),(5,⟨3,[ah b],true⟩),(6,⟨3,[.agg [.v (.int .i64 0),.v (.slice none 0 0),.v (.slice none 0 0)]],true⟩),(9,⟨3,[ah a],true⟩)])).put (some 3) (.aD 3 3 0 0)).put (some 4) (.aD 4 3 0 0)).put (some 5) (.aD 5 3 0 0)).put (some 6) (.aD 6 3 0 0)).put (some 7) (.list 3 ((KB 0).map ah))).put (some 19) (.agg [ah a,ah b])).put (some 20) (ai 0))) ?_ ?_
  ·refine av ?_
   refine dV (fun(n:Nat) L=>((((((((((St.mk L.slot (hp [(3,⟨3,[.agg [ai d,.list 3 (k.map ah),.list 12 (C.map dz)]],true⟩),(4,⟨3,[ah a],true⟩),(5,⟨3,[ah b],true⟩),(6,⟨3,[.agg [.v (.int .i64 0),.v (.slice none 0 0),.v (.slice none 0 0)]],true⟩),(9,⟨3,[ah a],true⟩)])).put (some 3) (.aD 3 3 0 0)).put (some 4) (.aD 4 3 0 0)).put (some 5) (.aD 5 3 0 0)).put (some 6) (.aD 6 3 0 0)).put (some 7) (.list 3 ((KA n).map ah))).put (some 9) (.aD 9 3 0 0)).put (some 10) (bL ea)).put (some 19) (.agg [ah a,ah b])).put (some 20) (ai 0))) (fun n=>n<=na) (fun n=>na-n) 0 (b8 _) ?_
   rintro n L2 hn
   refine aT ?_
   refine a9 10 aq ?_
   refine aQ ?_
   refine ez 40 rfl ?_ ?_<;>intro aml xd
   ·refine aT ?_
    refine cp au (hTA (by simpa using xd) n hn) ?_
    refine aC ?_
    refine aH rfl ?_ ?_<;>intro afJ h47
    ·have nL:n<na:=by
      have h1:=xd
      rcases gC n na with g | g
      ·exact g
      ·exfalso;omega
     have pL:=hIA n nL
     refine aC ?_
     refine cp au (pL) ?_
     refine aA ?_
     exact jL (n+1) ae
    ·obtain rfl:n=na:=by first | omega | (have:=zk (by simpa using xd);omega)
     refine bc ?_
     exact ahc
   ·obtain rfl:n=na:=by have:=zk xd;omega
    refine iE ?_
    exact ahc
  ·rintro _ ⟨LB2,-,rfl⟩
   refine aT ?_
   refine cM (az.kill _ 9) ?_
   refine aA ?_
   refine bN ?_
   refine aC ?_
   refine cu (b:=_) rfl aj ?_
   refine bG ?_
   refine iM (fun L=>∃  (L1:St),(True)/\L=((((((((((St.mk L1.slot (hp [(3,⟨3,[.agg [ai d,.list 3 (k.map ah),.list 12 (C.map dz)]],true⟩),(4,⟨3,[ah a],true⟩),(5,⟨3,[ah b],true⟩),(6,⟨3,[.agg [.v (.int .i64 0),.v (.slice none 0 0),.v (.slice none 0 0)]],true⟩),(9,⟨3,[ah b],true⟩)])).put (some 3) (.aD 3 3 0 0)).put (some 4) (.aD 4 3 0 0)).put (some 5) (.aD 5 3 0 0)).put (some 6) (.aD 6 3 0 0)).put (some 7) (.list 3 ((KB 0).map ah))).put (some 9) (.aD 9 3 0 0)).put (some 10) (bL eb)).put (some 19) (.agg [ah a,ah b])).put (some 20) (ai 1))) ?_ ?_
   ·refine a9 16 aq ?_
    refine aA ?_
    try refine aO ?_
    refine cp au (azL) ?_
    refine av ?_
    refine ez 28 rfl ?_ ?_<;>intro xU qN
    ·first | (have nP:bL ea=bL true:=by rw [<-hea,decide_eq_true qN,Bool.true_or]) | (have nP:bL eb=bL true:=by rw [<-heb,decide_eq_true qN,Bool.true_or])
     refine aZ ?_
     try refine aO ?_
     refine bc ?_
     exact⟨_,trivial,((al (al (al (al (al (al (al (al (al (bK cl) cl) cl) cl) cl) cl) cl) (by first | exact nP | exact nP.symm | (refine aO ?_;first | exact nP | exact nP.symm))) cl) cl)).symm⟩
    ·first | (have nP:bL ea=bL (decide (a=k.getD (k.length-1) 0)):=by rw [<-hea,decide_eq_false qN,Bool.false_or]) | (have nP:bL eb=bL (decide (b=(KB 0).getD ((KB 0).length-1) 0)):=by rw [<-heb,decide_eq_false qN,Bool.false_or])
     refine aA ?_
     refine ak (aP (v:=false) rfl rfl (xU) rfl) (.bin rfl rfl (afV ae ae)) ?_
     refine aT ?_
     try refine aO ?_
     refine cp au (aIY) ?_
     refine aA ?_
     exact⟨_,trivial,((al (al (al (al (al (al (al (al (al (bK cl) cl) cl) cl) cl) cl) cl) (by first | exact nP | exact nP.symm | (refine aO ?_;first | exact nP | exact nP.symm))) cl) cl)).symm⟩
   ·rintro _ ⟨LR5,-,rfl⟩
    refine av ?_
    refine iM (fun L=>∃  (L1:St),(True)/\L=((((((((St.mk L1.slot (hp [(3,⟨3,[.agg [ai d,.list 3 (k.map ah),.list 12 (C.map dz)]],true⟩),(4,⟨3,[ah a],true⟩),(5,⟨3,[ah b],true⟩),(6,⟨3,[.agg [.v (.int .i64 0),.v (.slice none 0 0),.v (.slice none 0 0)]],true⟩),(9,⟨3,[ah b],true⟩)])).put (some 3) (.aD 3 3 0 0)).put (some 4) (.aD 4 3 0 0)).put (some 5) (.aD 5 3 0 0)).put (some 6) (.aD 6 3 0 0)).put (some 7) (.list 3 (w.map ah))).put (some 19) (.agg [ah a,ah b])).put (some 20) (ai 1))) ?_ ?_
    ·refine av ?_
     refine dV (fun(n:Nat) L=>((((((((((St.mk L.slot (hp [(3,⟨3,[.agg [ai d,.list 3 (k.map ah),.list 12 (C.map dz)]],true⟩),(4,⟨3,[ah a],true⟩),(5,⟨3,[ah b],true⟩),(6,⟨3,[.agg [.v (.int .i64 0),.v (.slice none 0 0),.v (.slice none 0 0)]],true⟩),(9,⟨3,[ah b],true⟩)])).put (some 3) (.aD 3 3 0 0)).put (some 4) (.aD 4 3 0 0)).put (some 5) (.aD 5 3 0 0)).put (some 6) (.aD 6 3 0 0)).put (some 7) (.list 3 ((KB n).map ah))).put (some 9) (.aD 9 3 0 0)).put (some 10) (bL eb)).put (some 19) (.agg [ah a,ah b])).put (some 20) (ai 1))) (fun n=>n<=nb) (fun n=>nb-n) 0 (b8 _) ?_
     rintro n L2 hn
     refine aT ?_
     refine a9 10 aq ?_
     refine aQ ?_
     refine ez 40 rfl ?_ ?_<;>intro aml xd
     ·refine aT ?_
      refine cp au (hTB (by simpa using xd) n hn) ?_
      refine aC ?_
      refine aH rfl ?_ ?_<;>intro afJ h47
      ·have nL:n<nb:=by
        have h1:=xd
        rcases gC n nb with g | g
        ·exact g
        ·exfalso;omega
       have pL:=hIB n nL
       refine aC ?_
       refine cp au (pL) ?_
       refine aA ?_
       exact jL (n+1) ae
      ·obtain rfl:n=nb:=by first | omega | (have:=hzb (by simpa using xd);omega)
       refine bc ?_
       exact ahc
     ·obtain rfl:n=nb:=by have:=hzb xd;omega
      refine iE ?_
      exact ahc
    ·rintro _ ⟨LB2,-,rfl⟩
     refine aT ?_
     refine cM (az.kill _ 9) ?_
     refine aA ?_
     refine bN ?_
     refine aC ?_
     refine ff (b:=_) rfl aj ?_
     refine bD ?_
     refine cp au (hO) ?_
     refine pa ?_
     refine oD [4] rfl rfl (.mk (caps:=[.cr (ah a)]) (.cons (.aD rfl rfl rfl (ar.aw _) (rh _) (ar.pure _) rfl) .nil) (fun x hx=>by rw [gS.1 hx];exact⟨rfl,rfl⟩)) rfl ?_
     refine fG rfl (.cons (.pure hpw) (.cons (.pure (show LV.pure (.dq 162 [.cr (ah a)])=true by simp [LV.pure,aN,ar.pure])) .nil)) (th) ?_
     refine ak rfl lK ?_
     refine aC ?_
     refine oD [5] rfl rfl (.mk (caps:=[.cr (ah b)]) (.cons (.aD rfl rfl rfl (ar.aw _) (rh _) (ar.pure _) rfl) .nil) (fun x hx=>by rw [gS.1 hx];exact⟨rfl,rfl⟩)) rfl ?_
     refine fG rfl (.cons (.pure hpw) (.cons (.pure (show LV.pure (.dq 163 [.cr (ah b)])=true by simp [LV.pure,aN,ar.pure])) .nil)) (sv) ?_
     refine bo ?_
     refine ak rfl cV ?_
     refine aA ?_
     refine lR ((az.cell 12 rfl (fun Z μ w cs h=>ayF 74 3 _ _ Z μ w cs h)).trans (az.xh _ 74 3 rfl)) ?_
     refine dV (fun(m:Nat) L=>((((((((((((St.mk L.slot (hp [(3,⟨3,[.agg [ai d,.list 3 (k.map ah),.list 12 (C.map dz)]],true⟩),(4,⟨3,[ah a],false⟩),(5,⟨3,[ah b],false⟩),(6,⟨3,[.agg [.v (.int .i64 0),.v (.slice none 0 0),.v (.slice none 0 0)]],true⟩),(11,⟨3,[.agg [ai d,.list 3 (w.map ah),.list 12 (C2.map dz)]],true⟩),(12,⟨3,[.agg [ai d,.ref 74 3 0 m,.v (.slice none 0 0)]],true⟩),(74,⟨3,(ay m a).map ah,true⟩)])).put (some 3) (.aD 3 3 0 0)).put (some 4) (.aD 4 3 0 0)).put (some 5) (.aD 5 3 0 0)).put (some 6) (.aD 6 3 0 0)).put (some 7) (.list 3 (w.map ah))).put (some 11) (.aD 11 3 0 0)).put (some 12) (.aD 12 3 0 0)).put (some 13) (ai (f1-1))).put (some 14) (ai l2)).put (some 67) (ai (d+1))).put (some 68) (ai m))) (fun m=>m<=d+1) (fun m=>d+1-m) 0 (b8 _) ?_
     rintro m L3 hm
     refine aC ?_
     refine aH rfl ?_ ?_<;>intro aqw h69
     ·have fe:m<d+1:=by omega
      have eal:(ay m a++[a])=ay (m+1) a:=by rw [ag1]
      have eap:((ay m a).map ah).take m=(ay m a).map ah:=dg aM
      refine bD ?_
      refine bS rfl (.iJ (d:=74) (news:=[ah a]) rfl rfl rfl rfl ym (.inl rfl) aj dI dI mq db rfl mY (.inl ⟨73,0,_,rfl,by decide,rfl,rfl,by simp,rfl,by simp [aN,ar.pure]⟩) ym ym aj) ?_
      refine bc ?_
      refine cM (az.kill _ 73) ?_
      refine ak rfl cV ?_
      refine aQ ?_
      exact jL (m+1) ae
     ·obtain rfl:m=d+1:=by omega
      have eal:True:=trivial
      have eap:((ay (d+1) a).map ah).take (d+1)=(ay (d+1) a).map ah:=dg aM
      refine aC ?_
      refine a9 7 aq ?_
      refine aA ?_
      refine ak rfl (.bin rfl rfl (show dN .add .i64 ((f1-1:Nat):Int) 1=some (.int .i64 ((f1:Nat):Int)) from (by rw [agu ae,Nat.sub_add_cancel ae]))) ?_
      refine av ?_
      refine ak rfl (.amw (a:=f1) (h:=l2) ar rfl dI db rfl rfl om om) ?_
      refine aO ?_
      refine bS rfl (.iJ (d:=74) (news:=((w.take l2).drop f1).map ah) rfl rfl rfl rfl aM (.inl rfl) aj dI dI mq db rfl mY (.inr (.inl rfl)) ym ym aj) ?_
      refine bD ?_
      refine ak rfl cV ?_
      refine aA ?_
      refine dV (fun(m:Nat) L=>((((((((((((St.mk L.slot (hp [(3,⟨3,[.agg [ai d,.list 3 (k.map ah),.list 12 (C.map dz)]],true⟩),(4,⟨3,[ah a],false⟩),(5,⟨3,[ah b],false⟩),(6,⟨3,[.agg [.v (.int .i64 0),.v (.slice none 0 0),.v (.slice none 0 0)]],true⟩),(11,⟨3,[.agg [ai d,.list 3 (w.map ah),.list 12 (C2.map dz)]],true⟩),(12,⟨3,[.agg [ai d,.ref 74 3 0 (d+1+(l2-f1)+m),.v (.slice none 0 0)]],true⟩),(74,⟨3,(ay (d+1) a++((w.take l2).drop f1)++ay m b).map ah,true⟩)])).put (some 3) (.aD 3 3 0 0)).put (some 4) (.aD 4 3 0 0)).put (some 5) (.aD 5 3 0 0)).put (some 6) (.aD 6 3 0 0)).put (some 7) (.list 3 (w.map ah))).put (some 11) (.aD 11 3 0 0)).put (some 12) (.aD 12 3 0 0)).put (some 13) (ai (f1-1))).put (some 14) (ai l2)).put (some 88) (ai (d+1))).put (some 89) (ai m))) (fun m=>m<=d+1) (fun m=>d+1-m) 0 (b8 _) ?_
      rintro m L4 hm
      refine aC ?_
      refine aH rfl ?_ ?_<;>intro aGm h90
      ·have fe:m<d+1:=by omega
       have ebl:(ay (d+1) a++((w.take l2).drop f1)++ay m b)++[b]=ay (d+1) a++((w.take l2).drop f1)++ay (m+1) b:=by rw [xS _ (ay m b),<-ag1]
       have ebp:((ay (d+1) a++((w.take l2).drop f1)++ay m b).map ah).take (d+1+(l2-f1)+m)=(ay (d+1) a++((w.take l2).drop f1)++ay m b).map ah:=dg (by rw [dL,lT,lT,ajT];simp)
       refine bD ?_
       refine bS rfl (.iJ (d:=74) (news:=[ah b]) rfl rfl rfl rfl ym (.inl rfl) aj dI dI mq db rfl mY (.inl ⟨94,0,_,rfl,by decide,rfl,rfl,by simp,rfl,by simp [aN,ar.pure]⟩) ym ym aj) ?_
       refine bc ?_
       refine cM (az.kill _ 94) ?_
       refine ak rfl cV ?_
       refine aQ ?_
       exact jL (m+1) ae
      ·obtain rfl:m=d+1:=by omega
       refine bG ?_
       refine ak rfl (.bin rfl rfl (aam (a:=f1-1) (b:=d) (c:=f1-1-d) ae ae)) ?_
       refine av ?_
       refine ak rfl (.amw (a:=f1-1-d) (h:=l2) lE rfl zQ abo rfl rfl om om) ?_
       refine bC ?_
       exact iG [74] rfl rfl rfl cs (dZ cs rfl) agR (.agg (.cons (.pure rfl) (.cons (fI (l:=(ay (d+1) a++((w.take l2).drop f1)++ay (d+1) b)) ar rfl rfl (by rw [lT,lT,ajT];simp)) (.cons (.pure (fc lE 12 _)) .nil))))
theorem arT (k:List Rat) (t:Rat):∀ i,i<=k.length->gM k t i=(k.take i).count t
 | 0,_=>by simp [gM]
 | i+1,h=>by
  rw [gM,arT k t i ae,<-ab6 (show i<k.length by omega),List.count_append,List.count_singleton]
  congr 1
  by_cases e:k.getD i 0=t
  ·rw [if_pos e,if_pos (by simpa using e)]
  ·rw [if_neg e,if_neg (by simpa using e)]
theorem aoQ (k:List Rat) (t:Rat):gM k t k.length=k.count t:=by
 rw [arT k t _ (bq _),nT]
def kq (d:Nat) (x a b y:Rat) (m n:Nat):List Rat:=(ay (d+1) x++ay m a)++(ay n b++ay (d+1) y)
section
variable (d:Nat) (x a b y:Rat) (m n:Nat)
theorem qQ:(kq d x a b y m n).length=2*(d+1)+m+n:=by simp [kq];omega
theorem aJH:kq d x a b y 0 0=bu d x y:=by simp [kq,bu]
theorem ic (i:Nat) (h:i<2*(d+1)+m+n):(kq d x a b y m n).getD i 0=if i<d+1 then x else if i<d+1+m then a else if i<d+1+m+n then b else y:=by
 have l1:(ay (d+1) x++ay m a).length=d+1+m:=by simp
 unfold kq
 by_cases h1:i<d+1
 ·rw [if_pos h1,yA (by rw [l1];omega),yA (by simpa using h1),vz h1]
 ·rw [if_neg h1]
  by_cases h2:i<d+1+m
  ·rw [if_pos h2,yA (by rw [l1];omega),zc bz,tT,vz ae]
  ·rw [if_neg h2,zc (by rw [l1];omega),l1]
   by_cases h3:i<d+1+m+n
   ·rw [if_pos h3,yA bz,vz ae]
   ·rw [if_neg h3,zc bz,tT,vz ae]
theorem aox:(kq d x a b y m 0).take (d+1+m)++a :: (kq d x a b y m 0).drop (d+1+m)=kq d x a b y (m+1) 0:=by
 have l1:(ay (d+1) x++ay m a).length=d+1+m:=by simp
 unfold kq
 rw [af5 l1,acq l1,ag1 (n:=m)]
 simp
theorem aBf:(kq d x a b y m n).take (d+1+m+n)++b :: (kq d x a b y m n).drop (d+1+m+n)=kq d x a b y m (n+1):=by
 have e:kq d x a b y m n=((ay (d+1) x++ay m a)++ay n b)++ay (d+1) y:=by simp [kq]
 have l1:((ay (d+1) x++ay m a)++ay n b).length=d+1+m+n:=by simp;omega
 rw [e,af5 l1,acq l1]
 unfold kq
 rw [ag1 (n:=n)]
 simp
theorem aa5 {R:Nat} (h1:rl x<=R) (h2:rl a<=R) (h3:rl b<=R) (h4:rl y<=R):∀ t∈kq d x a b y m n,rl t<=R:=fun t ht=>by
 simp only [kq,o8,sZ] at ht
 rcases ht with(⟨_,rfl⟩ | ⟨_,rfl⟩) | ⟨_,rfl⟩ | ⟨_,rfl⟩<;>assumption
end
theorem apo {d:Nat} {x a b y:Rat} (m:Nat) (h1:x≠a) (h2:a≠y):gM (kq d x a b y m 0) a (kq d x a b y m 0).length=m:=by
 rw [aoQ]
 simp [kq,auo,h1,h2.symm]
theorem azJ {d:Nat} {x a b y:Rat} (m n:Nat) (h1:x≠b) (h2:a≠b) (h3:b≠y):gM (kq d x a b y m n) b (kq d x a b y m n).length=n:=by
 rw [aoQ]
 simp [kq,auo,h1,h2,h3.symm]
theorem ar2 {d:Nat} {x a b y:Rat} {m n i:Nat} (hm:m=0/\a=x\/m=d) (hn:n=0/\b=y\/n=d) (hi:i<=d):((kq d x a b y m n).drop (m+i+1)).take d=ay (d-i) a++ay i b:=by
 have eL:(ay (d+1) x++ay m a).drop (m+1)=ay d a:=by
  rcases hm with⟨rfl,rfl⟩ | rfl
  ·simp
  ·rw [acq aM]
 have eR:(ay n b++ay (d+1) y).take i=ay i b:=by
  rcases hn with⟨rfl,rfl⟩ | rfl
  ·simp;omega
  ·rw [atA (by simpa using hi)];simp;omega
 have e1:(kq d x a b y m n).drop (m+1)=ay d a++(ay n b++ay (d+1) y):=by
  unfold kq
  rw [alg bz,eL]
 rw [show m+i+1=(m+1)+i by omega,<-List.drop_drop,e1,alg (by simpa using hi),ay1,ayA,dg aM,tT,show d-(d-i)=i by omega,eR]
theorem ajr {d:Nat} {x y:Rat} {v args:List Rat} (hv:v.length=d+1):cZ (bu d x y) d d v args=blo d x y v args:=by
 have e0:(v.drop (d-d)).take (d+1)=v:=by rw [qn,mn,dg ae]
 have key:∀ r,r<=d->cG (gF (bu d x y) d d args) v r=wR (fun t=>(t-x)/(y-x)) args v r:=by
  intro r
  induction r with
  | zero=>exact fun _=>rfl
  | succ r ih =>
   intro hr
   rw [cG,wR,ih ae]
   refine afN (by rw [vu,ag0]) fun i hi=>?_
   rw [vu,afI,hv] at hi
   rw [u6 _ _ _ _ (by rw [afI,hv];exact hi),ant _ _ _ _ (by rw [afI,hv];exact hi)]
   by_cases g:r<i
   ·rw [if_pos g,if_pos g]
    have e:gF (bu d x y) d d args r i=(args.getD r 0-x)/(y-x):=by
     unfold gF
     rw [iH _ _ _ _ ae,iH _ _ _ _ ae,if_pos ae,if_neg ae]
    rw [e]
   ·rw [if_neg g,if_neg g]
 unfold cZ blo
 rw [e0,key d (bq _)]
theorem aEw {d:Nat} {x y:Rat} {C:List Q4} {args:List Rat} (hC:C.length=d+1):mX (bu d x y) d d C args=pol d x y C args:=by
 unfold mX pol
 rw [ajr (by simpa using hC),ajr (by simpa using hC),ajr (by simpa using hC),ajr (by simpa using hC)]
def agF (d:Nat) (x y:Rat) (C:List Q4) (a b:Rat):List Q4:=(c9 (d+1)).map fun i=>pol d x y C (ay (d-i) a++ay i b)
theorem aGo {d:Nat} {x y:Rat} (h6:d<=6) (sA:x<y) (hx:rl x<=100) (hy:rl y<=100):xk (bu d x y) d d where
 d6:=h6
 kl:=by rw [lL];omega
 kr:=adb hx hy
 srt:=fun i j rF hj=>by
  rw [lL] at hj
  rw [iH _ _ _ _ ae,iH _ _ _ _ hj]
  split<;>split<;>first | grind | (exfalso;omega)
 p1:=bq _
 p2:=by rw [lL];omega
 lt:=by rw [iH _ _ _ _ ae,iH _ _ _ _ ae,if_pos ae,if_neg ae];exact sA
def dW (q:Q4):aG:=⟨⟨q.x/q.w,q.y/q.w,q.z/q.w⟩,q.w⟩
theorem aIX (d:Nat) (x y a b:Rat) (C:List Q4) (R:Nat) (h1:1<=d) (h6:d<=6) (hxa:x<=a) (cL:a<b) (l6:b<=y) (hx:rl x<=64) (hy:rl y<=64) (ha:rl a<=64) (hb:rl b<=64) (hC:C.length=d+1) (fH:1<=R) (hR:R<=10000000) (lO:∀ q∈C,rv R q) :
  ax an 86 [.agg [ai d,.list 3 ((bu d x y).map ah),.list 12 (C.map dz)],ah a,ah b] (.agg [ai d,.list 3 ((bu d a b).map ah),.list 12 ((agF d x y C a b).map dz)]):=by
 obtain⟨m,hm⟩:∃ m,(m=0/\a=x)\/(m=d/\a≠x):=by
  by_cases e:a=x
  ·exact⟨0,.inl ⟨rfl,e⟩⟩
  ·exact⟨d,.inr ⟨rfl,e⟩⟩
 obtain⟨n,hn⟩:∃ n,(n=0/\b=y)\/(n=d/\b≠y):=by
  by_cases e:b=y
  ·exact⟨0,.inl ⟨rfl,e⟩⟩
  ·exact⟨d,.inr ⟨rfl,e⟩⟩
 have hmd:m<=d:=by omega
 have hnd:n<=d:=by omega
 have hma:0<m->x<a:=fun h=>by
  rcases hm with e | e
  ·omega
  ·have:=e.2;grind
 have hnb:0<n->b<y:=fun h=>by
  rcases hn with e | e
  ·omega
  ·have:=e.2;grind
 have nE:∀ p q,∀ t∈kq d x a b y p q,rl t<=64:=fun p q=>aa5 d x a b y p q hx ha hb hy
 have iD:=qQ d x a b y m n
 have hTA:decide (a=x)=false->∀ j,j<=m->ax an 158 [.list 3 ((kq d x a b y j 0).map ah),ah a] (ai (d-(m-j))):=fun hh j hj=>by
  have aX:a≠x:=by simpa using hh
  have:=aiA (kq d x a b y j 0) (by rw [qQ];omega) (fun t ht=>ba (nE j 0 t ht) aj) a ae
  rw [apo j (fun e=>aX e.symm) cj] at this
  rwa [show d-(m-j)=j by rcases hm with e | e;exact absurd e.2 aX;omega]
 have hTB:decide (b=y)=false->∀ j,j<=n->ax an 158 [.list 3 ((kq d x a b y m j).map ah),ah b] (ai (d-(n-j))):=fun hh j hj=>by
  have aX:b≠y:=by simpa using hh
  have:=aiA (kq d x a b y m j) (by rw [qQ];omega) (fun t ht=>ba (nE m j t ht) aj) b ae
  rw [azJ m j cj cj aX] at this
  rwa [show d-(n-j)=j by rcases hn with e | e;exact absurd e.2 aX;omega]
 have hIA:∀ j,j<m->ax an 159 [.list 3 ((kq d x a b y j 0).map ah),ah a] (.list 3 ((kq d x a b y (j+1) 0).map ah)):=fun j hj=>by
  have aK0:=hma ae
  have:=akt (kq d x a b y j 0) a (d+1+j) (by rw [qQ];omega) (by rw [qQ];omega) (fun t ht=>ba (nE j 0 t ht) aj) ae (fun i hi=>by
   rw [ic _ _ _ _ _ _ _ _ ae]
   split
   ·exact hxa
   ·first | exact gf | (rw [if_pos hi];exact gf)) (by
   rw [ic _ _ _ _ _ _ _ _ ae,if_neg ae,if_neg ae,if_neg ae];grind)
  rwa [aox] at this
 have hIB:∀ j,j<n->ax an 159 [.list 3 ((kq d x a b y m j).map ah),ah b] (.list 3 ((kq d x a b y m (j+1)).map ah)):=fun j hj=>by
  have agQ:=hnb ae
  have:=akt (kq d x a b y m j) b (d+1+m+j) (by rw [qQ];omega) (by rw [qQ];omega) (fun t ht=>ba (nE m j t ht) aj) ae (fun i hi=>by
   rw [ic _ _ _ _ _ _ _ _ ae]
   split
   ·grind
   ·split
    ·grind
    ·first | exact gf | (rw [if_pos hi];exact gf)) (by
   rw [ic _ _ _ _ _ _ _ _ ae,if_neg ae,if_neg ae,if_neg ae];exact agQ)
  rwa [aBf] at this
 have hI:∀ j,j<d+1+m+n->∃ r,j<=r/\r+1<2*(d+1)+m+n/\(kq d x a b y m n).getD r 0<(kq d x a b y m n).getD (r+1) 0/\(∀ i,j<=i->i<r->¬(kq d x a b y m n).getD i 0<(kq d x a b y m n).getD (i+1) 0)/\x<=(kq d x a b y m n).getD r 0/\(kq d x a b y m n).getD r 0<y:=fun j hj=>by
  by_cases c1:j<=d
  ·refine⟨d,c1,ae,?_,fun i h2 h3=>?_,?_,?_⟩
   ·rw [ic _ _ _ _ _ _ _ _ ae,ic _ _ _ _ _ _ _ _ ae,if_pos ae,if_neg ae]
    split
    ·exact hma ae
    ·split<;>grind
   ·rw [ic _ _ _ _ _ _ _ _ ae,ic _ _ _ _ _ _ _ _ ae,if_pos ae,if_pos ae];grind
   ·rw [ic _ _ _ _ _ _ _ _ ae,if_pos ae];exact gf
   ·rw [ic _ _ _ _ _ _ _ _ ae,if_pos ae];grind
  ·by_cases c2:j<=d+m
   ·refine⟨d+m,c2,ae,?_,fun i h2 h3=>?_,?_,?_⟩
    ·rw [ic _ _ _ _ _ _ _ _ ae,ic _ _ _ _ _ _ _ _ ae,if_neg ae,if_pos ae,if_neg ae,if_neg ae]
     split<;>grind
    ·rw [ic _ _ _ _ _ _ _ _ ae,ic _ _ _ _ _ _ _ _ ae,if_neg ae,if_pos ae,if_neg ae,if_pos ae];grind
    ·rw [ic _ _ _ _ _ _ _ _ ae,if_neg ae,if_pos ae];exact hxa
    ·rw [ic _ _ _ _ _ _ _ _ ae,if_neg ae,if_pos ae];grind
   ·have agQ:=hnb ae
    refine⟨d+m+n,ae,ae,?_,fun i h2 h3=>?_,?_,?_⟩
    ·rw [ic _ _ _ _ _ _ _ _ ae,ic _ _ _ _ _ _ _ _ ae,if_neg ae,if_neg ae,if_pos ae,if_neg ae,if_neg ae,if_neg ae];exact agQ
    ·rw [ic _ _ _ _ _ _ _ _ ae,ic _ _ _ _ _ _ _ _ ae,if_neg ae,if_neg ae,if_pos ae,if_neg ae,if_neg ae,if_pos ae];grind
    ·rw [ic _ _ _ _ _ _ _ _ ae,if_neg ae,if_neg ae,if_pos ae];grind
    ·rw [ic _ _ _ _ _ _ _ _ ae,if_neg ae,if_neg ae,if_pos ae];exact agQ
 obtain⟨I,hI⟩:∃ I:Nat->Nat,∀ j,j<d+1+m+n->j<=I j/\I j+1<2*(d+1)+m+n/\(kq d x a b y m n).getD (I j) 0<(kq d x a b y m n).getD (I j+1) 0/\(∀ i,j<=i->i<I j->¬(kq d x a b y m n).getD i 0<(kq d x a b y m n).getD (i+1) 0)/\x<=(kq d x a b y m n).getD (I j) 0/\(kq d x a b y m n).getD (I j) 0<y :=
  ⟨fun j=>if h:j<d+1+m+n then(hI j h).choose else 0,fun j h=>by simp only [h,dif_pos];exact(hI j h).choose_spec⟩
 have hrW:∀ i,i<2*(d+1)+m+n->rl ((kq d x a b y m n).getD i 0)<=64:=fun i hi=>nE m n _ (dK (by rw [iD];exact hi))
 have hO:=aua (bu d x y) (kq d x a b y m n) d (d+1+m+n) C R I (fun _=>d) ae o6 o6 (fun t ht=>ba (nE m n t ht) aj) (by rw [lL,hC];omega) fH hR lO (fun j hj=>by rw [iD];have:=(hI j hj).2.1;omega)
  (fun j hj=>aGo h6 cj ae ae)
  (fun j hj=>an9 (kq d x a b y m n) j (I j) o6 (fun t ht=>ba (nE m n t ht) aj) (hI j hj).1 (by rw [iD];exact(hI j hj).2.1) (hI j hj).2.2.1 (hI j hj).2.2.2.1)
  (fun j hj=>aAj d x y _ h6 ae ae (by have:=hrW (I j) (by have:=(hI j hj).2.1;omega);omega) (hI j hj).2.2.2.2.1 (hI j hj).2.2.2.2.2)
 have th:ax an 161 [.list 3 ((kq d x a b y m n).map ah),.dq 162 [.cr (ah a)]] (ai (d+1+m)):=by
  have:=aiV 162 [.cr (ah a)] (by simp [aN,LV.pure,ar.pure]) (fun x hx=>by rw [gS.1 hx];exact⟨rfl,rfl⟩) (fun t=>decide (gJ t a > 0)) (kq d x a b y m n) o6 (fun t ht=>arU a t (by have:=nE m n t ht;omega))
  rwa [agn (i:=d+1+m) o6 (fun j hj=>by
   have e:(kq d x a b y m n).getD j default=(kq d x a b y m n).getD j 0:=rfl
   rw [e,ic _ _ _ _ _ _ _ _ ae]
   refine decide_eq_false fun hh=>?_
   have hh:=vB.1 hh
   split at hh
   ·grind
   ·first | grind | (rw [if_pos hj] at hh;grind)) (by
   have e:(kq d x a b y m n).getD (d+1+m) default=(kq d x a b y m n).getD (d+1+m) 0:=rfl
   rw [e,ic _ _ _ _ _ _ _ _ ae,if_neg ae,if_neg ae]
   refine decide_eq_true (vB.2 ?_)
   split<;>grind)] at this
 have sv:ax an 161 [.list 3 ((kq d x a b y m n).map ah),.dq 163 [.cr (ah b)]] (ai (d+1+m)):=by
  have:=aiV 163 [.cr (ah b)] (by simp [aN,LV.pure,ar.pure]) (fun x hx=>by rw [gS.1 hx];exact⟨rfl,rfl⟩) (fun t=>decide (gJ t b>=0)) (kq d x a b y m n) o6 (fun t ht=>as8 b t (by have:=nE m n t ht;omega))
  rwa [agn (i:=d+1+m) o6 (fun j hj=>by
   have e:(kq d x a b y m n).getD j default=(kq d x a b y m n).getD j 0:=rfl
   rw [e,ic _ _ _ _ _ _ _ _ ae]
   refine decide_eq_false fun hh=>?_
   have hh:=wD.1 hh
   split at hh
   ·grind
   ·first | grind | (rw [if_pos hj] at hh;grind)) (by
   have e:(kq d x a b y m n).getD (d+1+m) default=(kq d x a b y m n).getD (d+1+m) 0:=rfl
   rw [e,ic _ _ _ _ _ _ _ _ ae,if_neg ae,if_neg ae]
   refine decide_eq_true (wD.2 ?_)
   split<;>grind)] at this
 have oX:=qQ d x a b y m 0
 have sL:(kq d x a b y m 0).getD 0 0=x:=by rw [ic _ _ _ _ _ _ _ _ ae,if_pos ae]
 have oh:(kq d x a b y m 0).getD ((kq d x a b y m 0).length-1) 0=y:=by rw [oX,ic _ _ _ _ _ _ _ _ ae,if_neg ae,if_neg ae,if_neg ae]
 have main:=alu (bu d x y) (kq d x a b y m n) d C _ a b (decide (a=x)) (decide (b=y)) m n (fun j=>kq d x a b y j 0) (fun j=>kq d x a b y m j) (d+1+m) (d+1+m) h6 ae ae (by rw [lL];omega) (by rw [lL];omega) (fun t ht=>ba (adb hx hy t ht) aj)
  (aJH d x a b y) rfl rfl (by show 0<(kq d x a b y m 0).length;rw [oX];omega) (by show (kq d x a b y m 0).length<=100;rw [oX];omega) (fun t ht=>ba (nE m 0 t ht) aj) o6
  (by rw [aaS,lL,ab2,decide_eq_false (show ¬a=y by grind),Bool.or_false]) (by show (decide (b=(kq d x a b y m 0).getD 0 0) || decide (b=(kq d x a b y m 0).getD ((kq d x a b y m 0).length-1) 0))=_;rw [sL,oh,decide_eq_false (show ¬b=x by grind),Bool.false_or]) hmd hnd
  (fun h=>by have:=of_decide_eq_true h;rcases hm with e | e<;>grind) (fun h=>by have:=of_decide_eq_true h;rcases hn with e | e<;>grind) hTA hTB hIA hIB hO th sv ae (bq _) aM (by rw [iD];simp;omega)
 have e1:((kq d x a b y m n).take (d+1+m)).drop (d+1+m)=[]:=kg (by rw [eP];exact amO _ _)
 have e2:((((c9 (d+1+m+n)).map fun j=>mX (bu d x y) d ((fun _=>d) j) C (((kq d x a b y m n).drop (j+1)).take d)).take (d+1+m)).drop (d+1+m-1-d))=agF d x y C a b:=by
  unfold agF
  refine vk (by first | (simp;done) | (simp;omega)) fun i h1 h2=>?_
  have hi:i<d+1:=by simpa using h2
  simp only [amT,anu,anr,alO]
  rw [show d+1+m-1-d+i=m+i by omega,aEw hC,ar2 (by rcases hm with e | e;exact .inl e;exact .inr e.1) (by rcases hn with e | e;exact .inl e;exact .inr e.1) ae]
 rw [e1,e2,ng] at main
 exact main
def bR (d:Nat) (a t b:Rat):List Rat:=kq d a t t b 1 0
theorem pJ (d:Nat) (a t b:Rat):(bR d a t b).length=2*d+3:=by rw [bR,qQ];omega
theorem eT (d:Nat) (a t b:Rat) (i:Nat) (h:i<2*d+3):(bR d a t b).getD i 0=if i<d+1 then a else if i<d+2 then t else b:=by
 rw [bR,ic _ _ _ _ _ _ _ _ ae]
 by_cases h1:i<d+1
 ·rw [if_pos h1,if_pos h1]
 ·rw [if_neg h1,if_neg h1]
  by_cases h2:i<d+1+1
  ·rw [if_pos h2,if_pos ae]
  ·rw [if_neg h2]
theorem adO {d:Nat} {a t b:Rat} {R:Nat} (h1:rl a<=R) (h2:rl t<=R) (h3:rl b<=R):∀ x∈bR d a t b,rl x<=R:=aa5 d a t t b 1 0 h1 h2 h2 h3
theorem aFf {d:Nat} {a t b:Rat} (h6:d<=6) (cm:a<t) (du:t<b) (ha:rl a<=100) (ht:rl t<=100) (hb:rl b<=100) {p:Nat} (hp:p=d\/p=d+1) (ki:1<=d):xk (bR d a t b) d p where
 d6:=h6
 kl:=by rw [pJ];omega
 kr:=adO ha ht hb
 srt:=fun i j rF hj=>by
  rw [pJ] at hj
  rw [eT _ _ _ _ _ ae,eT _ _ _ _ _ hj]
  by_cases i1:i<d+1<;>by_cases i2:i<d+2<;>by_cases j1:j<d+1<;>by_cases j2:j<d+2<;>simp only [i1,i2,j1,j2,if_true,if_false]<;>first | exact gf | grind | (exfalso;omega)
 p1:=by omega
 p2:=by rw [pJ];omega
 lt:=by
  rcases hp with rfl | rfl
  ·rw [eT _ _ _ _ _ ae,eT _ _ _ _ _ ae,if_pos ae,if_neg ae,if_pos ae];exact cm
  ·rw [eT _ _ _ _ _ ae,eT _ _ _ _ _ ae,if_neg ae,if_pos ae,if_neg ae,if_neg ae];exact du
def kj (d:Nat) (a t b:Rat) (C:List Q4):List Q4:=(c9 (d+1)).map fun j=>mX (bR d a t b) d d C (ay (d-j) a++ay j t)
def km (d:Nat) (a t b:Rat) (C:List Q4):List Q4:=(c9 (d+1)).map fun i=>mX (bR d a t b) d (if i=0 then d else d+1) C (ay (d-i) t++ay i b)
theorem aHo {d:Nat} {a t b:Rat} {j:Nat} (hj:j<=d):((kq d a t t b d 0).drop (j+1)).take d=ay (d-j) a++ay j t:=by
 have e1:(kq d a t t b d 0).drop (j+1)=ay (d-j) a++(ay d t++ay (d+1) b):=by
  have:kq d a t t b d 0=ay (d+1) a++(ay d t++ay (d+1) b):=by simp [kq]
  rw [this,alg bz,ay1,show d+1-(j+1)=d-j by omega]
 rw [e1,ayA,dg aM,tT,show d-(d-j)=j by omega,atA (by simpa using hj),List.take_replicate,mf hj]
theorem axo (d:Nat) (a t b:Rat) (C:List Q4) (R:Nat) (h1:1<=d) (h6:d<=6) (cm:a<t) (du:t<b) (ha:rl a<=64) (ht:rl t<=64) (hb:rl b<=64) (hC:C.length=d+2) (fH:1<=R) (hR:R<=10000000) (lO:∀ q∈C,rv R q):ax an 160 [.agg [ai d,.list 3 ((bR d a t b).map ah),.list 12 (C.map dz)],.list 3 ((kq d a t t b d 0).map ah)] (.agg [ai d,.list 3 ((kq d a t t b d 0).map ah),.list 12 (((c9 (2*d+1)).map fun j=>mX (bR d a t b) d ((fun j=>if j<=d then d else d+1) j) C (((kq d a t t b d 0).drop (j+1)).take d)).map dz)]):=by
 have iD:(kq d a t t b d 0).length=2*(d+1)+d+0:=qQ d a t t b d 0
 have nE:∀ x∈(kq d a t t b d 0),rl x<=64:=aa5 d a t t b d 0 ha ht ht hb
 have g:∀ i,i<2*(d+1)+d+0->(kq d a t t b d 0).getD i 0=if i<d+1 then a else if i<d+1+d then t else b:=fun i hi=>by
  rw [ic _ _ _ _ _ _ _ _ hi]
  split
  ·rfl
  ·split
   ·rfl
   ·rw [if_neg ae]
 refine aua (bR d a t b) (kq d a t t b d 0) d (2*d+1) C R (fun j=>if j<=d then d else 2*d) (fun j=>if j<=d then d else d+1) ae o6 o6 (fun x hx=>ba (nE x hx) aj) (by rw [pJ,hC];omega) fH hR lO (fun j hj=>by rw [iD];show (if j<=d then d else 2*d)<_;split<;>omega)
  (fun j hj=>aFf h6 cm du ae ae ae (by show (if j<=d then d else d+1)=d\/_;split<;>simp) h1) (fun j hj=>?_) (fun j hj=>?_)
 ·by_cases c:j<=d
  ·rw [if_pos c]
   exact an9 (kq d a t t b d 0) j d o6 (fun x hx=>ba (nE x hx) aj) c o6 (by rw [g _ ae,g _ ae,if_pos ae,if_neg ae,if_pos ae];exact cm) (fun i q1 q2=>by rw [g _ ae,g _ ae,if_pos ae,if_pos ae];grind)
  ·rw [if_neg c]
   exact an9 (kq d a t t b d 0) j (2*d) o6 (fun x hx=>ba (nE x hx) aj) ae o6 (by rw [g _ ae,g _ ae,if_neg ae,if_pos ae,if_neg ae,if_neg ae];exact du) (fun i q1 q2=>by rw [g _ ae,g _ ae,if_neg ae,if_pos ae,if_neg ae,if_pos ae];grind)
 ·have e0:(bR d a t b).getD 0 0=a:=by rw [eT _ _ _ _ _ ae,if_pos ae]
  have e1:(bR d a t b).getD ((bR d a t b).length-1) 0=b:=by rw [pJ,eT _ _ _ _ _ ae,if_neg ae,if_neg ae]
  have sF:∀ x∈(bR d a t b),rl x<=64:=adO ha ht hb
  by_cases c:j<=d
  ·rw [if_pos c,if_pos c,g _ ae,if_pos ae]
   exact apu d (bR d a t b) a d (by rw [pJ];omega) (fun x hx=>ba (sF x hx) aj) ae (by rw [e0];exact gf) (by rw [e1];grind) (by rw [pJ];omega) (by rw [eT _ _ _ _ _ ae,eT _ _ _ _ _ ae,if_pos ae,if_neg ae,if_pos ae];exact cm)
    (fun i q1 q2=>by rw [eT _ _ _ _ _ ae,if_pos ae];exact gf) (.inl (by rw [eT _ _ _ _ _ ae,if_neg ae,if_pos ae];exact cm))
  ·rw [if_neg c,if_neg c,g _ ae,if_neg ae,if_pos ae]
   exact apu d (bR d a t b) t (d+1) (by rw [pJ];omega) (fun x hx=>ba (sF x hx) aj) ae (by rw [e0];grind) (by rw [e1];grind) (by rw [pJ];omega) (by rw [eT _ _ _ _ _ ae,eT _ _ _ _ _ ae,if_neg ae,if_pos ae,if_neg ae,if_neg ae];exact du)
    (fun i q1 q2=>by
     rw [eT _ _ _ _ _ ae]
     split
     ·grind
     ·rw [if_pos ae];exact gf) (.inl (by rw [eT _ _ _ _ _ ae,if_neg ae,if_neg ae];exact du))
theorem awB (d:Nat) (a t b:Rat) (C:List Q4) (R:Nat) (h1:1<=d) (h6:d<=6) (cm:a<t) (du:t<b) (ha:rl a<=64) (ht:rl t<=64) (hb:rl b<=64) (hC:C.length=d+2) (fH:1<=R) (hR:R<=10000000) (lO:∀ q∈C,rv R q) (j:Nat) (hj:j<=d-1):ax an 158 [.list 3 ((kq d a t t b (1+j) 0).map ah),ah t] (ai (d-(d-1-j))):=by
 have:=aiA (kq d a t t b (1+j) 0) (by rw [qQ];omega) (fun x hx=>ba (aa5 d a t t b (1+j) 0 ha ht ht hb x hx) aj) t ae
 rw [apo (1+j) cj cj] at this
 rwa [show d-(d-1-j)=1+j by omega]
theorem auP (d:Nat) (a t b:Rat) (C:List Q4) (R:Nat) (h1:1<=d) (h6:d<=6) (cm:a<t) (du:t<b) (ha:rl a<=64) (ht:rl t<=64) (hb:rl b<=64) (hC:C.length=d+2) (fH:1<=R) (hR:R<=10000000) (lO:∀ q∈C,rv R q) (j:Nat) (hj:j<d-1):ax an 159 [.list 3 ((kq d a t t b (1+j) 0).map ah),ah t] (.list 3 ((kq d a t t b (1+(j+1)) 0).map ah)):=by
 have:=akt (kq d a t t b (1+j) 0) t (d+1+(1+j)) (by rw [qQ];omega) (by rw [qQ];omega) (fun x hx=>ba (aa5 d a t t b (1+j) 0 ha ht ht hb x hx) aj) ae (fun i hi=>by
  rw [ic _ _ _ _ _ _ _ _ ae]
  split
  ·grind
  ·first | exact gf | (rw [if_pos hi];exact gf)) (by
  rw [ic _ _ _ _ _ _ _ _ ae,if_neg ae,if_neg ae,if_neg ae];exact du)
 rw [aox] at this
 rwa [show 1+(j+1)=1+j+1 by omega]
theorem avE (d:Nat) (a t b:Rat) (C:List Q4) (R:Nat) (h1:1<=d) (h6:d<=6) (cm:a<t) (du:t<b) (ha:rl a<=64) (ht:rl t<=64) (hb:rl b<=64) (hC:C.length=d+2) (fH:1<=R) (hR:R<=10000000) (lO:∀ q∈C,rv R q) (x:Rat) (hx:x=a\/x=t):ax an 161 [.list 3 ((kq d a t t b d 0).map ah),.dq 162 [.cr (ah x)]] (ai (if x=a then d+1 else 2*d+1)):=by
 have iD:(kq d a t t b d 0).length=2*(d+1)+d+0:=qQ d a t t b d 0
 have nE:∀ x∈(kq d a t t b d 0),rl x<=64:=aa5 d a t t b d 0 ha ht ht hb
 have xw:rl x<=64:=by rcases hx with rfl | rfl<;>assumption
 have:=aiV 162 [.cr (ah x)] (by simp [aN,LV.pure,ar.pure]) (fun y hy=>by rw [gS.1 hy];exact⟨rfl,rfl⟩) (fun y=>decide (gJ y x > 0)) (kq d a t t b d 0) o6 (fun y hy=>arU x y (by have:=nE y hy;omega))
 rwa [agn (i:=if x=a then d+1 else 2*d+1) (by rw [iD];split<;>omega) (fun j hj=>by
  have e:(kq d a t t b d 0).getD j default=(kq d a t t b d 0).getD j 0:=rfl
  rw [e,ic _ _ _ _ _ _ _ _ (by split at hj<;>omega)]
  refine decide_eq_false fun hh=>?_
  have hh:=vB.1 hh
  rcases hx with rfl | rfl
  ·rw [if_pos rfl] at hj
   rw [if_pos hj] at hh;grind
  ·rw [if_neg cj] at hj
   split at hh
   ·grind
   ·first | grind | (rw [if_pos ae] at hh;grind)) (by
  have e:∀ j,(kq d a t t b d 0).getD j default=(kq d a t t b d 0).getD j 0:=fun _=>rfl
  rw [e]
  refine decide_eq_true (vB.2 ?_)
  rcases hx with rfl | rfl
  ·rw [if_pos rfl,ic _ _ _ _ _ _ _ _ ae,if_neg ae,if_pos ae];exact cm
  ·rw [if_neg cj,ic _ _ _ _ _ _ _ _ ae,if_neg ae,if_neg ae,if_neg ae];exact du)] at this
theorem axc (d:Nat) (a t b:Rat) (C:List Q4) (R:Nat) (h1:1<=d) (h6:d<=6) (cm:a<t) (du:t<b) (ha:rl a<=64) (ht:rl t<=64) (hb:rl b<=64) (hC:C.length=d+2) (fH:1<=R) (hR:R<=10000000) (lO:∀ q∈C,rv R q) (x:Rat) (hx:x=t\/x=b):ax an 161 [.list 3 ((kq d a t t b d 0).map ah),.dq 163 [.cr (ah x)]] (ai (if x=t then d+1 else 2*d+1)):=by
 have iD:(kq d a t t b d 0).length=2*(d+1)+d+0:=qQ d a t t b d 0
 have nE:∀ x∈(kq d a t t b d 0),rl x<=64:=aa5 d a t t b d 0 ha ht ht hb
 have xw:rl x<=64:=by rcases hx with rfl | rfl<;>assumption
 have:=aiV 163 [.cr (ah x)] (by simp [aN,LV.pure,ar.pure]) (fun y hy=>by rw [gS.1 hy];exact⟨rfl,rfl⟩) (fun y=>decide (gJ y x>=0)) (kq d a t t b d 0) o6 (fun y hy=>as8 x y (by have:=nE y hy;omega))
 rwa [agn (i:=if x=t then d+1 else 2*d+1) (by rw [iD];split<;>omega) (fun j hj=>by
  have e:(kq d a t t b d 0).getD j default=(kq d a t t b d 0).getD j 0:=rfl
  rw [e,ic _ _ _ _ _ _ _ _ (by split at hj<;>omega)]
  refine decide_eq_false fun hh=>?_
  have hh:=wD.1 hh
  rcases hx with rfl | rfl
  ·rw [if_pos rfl] at hj
   rw [if_pos hj] at hh;grind
  ·rw [if_neg cj] at hj
   split at hh
   ·grind
   ·first | grind | (rw [if_pos ae] at hh;grind)) (by
  have e:∀ j,(kq d a t t b d 0).getD j default=(kq d a t t b d 0).getD j 0:=fun _=>rfl
  rw [e]
  refine decide_eq_true (wD.2 ?_)
  rcases hx with rfl | rfl
  ·rw [if_pos rfl,ic _ _ _ _ _ _ _ _ ae,if_neg ae,if_pos ae];exact gf
  ·rw [if_neg cj,ic _ _ _ _ _ _ _ _ ae,if_neg ae,if_neg ae,if_neg ae];exact gf)] at this
theorem aBn (d:Nat) (a t b:Rat) (C:List Q4) (R:Nat) (h1:1<=d) (h6:d<=6) (cm:a<t) (du:t<b) (ha:rl a<=64) (ht:rl t<=64) (hb:rl b<=64) (hC:C.length=d+2) (fH:1<=R) (hR:R<=10000000) (lO:∀ q∈C,rv R q):ax an 86 [.agg [ai d,.list 3 ((bR d a t b).map ah),.list 12 (C.map dz)],ah a,ah t] (.agg [ai d,.list 3 ((bu d a t).map ah),.list 12 ((kj d a t b C).map dz)]):=by
 have iD:(kq d a t t b d 0).length=2*(d+1)+d+0:=qQ d a t t b d 0
 have nS:=pJ d a t b
 have e0:(bR d a t b).getD 0 0=a:=by rw [eT _ _ _ _ _ ae,if_pos ae]
 have e1:(bR d a t b).getD ((bR d a t b).length-1) 0=b:=by rw [nS,eT _ _ _ _ _ ae,if_neg ae,if_neg ae]
 have sF:∀ x∈(bR d a t b),rl x<=64:=adO ha ht hb
 have th:=avE d a t b C R h1 h6 cm du ha ht hb hC fH hR lO a (.inl rfl)
 rw [if_pos rfl] at th
 have sv:=axc d a t b C R h1 h6 cm du ha ht hb hC fH hR lO t (.inl rfl)
 rw [if_pos rfl] at sv
 have main:=alu (bR d a t b) (kq d a t t b d 0) d C ((c9 (2*d+1)).map fun j=>mX (bR d a t b) d ((fun j=>if j<=d then d else d+1) j) C (((kq d a t t b d 0).drop (j+1)).take d)) a t true false 0 (d-1) (fun _=>(bR d a t b)) (fun j=>kq d a t t b (1+j) 0) (d+1) (d+1) h6 ae ae (by rw [nS];omega) (by rw [nS];omega) (fun x hx=>ba (sF x hx) aj)
  rfl rfl (by show kq d a t t b (1+(d-1)) 0=_;rw [show 1+(d-1)=d by omega]) (by show 0<(bR d a t b).length;rw [nS];omega) (by show (bR d a t b).length<=100;rw [nS];omega) (fun x hx=>ba (sF x hx) aj) o6
  (by rw [e0,decide_eq_true rfl,Bool.true_or]) (by show (decide (t=(bR d a t b).getD 0 0) || decide (t=(bR d a t b).getD ((bR d a t b).length-1) 0))=_;rw [e0,e1,decide_eq_false cj,decide_eq_false cj];rfl) (b8 _) ae (fun _=>rfl) (fun h=>by cases h) (fun h=>by cases h) (fun _ j hj=>awB d a t b C R h1 h6 cm du ha ht hb hC fH hR lO j hj) (fun j hj=>absurd hj (ah1 _)) (fun j hj=>auP d a t b C R h1 h6 cm du ha ht hb hC fH hR lO j hj)
  (axo d a t b C R h1 h6 cm du ha ht hb hC fH hR lO) th sv ae (bq _) bz (by rw [iD];simp;omega)
 have f1:((kq d a t t b d 0).take (d+1)).drop (d+1)=[]:=kg (by rw [eP];exact amO _ _)
 have f2:((((c9 (2*d+1)).map fun j=>mX (bR d a t b) d ((fun j=>if j<=d then d else d+1) j) C (((kq d a t t b d 0).drop (j+1)).take d)).take (d+1)).drop (d+1-1-d))=kj d a t b C:=by
  unfold kj
  refine vk bz fun i g1 g2=>?_
  have hi:i<d+1:=by simpa using g2
  simp only [amT,anu,anr,alO]
  rw [show d+1-1-d+i=i by omega,if_pos ae,aHo ae]
 rw [f1,f2,ng] at main
 exact main
theorem aAu (d:Nat) (a t b:Rat) (C:List Q4) (R:Nat) (h1:1<=d) (h6:d<=6) (cm:a<t) (du:t<b) (ha:rl a<=64) (ht:rl t<=64) (hb:rl b<=64) (hC:C.length=d+2) (fH:1<=R) (hR:R<=10000000) (lO:∀ q∈C,rv R q):ax an 86 [.agg [ai d,.list 3 ((bR d a t b).map ah),.list 12 (C.map dz)],ah t,ah b] (.agg [ai d,.list 3 ((bu d t b).map ah),.list 12 ((km d a t b C).map dz)]):=by
 have iD:(kq d a t t b d 0).length=2*(d+1)+d+0:=qQ d a t t b d 0
 have nS:=pJ d a t b
 have e0:(bR d a t b).getD 0 0=a:=by rw [eT _ _ _ _ _ ae,if_pos ae]
 have e1:(bR d a t b).getD ((bR d a t b).length-1) 0=b:=by rw [nS,eT _ _ _ _ _ ae,if_neg ae,if_neg ae]
 have sF:∀ x∈(bR d a t b),rl x<=64:=adO ha ht hb
 have hwr:∀ x∈(kq d a t t b d 0),rl x<=64:=aa5 d a t t b d 0 ha ht ht hb
 have yM:(kq d a t t b d 0).getD 0 0=a:=by rw [ic _ _ _ _ _ _ _ _ ae,if_pos ae]
 have hw1:(kq d a t t b d 0).getD ((kq d a t t b d 0).length-1) 0=b:=by rw [iD,ic _ _ _ _ _ _ _ _ ae,if_neg ae,if_neg ae,if_neg ae]
 have th:=avE d a t b C R h1 h6 cm du ha ht hb hC fH hR lO t (.inr rfl)
 rw [if_neg cj] at th
 have sv:=axc d a t b C R h1 h6 cm du ha ht hb hC fH hR lO b (.inr rfl)
 rw [if_neg cj] at sv
 have main:=alu (bR d a t b) (kq d a t t b d 0) d C ((c9 (2*d+1)).map fun j=>mX (bR d a t b) d ((fun j=>if j<=d then d else d+1) j) C (((kq d a t t b d 0).drop (j+1)).take d)) t b false true (d-1) 0 (fun j=>kq d a t t b (1+j) 0) (fun _=>(kq d a t t b d 0)) (2*d+1) (2*d+1) h6 ae ae (by rw [nS];omega) (by rw [nS];omega) (fun x hx=>ba (sF x hx) aj)
  rfl (by show kq d a t t b (1+(d-1)) 0=_;rw [show 1+(d-1)=d by omega]) rfl o6 o6 (fun x hx=>ba (hwr x hx) aj) o6
  (by rw [e0,e1,decide_eq_false cj,decide_eq_false cj];rfl) (by rw [yM,hw1,decide_eq_true rfl,Bool.or_true]) ae (b8 _) (fun h=>by cases h) (fun _=>rfl) (fun _ j hj=>awB d a t b C R h1 h6 cm du ha ht hb hC fH hR lO j hj) (fun h=>by cases h) (fun j hj=>auP d a t b C R h1 h6 cm du ha ht hb hC fH hR lO j hj) (fun j hj=>absurd hj (ah1 _))
  (axo d a t b C R h1 h6 cm du ha ht hb hC fH hR lO) th sv ae (bq _) aM (by rw [iD];simp;omega)
 have f1:((kq d a t t b d 0).take (2*d+1)).drop (2*d+1)=[]:=kg (by rw [eP];exact amO _ _)
 have f2:((((c9 (2*d+1)).map fun j=>mX (bR d a t b) d ((fun j=>if j<=d then d else d+1) j) C (((kq d a t t b d 0).drop (j+1)).take d)).take (2*d+1)).drop (2*d+1-1-d))=km d a t b C:=by
  unfold km
  refine vk bz fun i g1 g2=>?_
  have hi:i<d+1:=by simpa using g2
  simp only [amT,anu,anr,alO]
  rw [show 2*d+1-1-d+i=d+i by omega,show kq d a t t b d 0=kq d a t b b d 0 by simp [kq],ar2 (.inr rfl) (.inl ⟨rfl,rfl⟩) ae]
  congr 1
  by_cases c:i=0
  ·rw [if_pos c,if_pos ae]
  ·rw [if_neg c,if_neg ae]
 rw [f1,f2,ng] at main
 exact main
theorem aFg {p q:List Rat} {R:Nat} (h:p.length-1+(q.length-1)<=40) (gO:p.length<=41) (jV:q.length<=41) (fH:1<=R) (sr:∀ x∈p,rl x<=R) (tY:∀ x∈q,rl x<=R):∀ x∈lf p q,rl x<=p.length*(q.length*(2*R+5))+5:=fun x hx=>by
 obtain⟨k,hk,rfl⟩:=cQ.1 hx
 have hS:=afk gO jV fH sr tY p.length
 have oh:=iX ae hS k
 have hg2:=iX (S:=2) aj (abw (n:=p.length-1+(q.length-1)) h) k
 have h3:=tA ((allM p q p.length).getD k 0) ((ja (p.length-1+(q.length-1))).getD k 0)
 omega
theorem arQ {p q:List Rat} {R a b:Nat} (ha:p.length=a) (hb:q.length=b) (h1:a*b<=30) (h2:a<=6) (h3:b<=6) (fH:1<=R) (sr:∀ x∈p,rl x<=R) (tY:∀ x∈q,rl x<=R):∀ x∈lf p q,rl x<=60*R+155:=fun x hx=>by
 have h:=aFg ae ae ae fH sr tY x hx
 rw [ha,hb,<-Nat.mul_assoc] at h
 have:a*b*(2*R+5)<=30*(2*R+5):=Nat.mul_le_mul_right _ h1
 omega
structure nJ (po:List aG) (d R:Nat):Prop where
 c:ow po d R
 d5:d<=5
 R1:1<=R
 R2:R<=1000
section
variable {po:List aG} {d R:Nat} (h:nJ po d R)
include h
theorem nJ.n (k:Nat):(a8 po k).length=d+1/\∀ x∈a8 po k,rl x<=2*R:=⟨by rw [kY,h.c.hl],aie h.c.ok k⟩
theorem nJ.w:(aL po).length=d+1/\∀ x∈aL po,rl x<=R:=⟨by rw [mC,h.c.hl],ahW h.c.ok⟩
theorem nJ.dn (k:Nat):(cX (a8 po k)).length=d/\∀ x∈cX (a8 po k),rl x<=4*R+4:=by
 obtain⟨h1,h2⟩:=h.n k
 have:=h.c.hd
 have:=h.d5
 have:=h.R1
 exact⟨by rw [wX,h1,if_neg ae];omega,fun x hx=>ba (ahX ae ae h2 x hx) ae⟩
theorem nJ.dw:(cX (aL po)).length=d/\∀ x∈cX (aL po),rl x<=4*R+4:=by
 obtain⟨h1,h2⟩:=h.w
 have:=h.c.hd
 have:=h.d5
 exact⟨by rw [wX,h1,if_neg ae];omega,fun x hx=>ba (ahX h.R1 ae h2 x hx) ae⟩
theorem nJ.dd:d*(d+1)<=30:=ba (mM h.d5 (show d+1<=6 by have:=h.d5;omega)) aj
theorem nJ.m1 (k:Nat):(lf (cX (a8 po k)) (aL po)).length=2*d-1+1/\∀ x∈lf (cX (a8 po k)) (aL po),rl x<=240*R+395:=by
 obtain⟨h1,h2⟩:=h.dn k
 obtain⟨h3,h4⟩:=h.w
 have:=h.c.hd
 have:=h.d5
 have h9:=h.dd
 exact⟨by rw [ua,h1,h3];omega,fun x hx=>ba (arQ h1 h3 h9 ae ae ae h2 (fun x hx=>ba (h4 x hx) ae) x hx) ae⟩
theorem nJ.m2 (k:Nat):(lf (a8 po k) (cX (aL po))).length=2*d-1+1/\∀ x∈lf (a8 po k) (cX (aL po)),rl x<=240*R+395:=by
 obtain⟨h1,h2⟩:=h.n k
 obtain⟨h3,h4⟩:=h.dw
 have:=h.c.hd
 have:=h.d5
 have h9:=h.dd
 exact⟨by rw [ua,h1,h3];omega,fun x hx=>ba (arQ h1 h3 (by rw [fA];exact h9) ae ae ae (fun x hx=>ba (h2 x hx) ae) h4 x hx) ae⟩
theorem nJ.t (k:Nat):(fq po k).length=2*d-1+1/\∀ x∈fq po k,rl x<=480*R+791:=by
 obtain⟨h1,h2⟩:=h.m1 k
 obtain⟨_,h4⟩:=h.m2 k
 exact⟨by rw [fq,aaw,h1],fun x hx=>ba (ash jF ae h2 h4 x hx) ae⟩
theorem nJ.lo:0<(eF (aL po)).1:=by
 have hl:=mC po
 have h0:0<(aL po).length:=by rw [hl,h.c.hl];omega
 obtain⟨i,hi,e⟩:=((aey (aL po) (aL po).length).2 h0).1
 show 0<(ko (aL po) (aL po).length).1
 rw [e]
 obtain⟨q,hq,hw⟩:=cQ.1 (dK (p:=aL po) hi)
 rw [<-hw]
 exact(h.c.ok q hq).2.2
theorem nJ.sq:dC (2*R) (mK (eF (aL po)))/\jX (mK (eF (aL po))) 0=false:=by
 have h0:0<(aL po).length:=by rw [mC,h.c.hl];omega
 exact⟨aEY (ajt h.R1 h.w.2) h.R1,(sq_pos h.lo (aEQ h0)).2⟩
theorem nJ.bt (k:Nat):dC (480*R+791) (eF (fq po k)):=ajt ae (h.t k).2
theorem nJ.qu (k:Nat):dC (482*R+792) (vo (eF (fq po k)) (mK (eF (aL po)))):=(atd (h.bt k) h.sq.1).le ae
end
def qE (W:Rat) (po:List aG) (k:Nat):Rat × Rat:=vo (vo (eF (fq po k)) (mK (eF (aL po)))) (W,W)
def mN (W:Rat) (po:List aG):oP:=⟨qE W po 0,qE W po 1,qE W po 2⟩
theorem aDu {W:Rat} (h:W≠0):jX (W,W) 0=false:=by
 unfold jX
 rcases(show W<0\/0<W by grind) with g | g
 ·rw [decide_eq_true (by show W<=0;grind),decide_eq_false (by show ¬(0<=W);grind)];rfl
 ·rw [decide_eq_false (by show ¬(W<=0);grind)];rfl
def ad2 (W:Rat) (po:List aG) (x:Rat):V3:=jC (1/(W*(aJ (aL po) x*aJ (aL po) x))) ⟨aJ (fq po 0) x,aJ (fq po 1) x,aJ (fq po 2) x⟩
open iy in
theorem awL (d:Nat) (kn:List Rat) (po:List aG) (R:Nat) (h:nJ po d R):ax an 185 [.agg [ai d,.list 3 (kn.map ah),.list 12 (po.map aY)]] (.agg [.list 3 ((fq po 0).map ah),.list 3 ((fq po 1).map ah),.list 3 ((fq po 2).map ah)]):=by
 have hl:=h.c.hl
 have hd:=h.c.hd
 have h6:=h.c.h6
 have h5:=h.d5
 have fH:=h.R1
 have hR2:=h.R2
 have gh:LV.pure (.agg [ai d,.list 3 (kn.map ah),.list 12 (po.map aY)])=true:=by simp [LV.pure,aN,a7 ar,a7 bF]
 have w1:=h.w
 have w2:=h.dw
 have n0:=h.n 0
 have d0:=h.dn 0
 have p0a:=h.m1 0
 have p0b:=h.m2 0
 have n1:=h.n 1
 have d1:=h.dn 1
 have p1a:=h.m1 1
 have p1b:=h.m2 1
 have n2:=h.n 2
 have d2:=h.dn 2
 have p2a:=h.m1 2
 have p2b:=h.m2 2
 refine aW Tryz.func185 (ht:=(fun g=>LV.di g _ (by simp [LV.pure,aN,a7 ar]))) ?_
 refine bD ?_
 refine cp aR (ah2 d kn po R ae h.c) ?_
 refine bo ?_
 refine cp aR (aif (aL po) ae (fun x hx=>ba ((w1).2 x hx) ae)) ?_
 refine iE ?_
 refine bN ?_
 refine aC ?_
 refine cu (b:=_) rfl aj ?_
 refine bM ?_
 refine a9 15 aq ?_
 refine aA ?_
 refine cp aR (aif (a8 po 0) ae (fun x hx=>ba ((n0).2 x hx) ae)) ?_
 refine aT ?_
 refine cp au (ac6 (cX (a8 po 0)) (aL po) (4*R+4) ae ae ae ae ae (fun x hx=>ba ((d0).2 x hx) ae) (fun x hx=>ba ((w1).2 x hx) ae)) ?_
 refine aA ?_
 refine cp au (ac6 (a8 po 0) (cX (aL po)) (4*R+4) ae ae ae ae ae (fun x hx=>ba ((n0).2 x hx) ae) (fun x hx=>ba ((w2).2 x hx) ae)) ?_
 refine cp au (amC _ _ (2*d-1) ae p0a.1 p0b.1 (fun x hx=>ba ((p0a).2 x hx) ae) (fun x hx=>ba ((p0b).2 x hx) ae)) ?_
 refine bM ?_
 refine bN ?_
 refine aC ?_
 refine cu (b:=_) rfl aj ?_
 refine bM ?_
 refine a9 15 aq ?_
 refine aA ?_
 refine cp aR (aif (a8 po 1) ae (fun x hx=>ba ((n1).2 x hx) ae)) ?_
 refine aT ?_
 refine cp au (ac6 (cX (a8 po 1)) (aL po) (4*R+4) ae ae ae ae ae (fun x hx=>ba ((d1).2 x hx) ae) (fun x hx=>ba ((w1).2 x hx) ae)) ?_
 refine aA ?_
 refine cp au (ac6 (a8 po 1) (cX (aL po)) (4*R+4) ae ae ae ae ae (fun x hx=>ba ((n1).2 x hx) ae) (fun x hx=>ba ((w2).2 x hx) ae)) ?_
 refine cp au (amC _ _ (2*d-1) ae p1a.1 p1b.1 (fun x hx=>ba ((p1a).2 x hx) ae) (fun x hx=>ba ((p1b).2 x hx) ae)) ?_
 refine bM ?_
 refine bN ?_
 refine aC ?_
 refine cu (b:=_) rfl aj ?_
 refine bM ?_
 refine a9 15 aq ?_
 refine aA ?_
 refine cp aR (aif (a8 po 2) ae (fun x hx=>ba ((n2).2 x hx) ae)) ?_
 refine aT ?_
 refine cp au (ac6 (cX (a8 po 2)) (aL po) (4*R+4) ae ae ae ae ae (fun x hx=>ba ((d2).2 x hx) ae) (fun x hx=>ba ((w1).2 x hx) ae)) ?_
 refine aA ?_
 refine cp au (ac6 (a8 po 2) (cX (aL po)) (4*R+4) ae ae ae ae ae (fun x hx=>ba ((n2).2 x hx) ae) (fun x hx=>ba ((w2).2 x hx) ae)) ?_
 refine cp au (amC _ _ (2*d-1) ae p2a.1 p2b.1 (fun x hx=>ba ((p2a).2 x hx) ae) (fun x hx=>ba ((p2b).2 x hx) ae)) ?_
 refine bM ?_
 refine bN ?_
 refine aC ?_
 refine ff (b:=_) rfl aj ?_
 refine bG ?_
 exact iG [] rfl rfl rfl cs (dZ cs rfl) aqQ (.pure (by simp [LV.pure,aN,a7 ar]))
open iy in
theorem aIR (d:Nat) (a b:Rat) (po:List aG) (ha:rl a<=100) (hb:rl b<=100) (cL:a<b) (h9:d<=6) (R:Nat) (h:nJ po d R):ax an 100 [.agg [ai d,.list 3 ((bu d a b).map ah),.list 12 (po.map aY)]] (oc (mN (b-a) po)):=by
 have hl:=h.c.hl
 have hd:=h.c.hd
 have h6:=h.c.h6
 have h5:=h.d5
 have fH:=h.R1
 have hR2:=h.R2
 have oG:∀ l:List Rat,aN (l.map ah)=true:=fun l=>a7 ar l
 have iI:=lL d a b
 have cg:=aaS d a b
 have iT:=ab2 d a b
 have gh:LV.pure (.agg [ai d,.list 3 ((bu d a b).map ah),.list 12 (po.map aY)])=true:=by simp [LV.pure,aN,a7 ar,a7 bF]
 have w1:=h.w
 have hwq:=h.sq
 have hzW:=jF b a
 have hbW:dC 1000 (b-a,b-a):=⟨by show rl (b-a)<=_;omega,by show rl (b-a)<=_;omega⟩
 have hnW:jX (b-a,b-a) 0=false:=aDu cj
 have u0:=h.t 0
 have qq0:=(h.qu 0).le (show 482*R+792<=1000000 by omega)
 have bb0:=(h.bt 0).le (show 480*R+791<=1000000 by omega)
 have u1:=h.t 1
 have qq1:=(h.qu 1).le (show 482*R+792<=1000000 by omega)
 have bb1:=(h.bt 1).le (show 480*R+791<=1000000 by omega)
 have u2:=h.t 2
 have qq2:=(h.qu 2).le (show 482*R+792<=1000000 by omega)
 have bb2:=(h.bt 2).le (show 480*R+791<=1000000 by omega)
 have hD:=ahD d a b po ha hb cL h9
 have hW:ax an 164 [aE (a,b)] (ah (b-a)):=ami (a,b) (by show rl b+rl a<=_;omega)
 have z0:ax an 186 [aE (vo (eF (fq po 0)) (mK (eF (aL po)))),aE (b-a,b-a)] (.bf [aE (qE (b-a) po 0),iL 0]):=ado (vo (eF (fq po 0)) (mK (eF (aL po)))) (b-a,b-a) 1000000 aj qq0 (hbW.le aj) hnW
 have z1:ax an 186 [aE (vo (eF (fq po 1)) (mK (eF (aL po)))),aE (b-a,b-a)] (.bf [aE (qE (b-a) po 1),iL 0]):=ado (vo (eF (fq po 1)) (mK (eF (aL po)))) (b-a,b-a) 1000000 aj qq1 (hbW.le aj) hnW
 have z2:ax an 186 [aE (vo (eF (fq po 2)) (mK (eF (aL po)))),aE (b-a,b-a)] (.bf [aE (qE (b-a) po 2),iL 0]):=ado (vo (eF (fq po 2)) (mK (eF (aL po)))) (b-a,b-a) 1000000 aj qq2 (hbW.le aj) hnW
 refine aW Tryz.func100 (ht:=(fun r=>LV.di r _ (zM.pure _))) ?_
 refine dM ?_
 refine cp aR (hD) ?_
 refine cp aR (hW) ?_
 refine cp aR (tD (b-a) ae) ?_
 refine aZ ?_
 refine cp aR (ah2 d (bu d a b) po R ae h.c) ?_
 refine av ?_
 refine cp aR (aiy (aL po) ae (fun x hx=>ba ((w1).2 x hx) ae)) ?_
 refine cp aR (aJ9 (eF (aL po)) R ae (ajt ae w1.2)) ?_
 refine bo ?_
 refine cp aR (awL d (bu d a b) po R h) ?_
 refine aA ?_
 refine bN ?_
 refine aC ?_
 refine cu (b:=_) rfl aj ?_
 refine dH ?_
 refine iC 8 [6] aq ?_
 refine av ?_
 refine cp aR (aiy (fq po 0) ae (fun x hx=>ba ((u0).2 x hx) ae)) ?_
 refine av ?_
 refine cp au (ado (eF (fq po 0)) (mK (eF (aL po))) 1000000 aj bb0 (hwq.1.le ae) hwq.2) ?_
 refine bG ?_
 refine cp au (z0) ?_
 refine bo ?_
 refine cM (az.kill _ 8) ?_
 refine aA ?_
 refine bN ?_
 refine aC ?_
 refine cu (b:=_) rfl aj ?_
 refine dH ?_
 refine iC 8 [6] aq ?_
 refine av ?_
 refine cp aR (aiy (fq po 1) ae (fun x hx=>ba ((u1).2 x hx) ae)) ?_
 refine av ?_
 refine cp au (ado (eF (fq po 1)) (mK (eF (aL po))) 1000000 aj bb1 (hwq.1.le ae) hwq.2) ?_
 refine bG ?_
 refine cp au (z1) ?_
 refine bo ?_
 refine cM (az.kill _ 8) ?_
 refine aA ?_
 refine bN ?_
 refine aC ?_
 refine cu (b:=_) rfl aj ?_
 refine dH ?_
 refine iC 8 [6] aq ?_
 refine av ?_
 refine cp aR (aiy (fq po 2) ae (fun x hx=>ba ((u2).2 x hx) ae)) ?_
 refine av ?_
 refine cp au (ado (eF (fq po 2)) (mK (eF (aL po))) 1000000 aj bb2 (hwq.1.le ae) hwq.2) ?_
 refine bG ?_
 refine cp au (z2) ?_
 refine bo ?_
 refine cM (az.kill _ 8) ?_
 refine aA ?_
 refine bN ?_
 refine aC ?_
 refine ff (b:=_) rfl aj ?_
 refine bG ?_
 exact iG [] rfl rfl rfl cs (dZ cs rfl) T97 (.pure pu)
open iy in
theorem aFh (d:Nat) (a b:Rat) (po:List aG) (ha:rl a<=100) (hb:rl b<=100) (cL:a<b) (h9:d<=6) (R:Nat) (h:nJ po d R) (t x:Rat) (ht:rl t<=100) (h1:a<=t) (h2:t<=b) (hx:(t-a)/(b-a)=x) (xw:rl x<=1000):ax an 104 [.agg [ai d,.list 3 ((bu d a b).map ah),.list 12 (po.map aY)],ah t] (.bf [a5 (ad2 (b-a) po x),iL 0]):=by
 have oR:0<po.length:=by have:=h.c.hl;omega
 have hl:=h.c.hl
 have hd:=h.c.hd
 have h6:=h.c.h6
 have h5:=h.d5
 have fH:=h.R1
 have hR2:=h.R2
 have oG:∀ l:List Rat,aN (l.map ah)=true:=fun l=>a7 ar l
 have iI:=lL d a b
 have cg:=aaS d a b
 have iT:=ab2 d a b
 have gh:LV.pure (.agg [ai d,.list 3 ((bu d a b).map ah),.list 12 (po.map aY)])=true:=by simp [LV.pure,aN,a7 ar,a7 bF]
 have w1:=h.w
 have dO:HS (aL po) x:=ahQ ae (fun y hy=>ba (w1.2 y hy) ae) ae
 have q0:=dO.ev
 have hzW:=jF b a
 have m0:=df (aJ (aL po) x) (aJ (aL po) x)
 have m2:=df (b-a) ((aJ (aL po) x)*(aJ (aL po) x))
 have m1:=tA 1 ((b-a)*((aJ (aL po) x)*(aJ (aL po) x)))
 have fu:rl 1=1:=rfl
 have u0:=h.t 0
 have v0:HS (fq po 0) x:=ahQ ae (fun y hy=>ba (u0.2 y hy) ae) ae
 have y0:=v0.ev
 have u1:=h.t 1
 have v1:HS (fq po 1) x:=ahQ ae (fun y hy=>ba (u1.2 y hy) ae) ae
 have y1:=v1.ev
 have u2:=h.t 2
 have v2:HS (fq po 2) x:=ahQ ae (fun y hy=>ba (u2.2 y hy) ae) ae
 have y2:=v2.ev
 have uW:ax an 107 [iL 1] (ah 1):=xx 1 aj aj
 refine aW Tryz.func104 (ht:=(kL (bl.pure _) rfl)) ?_
 refine bG ?_
 refine cp au (anS d a b po ha hb cL h9 t x ht h1 h2 hx oR) ?_
 refine qF ?_
 refine aH rfl ?_ ?_<;>intro tP sg
 ·first | exact sg.elim | cases tP
 ·refine aQ ?_
  refine a9 6 aq ?_
  refine av ?_
  refine cp aR (ah2 d (bu d a b) po R ae h.c) ?_
  refine aT ?_
  refine cp au (ahB (aL po) x dO ae) ?_
  refine bc ?_
  refine iC 11 [9] aq ?_
  refine cp aR (uW) ?_
  refine aQ ?_
  refine cp au (iR (aJ (aL po) x) (aJ (aL po) x) ae) ?_
  refine cp au (iR (b-a) ((aJ (aL po) x)*(aJ (aL po) x)) ae) ?_
  refine cp au (wY 1 ((b-a)*((aJ (aL po) x)*(aJ (aL po) x))) ae) ?_
  refine jI ?_
  refine cp aR (awL d (bu d a b) po R h) ?_
  refine aA ?_
  refine bN ?_
  refine aC ?_
  refine cu (b:=_) rfl aj ?_
  refine bG ?_
  refine a9 7 aq ?_
  refine aA ?_
  refine cp au (ahB (fq po 0) x v0 ae) ?_
  refine cp au (iR (1/((b-a)*((aJ (aL po) x)*(aJ (aL po) x)))) (aJ (fq po 0) x) ae) ?_
  refine bM ?_
  refine bN ?_
  refine aC ?_
  refine cu (b:=_) rfl aj ?_
  refine bG ?_
  refine a9 7 aq ?_
  refine aA ?_
  refine cp au (ahB (fq po 1) x v1 ae) ?_
  refine cp au (iR (1/((b-a)*((aJ (aL po) x)*(aJ (aL po) x)))) (aJ (fq po 1) x) ae) ?_
  refine bM ?_
  refine bN ?_
  refine aC ?_
  refine cu (b:=_) rfl aj ?_
  refine bG ?_
  refine a9 7 aq ?_
  refine aA ?_
  refine cp au (ahB (fq po 2) x v2 ae) ?_
  refine cp au (iR (1/((b-a)*((aJ (aL po) x)*(aJ (aL po) x)))) (aJ (fq po 2) x) ae) ?_
  refine bM ?_
  refine bN ?_
  refine aC ?_
  refine ff (b:=_) rfl aj ?_
  refine dH ?_
  exact vW [] rfl rfl rfl cs (dZ cs rfl) ju (.pure pu) rfl (.pure rfl)
def ia (p q:V3):V3:=⟨p.y*q.z-p.z*q.y,p.z*q.x-p.x*q.z,p.x*q.y-p.y*q.x⟩
theorem aaF {R:Nat} {p q:V3} (hp:cJ R p) (hq:cJ R q):cJ (4*R+5) (ia p q):=by
 obtain⟨a1,a2,a3⟩:=hp
 obtain⟨b1,b2,b3⟩:=hq
 have g:∀ a b c d:Rat,rl a<=R->rl b<=R->rl c<=R->rl d<=R->rl (a*b-c*d)<=4*R+5:=fun a b c d h1 h2 h3 h4=>by
  have m1:=df a b
  have m2:=df c d
  have m3:=jF (a*b) (c*d)
  omega
 exact⟨g _ _ _ _ a2 b3 a3 b2,g _ _ _ _ a3 b1 a1 b3,g _ _ _ _ a1 b2 a2 b1⟩
def zr (s t:Rat × Rat):Rat × Rat:=(s.1-t.2,s.2-t.1)
theorem avx {R S:Nat} {s t:Rat × Rat} (hs:dC R s) (ht:dC S t):dC (R+S+1) (zr s t):=by
 have m1:=jF s.1 t.2
 have m2:=jF s.2 t.1
 exact⟨by show rl (s.1-t.2)<=_;have:=hs.1;have:=ht.2;omega,by show rl (s.2-t.1)<=_;have:=hs.2;have:=ht.1;omega⟩
theorem ank {A B:Rat × Rat} {a b:Rat} (h1:A.1<=a) (h2:a<=A.2) (h3:B.1<=b) (h4:b<=B.2):(zr A B).1<=a-b/\a-b<=(zr A B).2:=by
 unfold zr
 constructor<;>simp only<;>grind
open iy in
theorem aiu (p q:V3) (R:Nat) (hR:R<=1000000000) (hp:cJ R p) (hq:cJ R q):ax an 198 [a5 p,a5 q] (a5 (ia p q)):=by
 obtain⟨a1,a2,a3⟩:=hp
 obtain⟨y1,y2,y3⟩:=hq
 have m01:=df p.x q.y
 have m02:=df p.x q.z
 have m10:=df p.y q.x
 have m12:=df p.y q.z
 have m20:=df p.z q.x
 have m21:=df p.z q.y
 refine aW Tryz.func198 (ht:=(fun r=>LV.di r _ (bl.pure _))) ?_
 refine pU ?_
 refine bN ?_
 refine aC ?_
 refine cu (b:=_) rfl aj ?_
 refine dH ?_
 refine ak rfl (.bin rfl rfl (show dN .add .i64 0 1=some (.int .i64 ((1:Nat):Int)) from rfl)) ?_
 refine ak rfl (.bin rfl rfl (show dN .rem .i64 1 3=some (.int .i64 ((1:Nat):Int)) from rfl)) ?_
 refine av ?_
 refine ak rfl (.bin rfl rfl (show dN .add .i64 0 2=some (.int .i64 ((2:Nat):Int)) from rfl)) ?_
 refine ak rfl (.bin rfl rfl (show dN .rem .i64 2 3=some (.int .i64 ((2:Nat):Int)) from rfl)) ?_
 refine aA ?_
 refine a9 17 aq ?_
 refine aZ ?_
 refine cp au (iR p.y q.z ae) ?_
 refine aC ?_
 refine cp au (iR p.z q.y ae) ?_
 refine cp au (sw (p.y*q.z) (p.z*q.y) ae) ?_
 refine bM ?_
 refine bN ?_
 refine aC ?_
 refine cu (b:=_) rfl aj ?_
 refine dH ?_
 refine ak rfl (.bin rfl rfl (show dN .add .i64 1 1=some (.int .i64 ((2:Nat):Int)) from rfl)) ?_
 refine ak rfl (.bin rfl rfl (show dN .rem .i64 2 3=some (.int .i64 ((2:Nat):Int)) from rfl)) ?_
 refine av ?_
 refine ak rfl (.bin rfl rfl (show dN .add .i64 1 2=some (.int .i64 ((3:Nat):Int)) from rfl)) ?_
 refine ak rfl (.bin rfl rfl (show dN .rem .i64 3 3=some (.int .i64 ((0:Nat):Int)) from rfl)) ?_
 refine aA ?_
 refine a9 17 aq ?_
 refine aZ ?_
 refine cp au (iR p.z q.x ae) ?_
 refine aC ?_
 refine cp au (iR p.x q.z ae) ?_
 refine cp au (sw (p.z*q.x) (p.x*q.z) ae) ?_
 refine bM ?_
 refine bN ?_
 refine aC ?_
 refine cu (b:=_) rfl aj ?_
 refine dH ?_
 refine ak rfl (.bin rfl rfl (show dN .add .i64 2 1=some (.int .i64 ((3:Nat):Int)) from rfl)) ?_
 refine ak rfl (.bin rfl rfl (show dN .rem .i64 3 3=some (.int .i64 ((0:Nat):Int)) from rfl)) ?_
 refine av ?_
 refine ak rfl (.bin rfl rfl (show dN .add .i64 2 2=some (.int .i64 ((4:Nat):Int)) from rfl)) ?_
 refine ak rfl (.bin rfl rfl (show dN .rem .i64 4 3=some (.int .i64 ((1:Nat):Int)) from rfl)) ?_
 refine aA ?_
 refine a9 17 aq ?_
 refine aZ ?_
 refine cp au (iR p.x q.y ae) ?_
 refine aC ?_
 refine cp au (iR p.y q.x ae) ?_
 refine cp au (sw (p.x*q.y) (p.y*q.x) ae) ?_
 refine bM ?_
 refine bN ?_
 refine aC ?_
 refine ff (b:=_) rfl aj ?_
 refine bG ?_
 exact tV
open iy in
theorem at3 (s t:Rat × Rat) (R:Nat) (hR:R<=1000000000) (hs:dC R s) (ht:dC R t):ax an 187 [aE s,aE t] (aE (zr s t)):=by
 obtain⟨a1,a2⟩:=hs
 obtain⟨y1,y2⟩:=ht
 refine aW Tryz.func187 ?_
 refine bo ?_
 refine a9 11 aq ?_
 refine aA ?_
 refine cp au (sw s.1 t.2 ae) ?_
 refine aA ?_
 refine cp au (sw s.2 t.1 ae) ?_
 refine bc ?_
 exact uy
def kx (d:Nat) (T:Rat) (fR:List Rat) (E:Rat):List Rat:=ay (d+1) T++(fR++ay (d+1) E)
theorem aot (d:Nat) (T:Rat) (fR:List Rat) (E:Rat):(kx d T fR E).length=2*(d+1)+fR.length:=by simp [kx];omega
theorem aju (d:Nat) (T:Rat) (fR:List Rat) (E:Rat) (i:Nat) (h:i<2*(d+1)+fR.length):(kx d T fR E).getD i 0=if i<d+1 then T else if i<d+1+fR.length then fR.getD (i-(d+1)) 0 else E:=by
 unfold kx
 split
 ·rw [yA bz,vz ae]
 ·rw [zc bz,tT]
  split
  ·rw [yA ae]
  ·rw [zc ae,vz ae]
theorem asZ {l:List Rat} {t:Rat} (h:∀ x∈l,x≠t):∀ i,i<=l.length->gM l t i=0
 | 0,_=>rfl
 | i+1,hi=>by rw [gM,asZ h i ae,if_neg (h _ (dK ae))]
theorem awy (d:Nat) (T:Rat) (fR:List Rat) (E t:Rat):gM (kx d T fR E) t (kx d T fR E).length=(if T=t then d+1 else 0)+(gM fR t fR.length+(if E=t then d+1 else 0)):=by
 have h:=agN (ay (d+1) T) (fR++ay (d+1) E) t (fR.length+(d+1))
 have h2:=agN fR (ay (d+1) E) t (d+1)
 rw [tT] at h
 have e:(kx d T fR E).length=d+1+(fR.length+(d+1)):=by rw [aot];omega
 rw [e]
 show gM (ay (d+1) T++_) t _=_
 rw [h,h2,afM _ _ _ _ (bq _),afM _ _ _ _ (bq _)]
structure anx (d:Nat) (T:Rat) (fR:List Rat) (E:Rat):Prop where
 btw:∀ x∈fR,T<x/\x<E
 srt:∀ i,i+1<fR.length->fR.getD i 0<=fR.getD (i+1) 0
 tms:∀ x∈fR,gM fR x fR.length<=d
 len:fR.length<=2
 sz:∀ x∈fR,rl x<=64
theorem auw {d:Nat} {T E:Rat} {fR:List Rat} (h1:1<=d) (h6:d<=6) (hT:rl T<=64) (hE:rl E<=64) (hTE:T<E) (h:anx d T fR E):kOK (kx d T fR E) d:=by
 have hl:=aot d T fR E
 have hn:=h.len
 have aX:T≠E:=by grind
 have e0:(kx d T fR E).getD 0 0=T:=by rw [aju _ _ _ _ _ ae,if_pos ae]
 have e1:(kx d T fR E).getD ((kx d T fR E).length-1) 0=E:=by rw [hl,aju _ _ _ _ _ ae,if_neg ae,if_neg ae]
 have hm:∀ x∈kx d T fR E,x=T\/x∈fR\/x=E:=fun x hx=>by
  rcases o8.1 hx with g | g
  ·exact .inl (sZ.1 g).2
  ·rcases o8.1 g with g | g
   ·exact .inr (.inl g)
   ·exact .inr (.inr (sZ.1 g).2)
 refine⟨h1,h6,ae,ae,fun i hi=>?_,by rw [e0,e1];exact aX,fun t ht he=>?_,fun t ht g0 g1=>?_,fun x hx=>?_⟩
 ·rw [aju _ _ _ _ _ ae,aju _ _ _ _ _ ae]
  by_cases c1:i+1<d+1
  ·rw [if_pos ae,if_pos c1];exact gf
  ·rw [if_neg c1]
   by_cases c2:i<d+1
   ·rw [if_pos c2]
    split
    ·exact ib (h.btw _ (dK ae)).1
    ·exact ib hTE
   ·rw [if_neg c2]
    by_cases c3:i+1<d+1+fR.length
    ·rw [if_pos ae,if_pos c3,show i+1-(d+1)=i-(d+1)+1 by omega]
     exact h.srt _ ae
    ·rw [if_neg c3]
     split
     ·exact ib (h.btw _ (dK ae)).2
     ·exact gf
 ·rw [awy]
  rw [e0,e1] at he
  have z:∀ s,(s=T\/s=E)->gM fR s fR.length=0:=fun s hs=>asZ (fun x hx e=>by
   have:=h.btw x hx
   rcases hs with rfl | rfl
   ·rw [e] at this;exact absurd this.1 cj
   ·rw [e] at this;exact absurd this.2 cj) _ (bq _)
  rw [z t he]
  rcases he with rfl | rfl
  ·rw [if_pos rfl,if_neg (fun e=>aX e.symm)]
  ·rw [if_neg aX,if_pos rfl];omega
 ·rw [e0] at g0;rw [e1] at g1
  rw [awy,if_neg (fun e=>g0 e.symm),if_neg (fun e=>g1 e.symm)]
  rcases hm t ht with e | e | e
  ·exact absurd e g0
  ·have:=h.tms t e;omega
  ·exact absurd e g1
 ·rcases hm x hx with rfl | g | rfl
  ·exact hT
  ·exact h.sz x g
  ·exact hE
open iy in
theorem aDg (d:Nat) (kn:List Rat) (po:List aG) (R:Nat) (hR:R<=1000000) (h:ow po d R):ax an 45 [.agg [ai d,.list 3 (kn.map ah),.list 12 (po.map aY)]] (oc (pG (po.map (·.p)))):=by
 have hl:=h.hl
 have hd:=h.hd
 have h6:=h.h6
 have hpb:∀ i,i<(po.map (·.p)).length->cJ R ((po.map (·.p)).getD i default):=fun i hi=>by
  rw [dL] at hi
  rw [azj]
  exact(h.ok _ (sJ hi)).1
 have gh:LV.pure (.agg [ai d,.list 3 (kn.map ah),.list 12 (po.map aY)])=true:=by simp [LV.pure,aN,a7 ar,a7 bF]
 refine aW Tryz.func45 (ht:=(fun r=>LV.di r _ (zM.pure _))) ?_
 refine bD ?_
 refine cp aR (aIO d kn po R hR h) ?_
 refine cp aR (aGf (po.map (·.p)) kR kR R hR hpb) ?_
 refine iE ?_
 exact iG [] rfl rfl rfl cs (dZ cs rfl) T97 (.pure pu)
def lr (l:List Int) (j:Nat):Rat:=((1+eM l j 3:Int):Rat)/((1+eM l (bJ l j) 2:Int):Rat)
def eo (l:List Int) (d:Nat) (k:List Rat) (j:Nat):Nat:=if k.length=d+1 then j else bJ l j
def sM (l:List Int) (d:Nat) (k:List Rat) (t:Rat) (j:Nat):Prop:=k.length=d+1\/0<eM l j 3\/t=k.getD (k.length-d) 0
instance (l:List Int) (d:Nat) (k:List Rat) (t:Rat) (j:Nat):Decidable (sM l d k t j):=by unfold sM;infer_instance
def pv (l:List Int) (d:Nat):Nat->List Rat->Rat->Nat->List Rat × Rat × Nat
 | 0,k,t,j=>(k,t,j)
 | n+1,k,t,j=>if sM l d k t j then pv l d n (k++[t+lr l (eo l d k j)]) (t+lr l (eo l d k j)) (bJ l (bJ l (eo l d k j))) else pv l d n (k++[t]) t (eo l d k j)
theorem adk (l:List Int) (j:Nat):0<lr l j/\rl (lr l j)<=2:=by
 have h1:=pQ (l:=l) (k:=j) (n:=3) aj
 have h2:=pQ (l:=l) (k:=bJ l j) (n:=2) aj
 have r1:rl ((1+eM l j 3:Int):Rat)<=1:=ad9 ae
 have r2:rl ((1+eM l (bJ l j) 2:Int):Rat)<=1:=ad9 ae
 have r3:=tA ((1+eM l j 3:Int):Rat) ((1+eM l (bJ l j) 2:Int):Rat)
 refine⟨?_,by unfold lr;omega⟩
 unfold lr
 rw [iV]
 exact Rat.mul_pos (sK.2 ae) (Rat.inv_pos.2 (sK.2 ae))
theorem aHn (l:List Int) {d n:Nat} {T:Rat} (hd:1<=d) (hn:n<=2) (hT:rl T<=1) (j:Nat) :
  ∃ fR t j',pv l d n (ay (d+1) T) T j=(ay (d+1) T++fR,t,j')/\fR.length=n/\anx d T fR (t+1)/\rl t<=7/\T<t+1:=by
 have fu:rl 1=1:=rfl
 match n,hn with
 | 0,_ =>
  refine⟨[],T,j,by rw [ng];rfl,rfl,⟨fun x hx=>(by cases hx),fun i hi=>(by simp at hi),fun x hx=>(by cases hx),by decide,fun x hx=>(by cases hx)⟩,ae,by grind⟩
 | 1,_ =>
  have hF:=adk l (eo l d (ay (d+1) T) j)
  have hb:sM l d (ay (d+1) T) T j:=.inl aM
  refine⟨[T+lr l (eo l d (ay (d+1) T) j)],T+lr l (eo l d (ay (d+1) T) j),bJ l (bJ l (eo l d (ay (d+1) T) j)),by rw [pv,if_pos hb,pv],rfl,?_,?_,?_⟩
  ·generalize lr l _=f at hF
   have:=lN T f
   refine⟨fun x hx=>?_,fun i hi=>(by simp at hi),fun x hx=>?_,by simp,fun x hx=>?_⟩
   ·rw [gS.1 hx];constructor<;>grind
   ·show gM _ x 1<=d
    have:=aga [T+f] x 1
    omega
   ·rw [gS.1 hx];omega
  ·have:=lN T (lr l (eo l d (ay (d+1) T) j));omega
  ·grind
 | 2,_ =>
  have hb:sM l d (ay (d+1) T) T j:=.inl aM
  have hF:=adk l (eo l d (ay (d+1) T) j)
  rw [pv,if_pos hb]
  generalize bJ l (bJ l (eo l d (ay (d+1) T) j))=j1
  generalize lr l (eo l d (ay (d+1) T) j)=f at *
  have a1:=lN T f
  rw [pv]
  by_cases xI:sM l d (ay (d+1) T++[T+f]) (T+f) j1
  ·rw [if_pos xI,pv]
   have hG:=adk l (eo l d (ay (d+1) T++[T+f]) j1)
   generalize bJ l (bJ l (eo l d (ay (d+1) T++[T+f]) j1))=j2
   generalize lr l (eo l d (ay (d+1) T++[T+f]) j1)=g at *
   have a2:=lN (T+f) g
   refine⟨[T+f,T+f+g],T+f+g,j2,by rw [xS];rfl,rfl,⟨fun x hx=>?_,fun i hi=>?_,fun x hx=>?_,by simp,fun x hx=>?_⟩,ae,by grind⟩
   ·simp only [fx,jy,or_false] at hx
    rcases hx with rfl | rfl<;>constructor<;>grind
   ·obtain rfl:i=0:=by simp at hi;omega
    show T+f<=T+f+g
    grind
   ·show gM _ x 2<=d
    have aX:T+f≠T+f+g:=by grind
    have e:gM [T+f,T+f+g] x 2=0+(if T+f=x then 1 else 0)+(if T+f+g=x then 1 else 0):=rfl
    rw [e]
    by_cases c:T+f=x
    ·rw [if_pos c,if_neg (fun e=>aX (c.trans e.symm))];omega
    ·rw [if_neg c];split<;>omega
   ·simp only [fx,jy,or_false] at hx
    rcases hx with rfl | rfl<;>omega
  ·rw [if_neg xI,pv]
   have xZ:2<=d:=by
    rcases gC d 2 with c | c
    ·exfalso
     obtain rfl:d=1:=by omega
     refine xI (.inr (.inr ?_))
     rw [show (ay (1+1) T++[T+f]).length-1=2 by simp,zc aM];simp
    ·exact c
   refine⟨[T+f,T+f],T+f,eo l d (ay (d+1) T++[T+f]) j1,by rw [xS];rfl,rfl,⟨fun x hx=>?_,fun i hi=>?_,fun x hx=>?_,by simp,fun x hx=>?_⟩,ae,by grind⟩
   ·simp only [fx,jy,or_false,or_self] at hx
    subst hx;constructor<;>grind
   ·obtain rfl:i=0:=by simp at hi;omega
    exact gf
   ·show gM _ x 2<=d
    have:=aga [T+f,T+f] x 2
    omega
   ·simp only [fx,jy,or_false,or_self] at hx
    subst hx;omega
def yZ (l:List Int) (k n:Nat):Nat:=(eM l (bJ l k) ((n+1:Nat):Int)).toNat
def zI (l:List Int) (d k n:Nat):List Rat × Rat × Nat:=pv l d (yZ l k n) (ay (d+1) (nk l k)) (nk l k) (bJ l (bJ l k))
def knX (l:List Int) (d k n:Nat):List Rat:=(zI l d k n).1++ay (d+1) ((zI l d k n).2.1+1)
theorem ahJ (l:List Int) (k n:Nat):(yZ l k n:Int)=eM l (bJ l k) ((n+1:Nat):Int)/\yZ l k n<=n:=by
 have h:=pQ (l:=l) (k:=bJ l k) (n:=((n+1:Nat):Int)) ae
 unfold yZ
 omega
structure kiI (l:List Int) (d N c:Nat) (K:List Rat) (t:Rat) (j:Nat) (R:List Rat × Rat × Nat):Prop where
 hj:j<=500
 hl:K.length+c=d+1+N
 ht:rl t+3*c<=1+3*N
 hK:∀ x∈K,rl x<=7
 hR:pv l d c K t j=R
theorem awC {K:List Rat} {t:Rat} {R:Nat} (h:∀ x∈K,rl x<=R) (ht:rl t<=R):∀ x∈K++[t],rl x<=R:=fun x hx=>by
 rcases o8.1 hx with h1 | h1
 ·exact h x h1
 ·rw [gS.1 h1];exact ht
theorem afr {l:List Int} {d j:Nat} {K:List Rat} (hl:l.length<=500) (hj:j<=500):eo l d K j<=500:=by
 unfold eo;split
 ·exact hj
 ·exact od hl hj
theorem kiI.yes {l:List Int} {d N c:Nat} {K:List Rat} {t:Rat} {j:Nat} {R:List Rat × Rat × Nat} (hl:l.length<=500) (hN:N<=2) (h:kiI l d N (c+1) K t j R) (hb:sM l d K t j) :
  kiI l d N c (K++[t+lr l (eo l d K j)]) (t+lr l (eo l d K j)) (bJ l (bJ l (eo l d K j))) R:=by
 have hF:=(adk l (eo l d K j)).2
 have h1:=lN t (lr l (eo l d K j))
 have h2:=h.ht
 have h3:=h.hl
 have h4:=h.hR
 rw [pv,if_pos hb] at h4
 exact⟨od hl (od hl (afr hl h.hj)),by simp;omega,ae,awC h.hK ae,h4⟩
theorem kiI.no {l:List Int} {d N c:Nat} {K:List Rat} {t:Rat} {j:Nat} {R:List Rat × Rat × Nat} (hl:l.length<=500) (hN:N<=2) (h:kiI l d N (c+1) K t j R) (hb:¬sM l d K t j) :
  kiI l d N c (K++[t]) t (eo l d K j) R:=by
 have h2:=h.ht
 have h3:=h.hl
 have h4:=h.hR
 rw [pv,if_neg hb] at h4
 exact⟨afr hl h.hj,by simp;omega,ae,awC h.hK ae,h4⟩
namespace at0
theorem aO {p q:Prop} (k:q) (e:p=q:=by simp only [e1,e2,e3,e4,p1,p2,p3,q1,q2,q3,l1,t0,t1,r1,r2,r3,r4,Nat.zero_add,Nat.reduceMul,Nat.reduceAdd,b1,b2,b3,b4,b5,b6,i1,i2,i3,i4,i5,i6,Nat.reduceBEq,l1,ax7,auA,apW,iS,agB,ekb,ekj,eix,cN,List.length_map,List.append_nil,List.replicate_zero,Nat.add_zero,nt,nm,jK,List.length_cons,List.length_nil,List.nil_append,List.length_append,List.length_replicate,List.set_cons_zero,List.set_cons_succ,Nat.reduceEqDiff,reduceIte,if_true,if_false,eN,eY,aV bF,aV ar,cU,eu,LV.kill,bX,agm];exact rfl):p:=e.mpr k
end at0
open at0 in
theorem aIt (l:List Int) (k:Nat) (hl:l.length<=500) (d:Nat) (ki:1<=d) (hd:d<=6) (n:Nat) (hn:n<=2) (hk:k<=500):nO an 76 ⟨2,[jB l k],true⟩ [.aD 0 2 0 0,ai d,ai n] (.list 3 ((knX l d k n).map ah)) ⟨2,[jB l (zI l d k n).2.2],true⟩:=by
 have k1:=od (l:=l) hl hk
 have k2:=od (l:=l) hl k1
 have hb:=pQ (l:=l) (k:=k) (n:=4) aj
 obtain⟨nQ,nL⟩:=ahJ l k n
 obtain⟨ht1,ht2⟩:=axz l k
 have h1r:rl 1=1:=rfl
 refine xY Tryz.func76 ?_
 have ax7:True:=trivial
 have auA:True:=trivial
 have apW:True:=trivial
 have iS:True:=trivial
 have agB:True:=trivial
 have ekb:True:=trivial
 have ekj:True:=trivial
 have eix:True:=trivial
 refine bo ?_
 refine l7 0 rfl rfl rfl (dB l _) (.cons .ptr (.cons (.cF (.pure rfl)) .nil)) .ptr (rW l k 4 ae ae ae ae) rfl (dB l _) rfl ?_
 refine ak rfl wC ?_
 refine cp aR (so (eM l k 4-2) ae ae) ?_
 refine oF ?_
 refine lR (az.own (t:=8) 24 3 rfl rfl) ?_
 refine dV (fun(i:Nat) L=>(((((((St.mk L.slot (hp [(0,⟨2,[jB l (bJ l k)],true⟩),(7,⟨3,[ah (nk l k)],true⟩),(24,⟨3,(ay i (nk l k)).map ah,true⟩)])).put (some 0) (.aD 0 2 0 0)).put (some 1) (ai d)).put (some 7) (.aD 7 3 0 0)).put (some 2) (ai n)).put (some 8) (.ref 24 3 0 i)).put (some 9) (ai i))) (fun i=>i<=d+1) (fun i=>d+1-i) 0 (b8 _) ?_
 rintro i L1 hi
 refine bo ?_
 refine aH rfl ?_ ?_<;>intro uO uY
 ·have dR:i<=d:=by omega
  have iS:=avZ i (nk l k)
  have ax7:((ay i (nk l k)).map ah).take i=(ay i (nk l k)).map ah:=dg aM
  refine bo ?_
  refine bS rfl (.iJ (d:=24) (news:=[ah ((nk l k))]) rfl rfl rfl rfl aM (.inl rfl) aj dI dI mq db rfl mY (.inl ⟨23,0,_,rfl,by decide,rfl,rfl,by simp,rfl,by simp [aN,ar.pure]⟩) bz bz aj) ?_
  refine aA ?_
  refine cM (az.kill _ 23) ?_
  refine av ?_
  refine ak rfl cV ?_
  refine aQ ?_
  exact l5
 ·obtain rfl:i=d+1:=by omega
  refine bM ?_
  refine ak rfl cV ?_
  refine l7 0 rfl rfl rfl (dB l _) (.cons .ptr (.cons (.cF (.pure rfl)) .nil)) .ptr (rW l (bJ l k) ((n+1:Nat):Int) ae ae ae ae) rfl (dB l _) rfl ?_
  rw [<-nQ]
  refine aA ?_
  refine lp4 (fun(c:Nat) (K:List Rat) (t:Rat) (j:Nat) L=>((((((St.mk L.slot (hp [(0,⟨2,[jB l j],true⟩),(7,⟨3,[ah t],true⟩),(24,⟨3,K.map ah,true⟩)])).put (some 0) (.aD 0 2 0 0)).put (some 1) (ai d)).put (some 7) (.aD 7 3 0 0)).put (some 8) (.ref 24 3 0 K.length)).put (some 10) (ai c))) (fun c K t j=>kiI l d (yZ l k n) c K t j (zI l d k n)) (fun c K t j=>c) (yZ l k n) (ay (d+1) (nk l k)) (nk l k) (bJ l (bJ l k)) ⟨k2,by simp,ae,fun x hx=>by rw [(sZ.1 hx).2];omega,rfl⟩ ?_
  rintro c K t j L2 hI
  refine aZ ?_
  refine aH rfl ?_ ?_<;>intro ad8 h30
  ·obtain⟨e,rfl⟩:∃ e,c=e+1:=⟨c-1,ae⟩
   have hj5:=hI.hj
   have hjl:=od (l:=l) hl hj5
   have hKl:=hI.hl
   have hrt:=hI.ht
   have hrK:=hI.hK _ (dK (p:=K) (i:=K.length-d) ae)
   have apW:(K.map ah).take K.length=K.map ah:=dg aM
   have hb3:=pQ (l:=l) (k:=j) (n:=3) aj
   refine aC ?_
   refine iM (fun L=>∃  (L1:St),(True)/\L=(((((((St.mk L1.slot (hp [(0,⟨2,[jB l (eo l d K j)],true⟩),(7,⟨3,[ah t],true⟩),(24,⟨3,K.map ah,true⟩)])).put (some 0) (.aD 0 2 0 0)).put (some 1) (ai d)).put (some 7) (.aD 7 3 0 0)).put (some 8) (.ref 24 3 0 K.length)).put (some 10) (ai (e+1))).put (some 53) (bL (decide (sM l d K t j))))) ?_ ?_
   ·refine ab3 ?_
    refine aoj 0 6 15 rfl aq aq ?_
    simp only [mn,ajo,yd,abV]
    refine aQ ?_
    refine ak rfl cV ?_
    refine aT ?_
    refine aK ?_
    refine a6 6 _ aq rfl ?_
    refine ez 38 rfl ?_ ?_<;>intro ah5 h38
    ·have hL:K.length=d+1:=by omega
     have ekb:decide (sM l d K t j)=true:=decide_eq_true (.inl hL)
     have ekj:(eo l d K j)=j:=if_pos hL
     refine av ?_
     refine aK ?_
     refine a6 7 _ aq rfl ?_
     refine av ?_
     refine aK ?_
     refine a6 8 _ aq rfl ?_
     refine av ?_
     refine aK ?_
     refine a6 9 _ aq rfl ?_
     refine av ?_
     refine aK ?_
     refine a6 10 _ aq rfl ?_
     refine av ?_
     refine aK ?_
     refine aoj 11 19 2 rfl aq aq ?_
     simp only [mn,ajo,yd,abV]
     refine bo ?_
     refine aK ?_
     refine a6 19 _ aq rfl ?_
     try simp only [t1,cN,ab0,fF]
     refine av ?_
     refine aK ?_
     refine a6 20 _ aq rfl ?_
     refine av ?_
     refine aK ?_
     refine fW aq ?_
     refine av ?_
     exact afq
    ·have hL:¬K.length=d+1:=by omega
     have ekj:(eo l d K j)=bJ l j:=if_neg hL
     refine av ?_
     refine aK ?_
     refine a6 7 _ aq rfl ?_
     refine l7 0 (aP (v:=false) rfl rfl (ah5) rfl) rfl rfl (dB l _) (.cons .ptr (.cons (.cF (.pure rfl)) .nil)) .ptr (rW l j 3 ae ae ae ae) rfl (dB l _) rfl ?_
     refine aK ?_
     refine a6 8 _ aq rfl ?_
     refine av ?_
     refine aK ?_
     refine a6 9 _ aq rfl ?_
     refine av ?_
     refine aK ?_
     refine a6 10 _ aq rfl ?_
     refine av ?_
     refine aK ?_
     refine aoj 11 19 2 rfl aq aq ?_
     simp only [mn,ajo,yd,abV]
     refine ez 43 rfl ?_ ?_<;>intro alT h43
     ·have ekb:decide (sM l d K t j)=true:=decide_eq_true (.inr (.inl ae))
      refine bo ?_
      refine aK ?_
      refine a6 19 _ aq rfl ?_
      try simp only [t1,cN,ab0,fF]
      refine av ?_
      refine aK ?_
      refine a6 20 _ aq rfl ?_
      refine av ?_
      refine aK ?_
      refine fW aq ?_
      refine av ?_
      exact afq
     ·refine bc ?_
      refine ak (aP (v:=false) rfl rfl (alT) rfl) (.bin rfl rfl (aam (c:=K.length-d) ae ae)) ?_
      refine aT ?_
      refine aK ?_
      refine a6 19 _ aq rfl ?_
      try simp only [t1,cN,ab0,fF]
      refine cp au (amY t (K.getD (K.length-d) 0) ae) ?_
      refine aK ?_
      refine a6 20 _ aq rfl ?_
      have ekb:decide (sM l d K t j)=decide (t=K.getD (K.length-d) 0):=decide_eq_decide.2 ⟨fun h=>by rcases h with h | h | h<;>first | exact h | (exfalso;omega),fun h=>.inr (.inr h)⟩
      refine av ?_
      refine aK ?_
      refine fW aq ?_
      refine av ?_
      exact afq
   ·rintro _ ⟨aKA,-,rfl⟩
    refine av ?_
    refine aH rfl ?_ ?_<;>intro tM h53
    ·have hB:sM l d K t j:=by simpa using h53
     have hJ:=afr (l:=l) (d:=d) (j:=j) (K:=K) hl hj5
     have hJ2:=od (l:=l) hl hJ
     have hF:=adk l (eo l d K j)
     have hbA:=pQ (l:=l) (k:=(eo l d K j)) (n:=3) aj
     have hbB:=pQ (l:=l) (k:=bJ l (eo l d K j)) (n:=2) aj
     have haF:=lN t (lr l (eo l d K j))
     refine iM (fun L=>∃  (L1:St),(True)/\L=((((((St.mk L1.slot (hp [(0,⟨2,[jB l (bJ l (bJ l (eo l d K j)))],true⟩),(7,⟨3,[ah (t+lr l (eo l d K j))],true⟩),(24,⟨3,K.map ah,true⟩)])).put (some 0) (.aD 0 2 0 0)).put (some 1) (ai d)).put (some 7) (.aD 7 3 0 0)).put (some 8) (.ref 24 3 0 K.length)).put (some 10) (ai (e+1)))) ?_ ?_
     ·refine ab3 ?_
      refine ae9 1 rfl rfl aq (.move _) ?_
      refine ae9 4 rfl rfl aq (.move _) ?_
      refine kz 0 2 _ _ aq rfl rfl ?_ ?_
      ·refine av ?_
       refine aK ?_
       refine a6 2 _ aq rfl ?_
       refine l7 0 rfl rfl rfl (dB l _) (.cons .ptr (.cons (.cF (.pure rfl)) .nil)) .ptr (rW l (eo l d K j) 3 ae ae ae ae) rfl (dB l _) rfl ?_
       refine aK ?_
       refine ae9 3 rfl rfl aq (.bin rfl rfl (sW ae ae)) ?_
       refine a6 5 _ aq rfl ?_
       refine l7 0 rfl rfl rfl (dB l _) (.cons .ptr (.cons (.cF (.pure rfl)) .nil)) .ptr (rW l (bJ l (eo l d K j)) 2 ae ae ae ae) rfl (dB l _) rfl ?_
       refine aK ?_
       refine a6 6 _ aq rfl ?_
       refine ak rfl yi ?_
       refine aK ?_
       refine a6 7 _ aq rfl ?_
       refine cp au (aby (1+eM l (eo l d K j) 3) (1+eM l (bJ l (eo l d K j)) 2) ae ae ae ae ae) ?_
       refine aK ?_
       refine a6 8 _ aq rfl ?_
       refine cp au (qO t (lr l (eo l d K j)) ae) ?_
       refine aK ?_
       refine a6 9 _ aq rfl ?_
       refine av ?_
       refine aK ?_
       refine fW aq ?_
       refine av ?_
       exact tU
      ·refine l7 0 rfl rfl rfl (dB l _) (.cons .ptr (.cons (.cF (.pure rfl)) .nil)) .ptr (rW l (eo l d K j) 3 ae ae ae ae) rfl (dB l _) rfl ?_
       refine aK ?_
       refine ae9 3 rfl rfl aq (.bin rfl rfl (sW ae ae)) ?_
       refine kz 0 5 _ _ aq rfl rfl ?_ ?_
       ·refine av ?_
        refine aK ?_
        refine a6 5 _ aq rfl ?_
        refine l7 0 rfl rfl rfl (dB l _) (.cons .ptr (.cons (.cF (.pure rfl)) .nil)) .ptr (rW l (bJ l (eo l d K j)) 2 ae ae ae ae) rfl (dB l _) rfl ?_
        refine aK ?_
        refine a6 6 _ aq rfl ?_
        refine ak rfl yi ?_
        refine aK ?_
        refine a6 7 _ aq rfl ?_
        refine cp au (aby (1+eM l (eo l d K j) 3) (1+eM l (bJ l (eo l d K j)) 2) ae ae ae ae ae) ?_
        refine aK ?_
        refine a6 8 _ aq rfl ?_
        refine cp au (qO t (lr l (eo l d K j)) ae) ?_
        refine aK ?_
        refine a6 9 _ aq rfl ?_
        refine av ?_
        refine aK ?_
        refine fW aq ?_
        refine av ?_
        exact tU
       ·refine l7 0 rfl rfl rfl (dB l _) (.cons .ptr (.cons (.cF (.pure rfl)) .nil)) .ptr (rW l (bJ l (eo l d K j)) 2 ae ae ae ae) rfl (dB l _) rfl ?_
        refine aK ?_
        refine ae9 6 rfl rfl aq (.bin rfl rfl (sW ae ae)) ?_
        refine kz 0 7 _ _ aq rfl rfl ?_ ?_
        ·refine av ?_
         refine aK ?_
         refine a6 7 _ aq rfl ?_
         refine cp au (aby (1+eM l (eo l d K j) 3) (1+eM l (bJ l (eo l d K j)) 2) ae ae ae ae ae) ?_
         refine aK ?_
         refine a6 8 _ aq rfl ?_
         refine cp au (qO t (lr l (eo l d K j)) ae) ?_
         refine aK ?_
         refine a6 9 _ aq rfl ?_
         refine av ?_
         refine aK ?_
         refine fW aq ?_
         refine av ?_
         exact tU
        ·refine cp au (aby (1+eM l (eo l d K j) 3) (1+eM l (bJ l (eo l d K j)) 2) ae ae ae ae ae) ?_
         refine aK ?_
         refine a6 0 _ aq rfl ?_
         refine av ?_
         refine aK ?_
         refine a6 8 _ aq rfl ?_
         refine cp au (qO t (lr l (eo l d K j)) ae) ?_
         refine aK ?_
         refine a6 9 _ aq rfl ?_
         refine av ?_
         refine aK ?_
         refine fW aq ?_
         refine av ?_
         exact tU
     ·rintro _ ⟨aHw,-,rfl⟩
      refine bc ?_
      first | refine bS rfl (.iJ (d:=24) (news:=[ah ((t+lr l (eo l d K j)))]) rfl rfl rfl rfl aM (.inl rfl) aj dI dI mq db rfl mY (.inl ⟨65,0,_,rfl,by decide,rfl,rfl,by simp,rfl,by simp [aN,ar.pure]⟩) bz bz aj) ?_ | refine bS rfl (.iJ (d:=24) (news:=[ah (t)]) rfl rfl rfl rfl aM (.inl rfl) aj dI dI mq db rfl mY (.inl ⟨65,0,_,rfl,by decide,rfl,rfl,by simp,rfl,by simp [aN,ar.pure]⟩) bz bz aj) ?_
      refine aA ?_
      refine cM (az.kill _ 65) ?_
      refine av ?_
      refine ak rfl lK ?_
      refine aQ ?_
      exact rP e (K++[(t+lr l (eo l d K j))]) (t+lr l (eo l d K j)) (bJ l (bJ l (eo l d K j))) (hI.yes hl ae hB)
    ·have hB:¬sM l d K t j:=by simpa using h53
     refine aC ?_
     first | refine bS rfl (.iJ (d:=24) (news:=[ah ((t+lr l (eo l d K j)))]) rfl rfl rfl rfl aM (.inl rfl) aj dI dI mq db rfl mY (.inl ⟨65,0,_,rfl,by decide,rfl,rfl,by simp,rfl,by simp [aN,ar.pure]⟩) bz bz aj) ?_ | refine bS rfl (.iJ (d:=24) (news:=[ah (t)]) rfl rfl rfl rfl aM (.inl rfl) aj dI dI mq db rfl mY (.inl ⟨65,0,_,rfl,by decide,rfl,rfl,by simp,rfl,by simp [aN,ar.pure]⟩) bz bz aj) ?_
     refine aA ?_
     refine cM (az.kill _ 65) ?_
     refine av ?_
     refine ak rfl lK ?_
     refine aQ ?_
     exact rP e (K++[t]) t (eo l d K j) (hI.no hl ae hB)
  ·obtain rfl:c=0:=by omega
   have hV:=hI.hR
   rw [pv] at hV
   have hj5:=hI.hj
   have hKl:=hI.hl
   have hrt:=hI.ht
   have aLF:=lN t 1
   refine aC ?_
   refine a9 3 aq ?_
   refine av ?_
   refine cp aR (so 1 aj aj) ?_
   refine cp au (qO t 1 ae) ?_
   refine bM ?_
   refine dV (fun(i:Nat) L=>(((((St.mk L.slot (hp [(0,⟨2,[jB l j],true⟩),(7,⟨3,[ah (t+1)],true⟩),(24,⟨3,(K++ay i (t+1)).map ah,true⟩)])).put (some 1) (ai d)).put (some 7) (.aD 7 3 0 0)).put (some 8) (.ref 24 3 0 (K.length+i))).put (some 11) (ai i))) (fun i=>i<=d+1) (fun i=>d+1-i) 0 (b8 _) ?_
   rintro i L3 hi
   refine bo ?_
   refine aH rfl ?_ ?_<;>intro aLr h72
   ·have dR:i<=d:=by omega
    have agB:K++ay i (t+1)++[t+1]=K++ay (i+1) (t+1):=by rw [xS,avZ]
    have auA:((K++ay i (t+1)).map ah).take (K.length+i)=(K++ay i (t+1)).map ah:=dg aM
    refine bo ?_
    refine bS rfl (.iJ (d:=24) (news:=[ah (t+1)]) rfl rfl rfl rfl aM (.inl rfl) aj dI dI mq db rfl mY (.inl ⟨77,0,_,rfl,by decide,rfl,rfl,by simp,rfl,by simp [aN,ar.pure]⟩) bz bz aj) ?_
    refine aA ?_
    refine cM (az.kill _ 77) ?_
    refine av ?_
    refine ak rfl cV ?_
    refine aQ ?_
    exact l5
   ·obtain rfl:i=d+1:=by omega
    refine bG ?_
    have hE:K++ay (d+1) (t+1)=knX l d k n:=by unfold knX;rw [<-hV]
    have hE2:j=(zI l d k n).2.2:=by rw [<-hV]
    rw [<-hE,<-hE2]
    exact azN [24] rfl rfl (fI ar rfl rfl aM) rfl rfl (dB l _)
abbrev Sp:=Rat × Rat
abbrev fN:=List Sp × Nat × List Int
abbrev ij:=List Sp × List Sp × Nat × Nat
def kX (s:Sp):Rat:=(s.1+s.2)/2
def rT (s:Sp):Sp:=(s.1,kX s)
def sP (s:Sp):Sp:=(kX s,s.2)
def zD (t:List Int):Nat->Nat
 | 0=>0
 | k+1=>if t.getD k 0<t.getD (zD t k) 0 then k else zD t k
theorem afy {t:List Int}:∀ k,k<=t.length->0<t.length->zD t k<t.length
 | 0,_,h=>h
 | k+1,h,h0=>by
   have:=afy k ae h0
   unfold zD;split<;>omega
def gQ (x:fN):Nat:=zD x.2.2 x.2.2.length
def acJ (x:fN) (s:Sp):fN:=(x.1.set (gQ x) s,x.2.1+1,x.2.2.set (gQ x) (x.2.2.getD (gQ x) 0+1))
def qg (x:fN):fN:=acJ x (rT (x.1.getD (gQ x) default))
def qL (x:fN):fN:=acJ x (sP (x.1.getD (gQ x) default))
def aa7 (l:List Sp) (w:Rat):Bool:=l.any fun s=>decide (w<s.2-s.1)
abbrev ky:=List Sp->List Sp->Bool × Nat × Nat
abbrev RunT:=List fN × Nat × List ij
def lC (v:Bool × Nat × Nat):Nat:=if v.2.1=0 then 1 else v.2.1
def kV (v:Bool × Nat × Nat):Nat:=if v.2.1=0 then 0 else v.2.2
def nN (na:Nat) (x:fN) (v:Bool × Nat × Nat):ij:=(x.1.take na,x.1.drop na,lC v,kV v)
def pz (D:Nat) (wd:Rat) (x:fN) (v:Bool × Nat × Nat):Bool :=
 (decide (lC v=3\/lC v=4) && (decide (wd=0) || !aa7 x.1 wd)) || decide (D<=x.2.1)
def mL (D W na:Nat) (wd:Rat) (lk:ky):RunT->RunT
 | ([],n,cs)=>([],n,cs)
 | (x :: st,n,cs) =>
  if W<=n then(st,n,cs++[nN na x (false,0,0)])
  else if (lk (x.1.take na) (x.1.drop na)).1 then(st,n+1,cs)
  else if pz D wd x (lk (x.1.take na) (x.1.drop na)) then(st,n+1,cs++[nN na x (lk (x.1.take na) (x.1.drop na))])
  else(qg x :: qL x :: st,n+1,cs)
def ue (D W na:Nat) (wd:Rat) (lk:ky):Nat->RunT->RunT
 | 0,s=>s
 | k+1,s=>ue D W na wd lk k (mL D W na wd lk s)
def vh (D:Nat) (x:fN):Nat:=2*2 ^ (D-x.2.1)-1
def ie (D:Nat) (st:List fN):Nat:=(st.map (vh D)).sum
theorem afL (D:Nat) (x:fN):1<=vh D x:=by
 unfold vh
 have:=amB (n:=D-x.2.1)
 omega
theorem au1 {D:Nat} {x:fN} {s s':Sp} (h:x.2.1<D):vh D (acJ x s)+vh D (acJ x s')<vh D x:=by
 simp only [vh,acJ]
 have h1:=amB (n:=D-(x.2.1+1))
 have h2:2 ^ (D-x.2.1)=2*2 ^ (D-(x.2.1+1)):=by
  rw [show D-x.2.1=(D-(x.2.1+1))+1 by omega,jt,fA]
 omega
theorem aJg {D:Nat} {wd:Rat} {x:fN} {v:Bool × Nat × Nat} (h:pz D wd x v=false):x.2.1<D:=by
 unfold pz at h
 simp only [Bool.or_eq_false_iff,decide_eq_false_iff_not] at h
 omega
theorem ame {D W na:Nat} {wd:Rat} {lk:ky} {x:fN} {st:List fN} {n:Nat} {cs:List ij}:ie D (mL D W na wd lk (x :: st,n,cs)).1<ie D (x :: st):=by
 have hw:=afL D x
 have hmu:ie D (x :: st)=vh D x+ie D st:=by simp [ie]
 rw [mL]
 split
 ·show ie D st<_;omega
 ·split
  ·show ie D st<_;omega
  ·split
   ·show ie D st<_;omega
   ·rename_i h
    have hd:=aJg nH
    have:=au1 (x:=x) (s:=rT (x.1.getD (gQ x) default)) (s':=sP (x.1.getD (gQ x) default)) hd
    have e:ie D (qg x :: qL x :: st)=vh D (qg x)+(vh D (qL x)+ie D st):=by simp [ie]
    show ie D (qg x :: qL x :: st)<_
    rw [e,hmu]
    unfold qg qL
    omega
theorem auU {D W na:Nat} {wd:Rat} {lk:ky} {n:Nat} {cs:List ij}:∀ k,ue D W na wd lk k ([],n,cs)=([],n,cs)
 | 0=>rfl
 | k+1=>by rw [ue,mL,auU k]
def abI (D W na:Nat) (wd:Rat) (lk:ky) (s R:RunT):Prop:=∃ k,ie D s.1<=k/\ue D W na wd lk k s=R
theorem abI.step {D W na:Nat} {wd:Rat} {lk:ky} {x:fN} {st:List fN} {n:Nat} {cs:List ij} {R:RunT} (h:abI D W na wd lk (x :: st,n,cs) R) :
  abI D W na wd lk (mL D W na wd lk (x :: st,n,cs)) R:=by
 obtain⟨k,h1,h2⟩:=h
 have hmu:ie D (x :: st)=vh D x+ie D st:=by simp [ie]
 have hw:=afL D x
 match k,h1,h2 with
 | 0,h1,_=>exact absurd (show ie D (x :: st)<=0 from h1) ae
 | k+1,h1,h2 =>
  have:=ame (D:=D) (W:=W) (na:=na) (wd:=wd) (lk:=lk) (x:=x) (st:=st) (n:=n) (cs:=cs)
  exact⟨k,by have:ie D (x :: st)<=k+1:=h1;omega,h2⟩
theorem abI.nil {D W na:Nat} {wd:Rat} {lk:ky} {n:Nat} {cs:List ij} {R:RunT} (h:abI D W na wd lk ([],n,cs) R):R=([],n,cs):=by
 obtain⟨k,_,h2⟩:=h
 rw [auU] at h2;exact h2.symm
def xb (D W na:Nat) (wd:Rat) (lk:ky) (s:RunT):RunT:=ue D W na wd lk (ie D s.1) s
theorem amA (D W na:Nat) (wd:Rat) (lk:ky) (s:RunT):abI D W na wd lk s (xb D W na wd lk s):=⟨_,bq _,rfl⟩
theorem akR {D W na:Nat} {wd:Rat} {lk:ky} (I:RunT->Prop) (hI:∀ x st n cs,I (x :: st,n,cs)->I (mL D W na wd lk (x :: st,n,cs))) :
  ∀ (m:Nat) {s R:RunT},ie D s.1<=m->I s->abI D W na wd lk s R->I R/\R.1=[]
 | m,([],n,cs),R,_,hs,h=>by rw [h.nil];exact⟨hs,rfl⟩
 | 0,(x :: st,n,cs),R,hm,_,_=>by
   have hmu:ie D (x :: st)=vh D x+ie D st:=by simp [ie]
   have hw:=afL D x
   exact absurd (show ie D (x :: st)<=0 from hm) ae
 | m+1,(x :: st,n,cs),R,hm,hs,h=>by
   have:=ame (D:=D) (W:=W) (na:=na) (wd:=wd) (lk:=lk) (x:=x) (st:=st) (n:=n) (cs:=cs)
   exact akR I hI m (by have:ie D (x :: st)<=m+1:=hm;omega) (hI x st n cs hs) h.step
theorem dR (p q t:Rat):nU [p,q] t=[p+t*(q-p),q]:=by
 simp only [nU,rC,List.length_nil,vy,jP]
 simp
 grind
def fJ (s:Rat × Rat):Rat × Rat:=(-s.2,-s.1)
def wx (p q r s:Rat × Rat):Rat × Rat:=zr (pR p s) (pR q r)
def lh (s t:Rat × Rat):Bool:=decide (eQ s.1 t.1<=fb s.2 t.2)
def meB (a b:oP):Bool:=lh a.x b.x && lh a.y b.y && lh a.z b.z
def gX (a b c:V3):Rat:=1/b9 a (ia b c)
def oE (a b c:V3):V3:=⟨(jC (gX a b c) (ia b c)).x,(jC (gX a b c) (ia c a)).x,(jC (gX a b c) (ia a b)).x⟩
def oK (a b c:V3):V3:=⟨(jC (gX a b c) (ia b c)).y,(jC (gX a b c) (ia c a)).y,(jC (gX a b c) (ia a b)).y⟩
def v5 (a b c:V3):V3:=⟨(jC (gX a b c) (ia b c)).z,(jC (gX a b c) (ia c a)).z,(jC (gX a b c) (ia a b)).z⟩
def mV (u v:V3):V3:=⟨u.x,(jC (-1) v).x,0⟩
def mR (u v:V3):V3:=⟨u.y,(jC (-1) v).y,0⟩
def mF:V3:=⟨0,0,1⟩
def mz (r:V3) (l:List V3):Rat × Rat:=eF (l.map (b9 r))
def iK (r:V3) (p q:List V3):Rat × Rat:=zr (mz r p) (mz r q)
def uB (s t:Rat × Rat):Bool:=decide (cW s.1=cW s.2) && decide (cW t.1=cW t.2) && decide (cW s.1*cW t.1<0)
def aa6 (u v:V3) (pc pd:List V3):Bool:=uB (iK (oE (mV u v) (mR u v) mF) [pc.getD 0 default] pd) (iK (oE (mV u v) (mR u v) mF) [pc.getD (pc.length-1) default] pd)
def abv (u v:V3) (pc pd:List V3):Bool:=uB (iK (oK (mV u v) (mR u v) mF) pc [pd.getD 0 default]) (iK (oK (mV u v) (mR u v) mF) pc [pd.getD (pd.length-1) default])
def jQ (sc sd:oP) (u v:V3) (pc pd:List V3):Nat :=
 if jX (wx sc.x (fJ sd.x) sc.y (fJ sd.y)) 0 then 0 else if b9 (mV u v) (ia (mR u v) mF)=0 then 2 else if aa6 u v pc pd && abv u v pc pd then 3 else 2
def wE (u v:V3):Rat:=u.x*v.y-u.y*v.x
theorem agY (u v:V3):b9 (mV u v) (ia (mR u v) mF)=-wE u v:=by
 simp only [b9,ia,mV,mR,mF,jC,wE];grind
theorem azZ (u v:V3) (q:V3):b9 (oE (mV u v) (mR u v) mF) q=gX (mV u v) (mR u v) mF*(-v.y*q.x+v.x*q.y):=by
 simp only [b9,ia,mV,mR,mF,jC,oE];grind
theorem aEz (u v:V3) (q:V3):b9 (oK (mV u v) (mR u v) mF) q=gX (mV u v) (mR u v) mF*(-u.y*q.x+u.x*q.y):=by
 simp only [b9,ia,mV,mR,mF,jC,oK];grind
section
variable {u v:V3} (h:wE u v≠0)
include h
end
def lb (n:Nat) (q:Rat):Prop:=∃ z:Int,q=(z:Rat)/((2 ^ n:Nat):Int)
theorem two_pos (n:Nat):(0:Rat)<((2 ^ n:Nat):Int):=by
 have:=amB (n:=n)
 exact sK.2 ae
theorem aoS (n:Nat):(((2 ^ (n+1):Nat):Int):Rat)=((2 ^ n:Nat):Int)*2:=by
 rw [jt];push_cast;rfl
theorem lb.mul {n:Nat} {q:Rat} (h:lb n q):∃ z:Int,q*((2 ^ n:Nat):Int)=z:=by
 obtain⟨z,rfl⟩:=h
 exact⟨z,kf (by have:=two_pos n;grind)⟩
theorem lb.of {n:Nat} {q:Rat} {z:Int} (h:q*((2 ^ n:Nat):Int)=z):lb n q:=⟨z,by
 have:=two_pos n
 rw [<-h,vO cj]⟩
theorem lb.succ {n:Nat} {q:Rat} (h:lb n q):lb (n+1) q:=by
 obtain⟨z,e⟩:=h.mul
 refine lb.of (z:=z*2) ?_
 rw [aoS,<-Rat.mul_assoc,e];push_cast;rfl
theorem lb.md {n:Nat} {p q:Rat} (hp:lb n p) (hq:lb n q):lb (n+1) ((p+q)/2):=by
 obtain⟨z,e⟩:=hp.mul
 obtain⟨y,f⟩:=hq.mul
 refine lb.of (z:=z+y) ?_
 rw [aoS]
 have h2:(p+q)/2*2=p+q:=kf aj
 have:(p+q)/2*(((2 ^ n:Nat):Int)*2:Rat)=(p+q)/2*2*((2 ^ n:Nat):Int):=by grind
 rw [this,h2]
 push_cast
 push_cast at e f
 rw [<-e,<-f];grind
theorem lb.sub {n:Nat} {p q:Rat} (hp:lb n p) (hq:lb n q):lb n (p-q):=by
 obtain⟨z,e⟩:=hp.mul
 obtain⟨y,f⟩:=hq.mul
 refine lb.of (z:=z-y) ?_
 push_cast
 push_cast at e f
 rw [<-e,<-f];grind
theorem ayL (z:Int):lb 0 (z:Rat):=⟨z,by
 have:(((2 ^ 0:Nat):Int):Rat)=1:=rfl
 rw [this];grind⟩
theorem lb.le {n m:Nat} {q:Rat} (h:lb n q) (hm:n<=m):lb m q:=by
 induction m with
 | zero =>
      obtain rfl:n=0:=by omega
      exact h
 | succ m ih =>
  rcases gC n (m+1) with g | g
  ·exact(ih ae).succ
  ·obtain rfl:n=m+1:=by omega
   exact h
theorem lb.rl {n:Nat} {q:Rat} (h:lb n q) (hn:n<=24) (h1:-64<=q) (h2:q<=64):Go.Lg.rl q<=1:=by
 obtain⟨z,e⟩:=h.mul
 have hp:=two_pos n
 have hpn:2 ^ n<=2 ^ 24:=mh aj hn
 have yG:z<=64*((2 ^ n:Nat):Int):=by
  have:(z:Rat)<=((64*((2 ^ n:Nat):Int):Int):Rat):=by
   rw [<-e];rw [sO]
   exact pb h2 (ib hp)
  exact adC.1 this
 have hz2:-64*((2 ^ n:Nat):Int)<=z:=by
  have:((-64*((2 ^ n:Nat):Int):Int):Rat)<=(z:Rat):=by
   rw [<-e];rw [sO]
   exact pb h1 (ib hp)
  exact adC.1 this
 have:q=(z:Rat)/((2 ^ n:Nat):Int):=by rw [<-e,vO cj]
 rw [this]
 exact adS ae ae
def sG:Sp:=(0,1)
section
variable {a u p v:V3}
end
def ll (x:fN):LV:=.agg [.list 6 (x.1.map aE),ai x.2.1,.list 1 (x.2.2.map fZ)]
def fy (c:ij):LV:=.agg [.list 6 (c.1.map aE),.list 6 (c.2.1.map aE),ai c.2.2.1,ai c.2.2.2]
def vdL (v:Bool × Nat × Nat):LV:=.agg [.v (.bool v.1),ai v.2.1,ai v.2.2]
def prW (d w:Nat) (wd:Rat):LV:=.agg [ai d,ai w,ah wd]
theorem vV (x:fN):(ll x).pure=true:=by simp [ll,LV.pure,aN,a7 ck,a7 pP]
theorem an0 (c:ij):(fy c).pure=true:=by simp [fy,LV.pure,aN,a7 ck]
theorem aA6 (v:Bool × Nat × Nat):(vdL v).pure=true:=by simp [vdL,LV.pure,aN]
theorem aHk (d w:Nat) (wd:Rat):(prW d w wd).pure=true:=by simp [prW,LV.pure,aN,ar.pure]
theorem aGb (x:fN):(ll x).aw=3:=rfl
theorem zX (c:ij):(fy c).aw=4:=rfl
theorem aeg:iZ ll 3 true:=⟨aGb,fun _=>rfl,vV⟩
theorem aay:iZ fy 4 true:=⟨zX,fun _=>rfl,an0⟩
theorem ac8 (l:List ij):aN (l.map fy)=true:=a7 aay l
structure ae1 (P:Program) (f:Nat) (cap:List LV) (D na n:Nat) (lk:ky) (I:fN->Prop):Prop where
 len:∀ x,I x->x.1.length=n/\x.2.2.length=n
 tm:∀ x,I x->∀ t∈x.2.2,0<=t/\t<=1000
 dep:∀ x,I x->x.2.1<=D
 sp:∀ x,I x->∀ s∈x.1,dC 1000 s/\s.1<=s.2
 half:∀ x,I x->x.2.1<D->I (qg x)/\I (qL x)
 look:∀ x,I x->ax P f ([.list 6 ((x.1.take na).map aE),.list 6 ((x.1.drop na).map aE)]++cap) (vdL (lk (x.1.take na) (x.1.drop na)))
 kd:∀ x,I x->(lk (x.1.take na) (x.1.drop na)).2.1<=4/\(lk (x.1.take na) (x.1.drop na)).2.2<=4
def kZ (n:Nat) (s:Sp):Prop:=lb n s.1/\lb n s.2/\0<=s.1/\s.1<s.2/\s.2<=1
def mQ (D:Nat) (x:fN):Prop:=∃ (s t:Sp) (i j:Int),x.1=[s,t]/\x.2.2=[i,j]/\(0<=i/\i<=x.2.1/\0<=j/\j<=x.2.1)/\x.2.1<=D/\kZ x.2.1 s/\kZ x.2.1 t
theorem kZ.succ {n:Nat} {s:Sp} (h:kZ n s):kZ (n+1) s:=⟨h.1.succ,h.2.1.succ,h.2.2⟩
theorem kZ.half {n:Nat} {s:Sp} (h:kZ n s):kZ (n+1) (rT s)/\kZ (n+1) (sP s):=by
 obtain⟨h1,h2,h3,h4,h5⟩:=h
 have hm:=h1.md h2
 have e:(s.1+s.2)/2*2=s.1+s.2:=kf aj
 unfold rT sP kX
 exact⟨⟨h1.succ,hm,h3,by show s.1<(s.1+s.2)/2;grind,by show (s.1+s.2)/2<=1;grind⟩,⟨hm,h2.succ,by show 0<=(s.1+s.2)/2;grind,by show (s.1+s.2)/2<s.2;grind,h5⟩⟩
theorem kZ.rl {n:Nat} {s:Sp} (h:kZ n s) (hn:n<=24):Go.Lg.rl s.1<=1/\Go.Lg.rl s.2<=1:=by
 obtain⟨h1,h2,h3,h4,h5⟩:=h
 exact⟨h1.rl hn cj cj,h2.rl hn cj cj⟩
theorem afD (bs:List Nat) (c:Nat) (y:bg) (l:List (Nat × bg)):yP bs ((c,y) :: l)=(c,⟨y.sz,y.vals,y.mt && !bs.contains c⟩) :: yP bs l:=rfl
theorem aCT {l:List (Rat × Rat)} {k:Nat} (h:k<l.length):l.take k++[l.getD k default]=l.take (k+1):=by
 rw [zB,b7 h,bp,b7 h];rfl
theorem anX {l:List (Rat × Rat)} {k:Nat} (h:k<l.length):l.getD k default∈l:=by
 rw [bp,b7 h];exact qk h
theorem anM:dp an 147 (ll ([],0,[])):=⟨Tryz.t147,_,by kernel_rfl,rfl,rfl,fun Z μ w=>by
 show cC Z μ w _ _
 exact⟨_,_,rfl,rfl,aem 6,_,_,rfl,rfl,⟨rfl,rfl⟩,_,_,rfl,rfl,aem 1,rfl⟩⟩
instance:EC an 147 ll 3 true ([],0,[]):=⟨aeg,anM,zb⟩
theorem yF:dp an 51 (fy ([],[],0,0)):=⟨Tryz.t51,_,by kernel_rfl,rfl,rfl,fun Z μ w=>by
 show cC Z μ w _ _
 exact⟨_,_,rfl,rfl,aem 6,_,_,rfl,rfl,aem 6,_,_,rfl,rfl,⟨rfl,rfl⟩,_,_,rfl,rfl,⟨rfl,rfl⟩,rfl⟩⟩
theorem azS:ah (1/2)=.agg [.v (.bool false),bj 1,.list 1 ([2].map bw)]:=by
 rw [show (1/2:Rat)=qv false 1 2 from by decide +kernel,aeW false aj aj]
 rfl
theorem atO:(default:Int)=0:=rfl
theorem aFR (a b:Rat):(a+b)*(1/2)=(a+b)/2:=by grind
namespace avR
theorem aO {p q:Prop} (k:q) (e:p=q:=by simp only [e1,e2,e3,e4,p1,p2,p3,q1,q2,q3,l1,t0,t1,r1,r2,r3,r4,Nat.zero_add,Nat.reduceMul,Nat.reduceAdd,b1,b2,b3,b4,b5,b6,i1,i2,i3,i4,i5,i6,Nat.reduceBEq,fz0,afD,List.set_cons_zero,List.set_cons_succ,Nat.reduceEqDiff,reduceIte,if_true,if_false,eN,eY,aV bl,aV bF,aV ar,cU,eu,LV.kill,bX];exact rfl):p:=e.mpr k
end avR
open avR in
theorem aDf (a b:Rat) (h:rl a+rl b<=100000):ax an 192 [ah a,ah b] (ah ((a+b)/2)):=by
 have hz:=lN a b
 have hh:rl (1/2)=1:=by decide +kernel
 have hM:=iR (a+b) (1/2) ae
 rw [aFR] at hM
 refine aW Tryz.func192 ?_
 refine bC ?_
 refine cp au (jJ a b ae) ?_
 refine cp am0 (amK) ?_
 refine aT ?_
 try refine aO ?_
 refine aid [9] rfl rfl (.cons (.pure (ar.pure _)) (.cons (show cY _ _ (ah (1/2)) from azS ▸ .agg (.cons (.pure rfl) (.cons (.pure rfl) (.cons (fI gv rfl rfl rfl) .nil)))) .nil)) hM ?_
 refine aA ?_
 exact gy
open iy in
theorem ayu (s:Rat × Rat) (h:rl s.1+rl s.2<=100000):ax an 105 [aE s] (ah (kX s)):=by
 refine aW Tryz.func105 ?_
 refine bG ?_
 refine cp au (aDf s.1 s.2 h) ?_
 refine aA ?_
 exact gy
open iy in
theorem aGC (s:Rat × Rat) (R:Nat) (hR:R<=10000) (hb:dC R s) (hle:s.1<=s.2):ax an 166 [aE s] (.bf [aE (rT s),aE (sP s)]):=by
 obtain⟨a1,a2⟩:=hb
 have hM:=ayu s ae
 have yG:=lN s.1 s.2
 have hz2:=tA (s.1+s.2) 2
 have hh:rl 2=1:=by decide +kernel
 have em:(s.1+s.2)/2*2=s.1+s.2:=kf aj
 have hmr:rl (kX s)<=2*R+2:=by unfold kX;omega
 have lY:s.1<=kX s:=by unfold kX;grind
 have oX:kX s<=s.2:=by unfold kX;grind
 have hO1:=acg s.1 (kX s) ae
 have hO2:=acg (kX s) s.2 ae
 rw [show (fb s.1 (kX s),eQ s.1 (kX s))=rT s from by unfold fb eQ rT;rw [if_neg cj];split<;>(first | rfl | (congr 1;grind))] at hO1
 rw [show (fb (kX s) s.2,eQ (kX s) s.2)=sP s from by unfold fb eQ sP;rw [if_neg cj];split<;>(first | rfl | (congr 1;grind))] at hO2
 refine aW Tryz.func166 (ht:=(kL (ck.pure _) (ck.pure _))) ?_
 refine bM ?_
 refine cp aR (hM) ?_
 refine bc ?_
 refine a9 8 aq ?_
 refine aQ ?_
 refine cp au (hO1) ?_
 refine aQ ?_
 refine cp au (hO2) ?_
 refine bc ?_
 exact ano [] rfl rfl rfl (ck.aw _) (aaQ _) oA (.pure (ck.pure _)) rfl rfl (ck.aw _) (aaQ _) oA (.pure (ck.pure _))
namespace avQ
theorem aO {p q:Prop} (k:q) (e:p=q:=by simp only [e1,e2,e3,e4,p1,p2,p3,q1,q2,q3,l1,t0,t1,r1,r2,r3,r4,Nat.zero_add,Nat.reduceMul,Nat.reduceAdd,b1,b2,b3,b4,b5,b6,i1,i2,i3,i4,i5,i6,Nat.reduceBEq,iS,gZ,aV ck,List.length_map,nt,nm,jK,List.length_cons,List.length_nil,List.nil_append,List.map_nil,List.take_nil,List.append_nil,List.set_cons_zero,List.set_cons_succ,Nat.reduceEqDiff,reduceIte,if_true,if_false,eN,eY,aV bl,aV bF,aV ar,cU,eu,LV.kill,bX];exact rfl):p:=e.mpr k
end avQ
open avQ in
theorem asu (l:List (Rat × Rat)) (h0:0<l.length) (hl:l.length<=1000) (hb:∀ s∈l,dC 1000000 s/\s.1<=s.2):pW an 87 [.list 6 (l.map aE)] (.ref 1 6 0 l.length) [⟨6,l.map aE,true⟩]:=by
 refine fnO Tryz.func87 ?_
 have iS:True:=trivial
 have gZ:True:=trivial
 refine pU ?_
 refine lR (az.own (t:=3) 19 6 rfl rfl) ?_
 refine dV (fun(k:Nat) L=>(((((St.mk L.slot (hp [(19,⟨6,(l.take k).map aE,true⟩)])).put (some 3) (.ref 19 6 0 k)).put (some 6) (.list 6 (l.map aE))).put (some 7) (ai l.length)).put (some 8) (ai k))) (fun k=>k<=l.length) (fun k=>l.length-k) 0 (b8 _) ?_
 rintro k L1 hk
 refine aC ?_
 refine aH rfl ?_ ?_<;>intro wQ h9
 ·have nv:k<l.length:=by omega
  obtain⟨⟨kT,xr⟩,hs3⟩:=hb _ (anX nv)
  have iS:=aCT nv
  have gZ:((l.take k).map aE).take k=(l.take k).map aE:=dg zF
  have hSO:ax an 90 [ah (l.getD k default).1,ah (l.getD k default).2] (aE (l.getD k default)):=by
   have:=acg (l.getD k default).1 (l.getD k default).2 ae
   have e1x:fb (l.getD k default).1 (l.getD k default).2=(l.getD k default).1:=by unfold fb;split<;>grind
   have e2x:eQ (l.getD k default).1 (l.getD k default).2=(l.getD k default).2:=by unfold eQ;split<;>grind
   rw [e1x,e2x] at this
   exact this
  refine qF ?_
  refine cp au (hSO) ?_
  refine av ?_
  refine bS rfl (.iJ (d:=19) (news:=[aE (l.getD k default)]) rfl rfl rfl rfl bz (.inl rfl) aj rf rf abK awi cs B54 (.inl ⟨18,0,_,rfl,by decide,rfl,rfl,by simp,rfl,by simp [aN,ck.pure]⟩) bz bz aj) ?_
  refine aA ?_
  refine cM ((az.kill _ 5).trans (az.kill _ 18)) ?_
  refine ak rfl cV ?_
  refine aQ ?_
  exact jL (k+1) ae
 ·obtain rfl:k=l.length:=by omega
  have hE:l.take l.length=l:=nT
  refine bG ?_
  simp only [hE]
  exact agt rfl rfl (a7 ck _)
theorem akr (l:List (Rat × Rat)) (h0:0<l.length) (hl:l.length<=1000) (hb:∀ s∈l,dC 1000000 s/\s.1<=s.2):ax an 87 [.list 6 (l.map aE)] (.list 6 (l.map aE)):=amR (asu l h0 hl hb) (a7 ck _) aM
namespace awr
theorem aO {p q:Prop} (k:q) (e:p=q:=by simp only [e1,e2,e3,e4,p1,p2,p3,q1,q2,q3,l1,t0,t1,r1,r2,r3,r4,Nat.zero_add,Nat.reduceMul,Nat.reduceAdd,b1,b2,b3,b4,b5,b6,i1,i2,i3,i4,i5,i6,Nat.reduceBEq,ll,atO,Int.toNat_natCast,Nat.zero_add,ems,emt,aV ck,aV pP,List.length_map,List.take_nil,List.nil_append,List.set_cons_zero,List.set_cons_succ,Nat.reduceEqDiff,reduceIte,if_true,if_false,eN,eY,aV bl,aV bF,aV ar,cU,eu,LV.kill,bX];exact rfl):p:=e.mpr k
end awr
open awr in
theorem ax6 (x:fN) (n D:Nat) (hn:x.1.length=n) (ht:x.2.2.length=n) (h0:0<n) (hn9:n<=10) (hD:x.2.1<=D) (hD9:D<=1000) (htm:∀ t∈x.2.2,0<=t/\t<=1000) (s:Rat × Rat):ax an 165 [aE s,.cr (.agg [.list 6 (x.1.map aE),ai x.2.1,.list 1 (x.2.2.map fZ)]),.cr (ai (gQ x))] (ll (acJ x s)):=by
 have hbx:LV.pure (.agg [.list 6 (x.1.map aE),ai x.2.1,.list 1 (x.2.2.map fZ)])=true:=vV x
 have hpS:=a7 ck x.1
 have hpT:=a7 pP x.2.2
 have cm:gQ x<n:=by
  have:=afy (t:=x.2.2) x.2.2.length (bq _) ae
  unfold gQ;omega
 have htk:=htm _ (show x.2.2.getD (gQ x) 0∈x.2.2 by rw [bp,b7 ae];exact qk ae)
 have ems:(x.1.map aE).set (gQ x) (aE s)=(x.1.set (gQ x) s).map aE:=auy.symm
 have emt:(x.2.2.map fZ).set (gQ x) (fZ (x.2.2.getD (gQ x) 0+1))=(x.2.2.set (gQ x) (x.2.2.getD (gQ x) 0+1)).map fZ:=auy.symm
 refine aW Tryz.func165 (ht:=(fun g=>LV.di g _ (vV _))) ?_
 have ems:True:=trivial
 have emt:True:=trivial
 refine aZ ?_
 refine iM (fun L=>∃  (L1:St),(True)/\L=((((((St.mk L1.slot (hp [(3,⟨6,[aE s],true⟩),(4,⟨3,[.agg [.v (.slice none 0 0),.v (.int .i64 0),.v (.slice none 0 0)]],true⟩),(5,⟨3,[.agg [.ref 6 6 0 x.1.length,ai (x.2.1+1),.ref 13 1 0 x.2.2.length]],true⟩),(6,⟨6,x.1.map aE,true⟩),(13,⟨1,x.2.2.map fZ,true⟩)])).put (some 1) (.cr (.agg [.list 6 (x.1.map aE),ai x.2.1,.list 1 (x.2.2.map fZ)]))).put (some 2) (.cr (ai (gQ x)))).put (some 3) (.aD 3 6 0 0)).put (some 4) (.aD 4 3 0 0)).put (some 5) (.aD 5 3 0 0))) ?_ ?_
 ·refine ab3 ?_
  refine iP 1 rfl rfl aq (.pure jO) lD iQ ?_
  refine iP 2 rfl rfl aq (.pure (.tE rfl hpS rfl rfl)) lD iQ ?_
  refine iP 4 rfl rfl aq (.pure jO) lD iQ ?_
  refine iP 5 rfl rfl aq (.pure gg) lD iQ ?_
  refine iP 6 rfl rfl aq (.pure (.bin rfl rfl (agu ae))) lD iQ ?_
  refine iP 8 rfl rfl aq (.pure jO) lD iQ ?_
  refine iP 9 rfl rfl aq (.pure (.tE rfl hpT rfl rfl)) lD iQ ?_
  refine awz 0 7 12 _ _ _ aq rfl rfl rfl ?_ ?_ ?_
  ·refine av ?_
   refine aK ?_
   refine awz 3 7 12 _ _ _ aq rfl rfl rfl ?_ ?_ ?_
   ·refine bS rfl xO ?_
    refine aK ?_
    refine kz 7 12 _ _ aq rfl rfl ?_ ?_
    ·refine av ?_
     refine aK ?_
     refine kz 10 12 _ _ aq rfl rfl ?_ ?_
     ·refine bS rfl ti ?_
      refine aK ?_
      refine kz 11 12 _ _ aq rfl rfl ?_ ?_
      ·refine av ?_
       refine aK ?_
       refine a6 12 _ aq rfl ?_
       refine av ?_
       refine aK ?_
       refine a6 13 _ aq rfl ?_
       refine av ?_
       refine aK ?_
       refine fW aq ?_
       refine av ?_
       exact⟨_,trivial,((al (al (al (al (al (bK (by first | exact cl | (refine aO ?_;refine jG ?_ ?_<;>repeat (first | exact trivial | refine jN rfl ?_)))) cl) cl) cl) cl) cl)).symm⟩
      ·refine av ?_
       refine aK ?_
       refine a6 11 _ aq rfl ?_
       refine av ?_
       refine aK ?_
       refine a6 13 _ aq rfl ?_
       refine av ?_
       refine aK ?_
       refine fW aq ?_
       refine av ?_
       exact⟨_,trivial,((al (al (al (al (al (bK (by first | exact cl | (refine aO ?_;refine jG ?_ ?_<;>repeat (first | exact trivial | refine jN rfl ?_)))) cl) cl) cl) cl) cl)).symm⟩
     ·refine av ?_
      refine aK ?_
      refine a6 10 _ aq rfl ?_
      refine bS rfl ti ?_
      refine aK ?_
      refine a6 11 _ aq rfl ?_
      refine av ?_
      refine aK ?_
      refine a6 13 _ aq rfl ?_
      refine av ?_
      refine aK ?_
      refine fW aq ?_
      refine av ?_
      exact⟨_,trivial,((al (al (al (al (al (bK (by first | exact cl | (refine aO ?_;refine jG ?_ ?_<;>repeat (first | exact trivial | refine jN rfl ?_)))) cl) cl) cl) cl) cl)).symm⟩
    ·refine av ?_
     refine aK ?_
     refine a6 7 _ aq rfl ?_
     refine av ?_
     refine aK ?_
     refine a6 10 _ aq rfl ?_
     refine bS rfl ti ?_
     refine aK ?_
     refine a6 11 _ aq rfl ?_
     refine av ?_
     refine aK ?_
     refine a6 13 _ aq rfl ?_
     refine av ?_
     refine aK ?_
     refine fW aq ?_
     refine av ?_
     exact⟨_,trivial,((al (al (al (al (al (bK (by first | exact cl | (refine aO ?_;refine jG ?_ ?_<;>repeat (first | exact trivial | refine jN rfl ?_)))) cl) cl) cl) cl) cl)).symm⟩
   ·refine av ?_
    refine aK ?_
    refine kz 3 12 _ _ aq rfl rfl ?_ ?_
    ·refine bS rfl xO ?_
     refine aK ?_
     refine kz 10 12 _ _ aq rfl rfl ?_ ?_
     ·refine bS rfl ti ?_
      refine aK ?_
      refine kz 11 12 _ _ aq rfl rfl ?_ ?_
      ·refine av ?_
       refine aK ?_
       refine a6 12 _ aq rfl ?_
       refine av ?_
       refine aK ?_
       refine a6 13 _ aq rfl ?_
       refine av ?_
       refine aK ?_
       refine fW aq ?_
       refine av ?_
       exact⟨_,trivial,((al (al (al (al (al (bK (by first | exact cl | (refine aO ?_;refine jG ?_ ?_<;>repeat (first | exact trivial | refine jN rfl ?_)))) cl) cl) cl) cl) cl)).symm⟩
      ·refine av ?_
       refine aK ?_
       refine a6 11 _ aq rfl ?_
       refine av ?_
       refine aK ?_
       refine a6 13 _ aq rfl ?_
       refine av ?_
       refine aK ?_
       refine fW aq ?_
       refine av ?_
       exact⟨_,trivial,((al (al (al (al (al (bK (by first | exact cl | (refine aO ?_;refine jG ?_ ?_<;>repeat (first | exact trivial | refine jN rfl ?_)))) cl) cl) cl) cl) cl)).symm⟩
     ·refine av ?_
      refine aK ?_
      refine a6 10 _ aq rfl ?_
      refine bS rfl ti ?_
      refine aK ?_
      refine a6 11 _ aq rfl ?_
      refine av ?_
      refine aK ?_
      refine a6 13 _ aq rfl ?_
      refine av ?_
      refine aK ?_
      refine fW aq ?_
      refine av ?_
      exact⟨_,trivial,((al (al (al (al (al (bK (by first | exact cl | (refine aO ?_;refine jG ?_ ?_<;>repeat (first | exact trivial | refine jN rfl ?_)))) cl) cl) cl) cl) cl)).symm⟩
    ·refine av ?_
     refine aK ?_
     refine a6 3 _ aq rfl ?_
     refine bS rfl xO ?_
     refine aK ?_
     refine a6 10 _ aq rfl ?_
     refine bS rfl ti ?_
     refine aK ?_
     refine a6 11 _ aq rfl ?_
     refine av ?_
     refine aK ?_
     refine a6 13 _ aq rfl ?_
     refine av ?_
     refine aK ?_
     refine fW aq ?_
     refine av ?_
     exact⟨_,trivial,((al (al (al (al (al (bK (by first | exact cl | (refine aO ?_;refine jG ?_ ?_<;>repeat (first | exact trivial | refine jN rfl ?_)))) cl) cl) cl) cl) cl)).symm⟩
   ·refine av ?_
    refine aK ?_
    refine kz 3 7 _ _ aq rfl rfl ?_ ?_
    ·refine bS rfl xO ?_
     refine aK ?_
     refine a6 7 _ aq rfl ?_
     refine av ?_
     refine aK ?_
     refine a6 10 _ aq rfl ?_
     refine bS rfl ti ?_
     refine aK ?_
     refine a6 11 _ aq rfl ?_
     refine av ?_
     refine aK ?_
     refine a6 13 _ aq rfl ?_
     refine av ?_
     refine aK ?_
     refine fW aq ?_
     refine av ?_
     exact⟨_,trivial,((al (al (al (al (al (bK (by first | exact cl | (refine aO ?_;refine jG ?_ ?_<;>repeat (first | exact trivial | refine jN rfl ?_)))) cl) cl) cl) cl) cl)).symm⟩
    ·refine av ?_
     refine aK ?_
     refine a6 3 _ aq rfl ?_
     refine bS rfl xO ?_
     refine aK ?_
     refine a6 10 _ aq rfl ?_
     refine bS rfl ti ?_
     refine aK ?_
     refine a6 11 _ aq rfl ?_
     refine av ?_
     refine aK ?_
     refine a6 13 _ aq rfl ?_
     refine av ?_
     refine aK ?_
     refine fW aq ?_
     refine av ?_
     exact⟨_,trivial,((al (al (al (al (al (bK (by first | exact cl | (refine aO ?_;refine jG ?_ ?_<;>repeat (first | exact trivial | refine jN rfl ?_)))) cl) cl) cl) cl) cl)).symm⟩
  ·refine av ?_
   refine aK ?_
   refine kz 0 12 _ _ aq rfl rfl ?_ ?_
   ·refine av ?_
    refine aK ?_
    refine kz 3 12 _ _ aq rfl rfl ?_ ?_
    ·refine bS rfl xO ?_
     refine aK ?_
     refine kz 10 12 _ _ aq rfl rfl ?_ ?_
     ·refine bS rfl ti ?_
      refine aK ?_
      refine kz 11 12 _ _ aq rfl rfl ?_ ?_
      ·refine av ?_
       refine aK ?_
       refine a6 12 _ aq rfl ?_
       refine av ?_
       refine aK ?_
       refine a6 13 _ aq rfl ?_
       refine av ?_
       refine aK ?_
       refine fW aq ?_
       refine av ?_
       exact⟨_,trivial,((al (al (al (al (al (bK (by first | exact cl | (refine aO ?_;refine jG ?_ ?_<;>repeat (first | exact trivial | refine jN rfl ?_)))) cl) cl) cl) cl) cl)).symm⟩
      ·refine av ?_
       refine aK ?_
       refine a6 11 _ aq rfl ?_
       refine av ?_
       refine aK ?_
       refine a6 13 _ aq rfl ?_
       refine av ?_
       refine aK ?_
       refine fW aq ?_
       refine av ?_
       exact⟨_,trivial,((al (al (al (al (al (bK (by first | exact cl | (refine aO ?_;refine jG ?_ ?_<;>repeat (first | exact trivial | refine jN rfl ?_)))) cl) cl) cl) cl) cl)).symm⟩
     ·refine av ?_
      refine aK ?_
      refine a6 10 _ aq rfl ?_
      refine bS rfl ti ?_
      refine aK ?_
      refine a6 11 _ aq rfl ?_
      refine av ?_
      refine aK ?_
      refine a6 13 _ aq rfl ?_
      refine av ?_
      refine aK ?_
      refine fW aq ?_
      refine av ?_
      exact⟨_,trivial,((al (al (al (al (al (bK (by first | exact cl | (refine aO ?_;refine jG ?_ ?_<;>repeat (first | exact trivial | refine jN rfl ?_)))) cl) cl) cl) cl) cl)).symm⟩
    ·refine av ?_
     refine aK ?_
     refine a6 3 _ aq rfl ?_
     refine bS rfl xO ?_
     refine aK ?_
     refine a6 10 _ aq rfl ?_
     refine bS rfl ti ?_
     refine aK ?_
     refine a6 11 _ aq rfl ?_
     refine av ?_
     refine aK ?_
     refine a6 13 _ aq rfl ?_
     refine av ?_
     refine aK ?_
     refine fW aq ?_
     refine av ?_
     exact⟨_,trivial,((al (al (al (al (al (bK (by first | exact cl | (refine aO ?_;refine jG ?_ ?_<;>repeat (first | exact trivial | refine jN rfl ?_)))) cl) cl) cl) cl) cl)).symm⟩
   ·refine av ?_
    refine aK ?_
    refine a6 0 _ aq rfl ?_
    refine av ?_
    refine aK ?_
    refine a6 3 _ aq rfl ?_
    refine bS rfl xO ?_
    refine aK ?_
    refine a6 10 _ aq rfl ?_
    refine bS rfl ti ?_
    refine aK ?_
    refine a6 11 _ aq rfl ?_
    refine av ?_
    refine aK ?_
    refine a6 13 _ aq rfl ?_
    refine av ?_
    refine aK ?_
    refine fW aq ?_
    refine av ?_
    exact⟨_,trivial,((al (al (al (al (al (bK (by first | exact cl | (refine aO ?_;refine jG ?_ ?_<;>repeat (first | exact trivial | refine jN rfl ?_)))) cl) cl) cl) cl) cl)).symm⟩
  ·refine av ?_
   refine aK ?_
   refine kz 0 7 _ _ aq rfl rfl ?_ ?_
   ·refine av ?_
    refine aK ?_
    refine kz 3 7 _ _ aq rfl rfl ?_ ?_
    ·refine bS rfl xO ?_
     refine aK ?_
     refine a6 7 _ aq rfl ?_
     refine av ?_
     refine aK ?_
     refine a6 10 _ aq rfl ?_
     refine bS rfl ti ?_
     refine aK ?_
     refine a6 11 _ aq rfl ?_
     refine av ?_
     refine aK ?_
     refine a6 13 _ aq rfl ?_
     refine av ?_
     refine aK ?_
     refine fW aq ?_
     refine av ?_
     exact⟨_,trivial,((al (al (al (al (al (bK (by first | exact cl | (refine aO ?_;refine jG ?_ ?_<;>repeat (first | exact trivial | refine jN rfl ?_)))) cl) cl) cl) cl) cl)).symm⟩
    ·refine av ?_
     refine aK ?_
     refine a6 3 _ aq rfl ?_
     refine bS rfl xO ?_
     refine aK ?_
     refine a6 10 _ aq rfl ?_
     refine bS rfl ti ?_
     refine aK ?_
     refine a6 11 _ aq rfl ?_
     refine av ?_
     refine aK ?_
     refine a6 13 _ aq rfl ?_
     refine av ?_
     refine aK ?_
     refine fW aq ?_
     refine av ?_
     exact⟨_,trivial,((al (al (al (al (al (bK (by first | exact cl | (refine aO ?_;refine jG ?_ ?_<;>repeat (first | exact trivial | refine jN rfl ?_)))) cl) cl) cl) cl) cl)).symm⟩
   ·refine av ?_
    refine aK ?_
    refine a6 0 _ aq rfl ?_
    refine av ?_
    refine aK ?_
    refine a6 3 _ aq rfl ?_
    refine bS rfl xO ?_
    refine aK ?_
    refine a6 10 _ aq rfl ?_
    refine bS rfl ti ?_
    refine aK ?_
    refine a6 11 _ aq rfl ?_
    refine av ?_
    refine aK ?_
    refine a6 13 _ aq rfl ?_
    refine av ?_
    refine aK ?_
    refine fW aq ?_
    refine av ?_
    exact⟨_,trivial,((al (al (al (al (al (bK (by first | exact cl | (refine aO ?_;refine jG ?_ ?_<;>repeat (first | exact trivial | refine jN rfl ?_)))) cl) cl) cl) cl) cl)).symm⟩
 ·rintro _ ⟨LR1,-,rfl⟩
  refine qF ?_
  try refine aO ?_
  refine ak rfl yi ?_
  refine bC ?_
  exact iG [6,13] rfl rfl rfl cs (dZ cs rfl) zb (.agg (.cons (fI (l:=x.1.set (gQ x) s) ck rfl rfl aM) (.cons (.pure rfl) (.cons (fI (l:=x.2.2.set (gQ x) (x.2.2.getD (gQ x) 0+1)) pP rfl rfl aM) .nil))))
namespace ayD
theorem aO {p q:Prop} (k:q) (e:p=q:=by simp only [e1,e2,e3,e4,p1,p2,p3,q1,q2,q3,l1,t0,t1,r1,r2,r3,r4,Nat.zero_add,Nat.reduceMul,Nat.reduceAdd,b1,b2,b3,b4,b5,b6,i1,i2,i3,i4,i5,i6,Nat.reduceBEq,ht,ll,atO,Int.toNat_natCast,Nat.zero_add,els,fz0,afD,List.length_map,List.set_cons_zero,List.set_cons_succ,Nat.reduceEqDiff,reduceIte,if_true,if_false,eN,eY,aV bl,aV bF,aV ar,cU,eu,LV.kill,bX];exact rfl):p:=e.mpr k
end ayD
open ayD in
theorem amc (x:fN) (n D:Nat) (hn:x.1.length=n) (ht:x.2.2.length=n) (h0:0<n) (hn9:n<=10) (hD:x.2.1<=D) (hD9:D<=1000) (htm:∀ t∈x.2.2,0<=t/\t<=1000) (R:Nat) (hR:R<=10000) (hs:∀ s∈x.1,dC R s/\s.1<=s.2):ax an 89 [.agg [.list 6 (x.1.map aE),ai x.2.1,.list 1 (x.2.2.map fZ)]] (.bf [ll (qg x),ll (qL x)]):=by
 have hbx:LV.pure (.agg [.list 6 (x.1.map aE),ai x.2.1,.list 1 (x.2.2.map fZ)])=true:=vV x
 have hpS:=a7 ck x.1
 have hpT:=a7 pP x.2.2
 have cm:gQ x<n:=by
  have:=afy (t:=x.2.2) x.2.2.length (bq _) ae
  unfold gQ;omega
 have htk:=htm _ (show x.2.2.getD (gQ x) 0∈x.2.2 by rw [bp,b7 ae];exact qk ae)
 have hsk:=hs (x.1.getD (gQ x) default) (by rw [bp,b7 ae];exact qk ae)
 have hH:=aGC (x.1.getD (gQ x) default) R hR hsk.1 hsk.2
 have gh:aN ([.cr (.agg [.list 6 (x.1.map aE),ai x.2.1,.list 1 (x.2.2.map fZ)]),.cr (ai (gQ x))]:List LV)=true:=by simp [aN,LV.pure,a7 ck,a7 pP]
 have hcs:∀ y∈([.cr (.agg [.list 6 (x.1.map aE),ai x.2.1,.list 1 (x.2.2.map fZ)]),.cr (ai (gQ x))]:List LV),y.aw=1/\y.isAgg=false:=fun y hy=>by
  simp only [fx,jy,or_false] at hy
  rcases hy with e | e<;>rw [e]<;>exact⟨rfl,rfl⟩
 have hA:=ax6 x n D hn ht h0 hn9 hD hD9 htm (rT (x.1.getD (gQ x) default))
 have hB:=ax6 x n D hn ht h0 hn9 hD hD9 htm (sP (x.1.getD (gQ x) default))
 refine aW Tryz.func89 (ht:=(kL (vV _) (vV _))) ?_
 have els:True:=trivial
 refine abi ?_
 refine dV (fun(i:Nat) L=>((((((((St.mk L.slot (hp [(1,⟨3,[.agg [.list 6 (x.1.map aE),ai x.2.1,.list 1 (x.2.2.map fZ)]],true⟩),(2,⟨3,[.agg [.v (.slice none 0 0),.v (.int .i64 0),.v (.slice none 0 0)]],true⟩),(3,⟨3,[.agg [.v (.slice none 0 0),.v (.int .i64 0),.v (.slice none 0 0)]],true⟩),(4,⟨1,[ai (zD x.2.2 i)],true⟩)])).put (some 1) (.aD 1 3 0 0)).put (some 2) (.aD 2 3 0 0)).put (some 3) (.aD 3 3 0 0)).put (some 4) (.aD 4 1 0 0)).put (some 11) (.list 1 (x.2.2.map fZ))).put (some 12) (ai n)).put (some 13) (ai i))) (fun i=>i<=n) (fun i=>n-i) 0 (b8 _) ?_
 rintro i L1 hi
 refine aC ?_
 refine aH rfl ?_ ?_<;>intro qC lG
 ·have dR:i<n:=by omega
  have hli:=afy (t:=x.2.2) i ae ae
  refine aaJ ?_
  refine aH rfl ?_ ?_<;>intro tN xp
  ·have els:zD x.2.2 (i+1)=i:=if_pos xp
   refine aZ ?_
   refine ak rfl cV ?_
   refine aQ ?_
   exact l5
  ·have els:zD x.2.2 (i+1)=zD x.2.2 i:=if_neg xp
   refine aA ?_
   refine ak rfl cV ?_
   refine aQ ?_
   exact l5
 ·obtain rfl:n=i:=by omega
  have hE9:zD x.2.2 n=gQ x:=by unfold gQ;rw [ht]
  simp only [hE9]
  refine aZ ?_
  refine oD [1,4] rfl rfl (.mk (caps:=([.cr (.agg [.list 6 (x.1.map aE),ai x.2.1,.list 1 (x.2.2.map fZ)]),.cr (ai (gQ x))]:List LV)) (.cons (.aD rfl rfl rfl cs (dZ cs rfl) hbx rfl) (.cons (.aD (n:=1) (ag:=false) rfl rfl rfl rfl rfl rfl rfl) .nil)) hcs) rfl ?_
  refine bM ?_
  refine cp aR (hH) ?_
  refine bM ?_
  refine a9 6 aq ?_
  refine aT ?_
  refine oD [] rfl rfl (.dq (f:=165) (cap:=([.cr (.agg [.list 6 (x.1.map aE),ai x.2.1,.list 1 (x.2.2.map fZ)]),.cr (ai (gQ x))]:List LV)) (args:=[aE (rT (x.1.getD (gQ x) default))]) rfl (.cons (.pure (ck.pure _)) .nil) ⟨gh,hcs⟩ hA.1 aj (fun _ h=>by cases h)) (hA.2 _) ?_
  refine aT ?_
  refine oD [] rfl rfl (.dq (f:=165) (cap:=([.cr (.agg [.list 6 (x.1.map aE),ai x.2.1,.list 1 (x.2.2.map fZ)]),.cr (ai (gQ x))]:List LV)) (args:=[aE (sP (x.1.getD (gQ x) default))]) rfl (.cons (.pure (ck.pure _)) .nil) ⟨gh,hcs⟩ hB.1 aj (fun _ h=>by cases h)) (hB.2 _) ?_
  refine bc ?_
  exact ano [] rfl rfl rfl cs (dZ cs rfl) zb (.pure (vV _)) rfl rfl cs (dZ cs rfl) zb (.pure (vV _))
end Go.Proofs.YtckppbhafancnaaGreat
end
