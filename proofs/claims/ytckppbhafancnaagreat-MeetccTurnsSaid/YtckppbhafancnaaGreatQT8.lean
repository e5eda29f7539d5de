/- Texts J5, J6, J7, J12, J14, J15, J8, A12, J9, J16, J17 of this proof, joined. -/
import Derived.Test.YtckppbhafancnaaGreatQT7
set_option linter.unusedVariables false
set_option linter.unusedSimpArgs false
open Bool renaming and_comm->avn
open Go.Proofs.Tryz renaming prog->an,underlying25->dI,underlying26->wB,underlying43->lI
open Int renaming emod_lt_of_pos->sT,emod_nonneg->ta,toNat_of_nonneg->yK
open List renaming append_assoc->xS,append_nil->ng,forall_mem_cons->apX,getD_eq_getElem?_getD->bp,getElem?_eq_getElem->b7,getElem?_map->g8,getElem_mem->qk,length_cons->rC,length_map->dL,map_congr_left->rz,map_map->kU,mem_cons->fx,mem_cons_self->apr,mem_map->cQ,mem_singleton->gS,not_mem_nil->jy,replicate->ay,take_add_one->zB,take_of_length_le->dg
open Nat renaming add_le_add->adu,le_refl->bq,le_trans->ba,lt_irrefl->arM,lt_of_le_of_lt->uP,lt_of_lt_of_le->yU,lt_or_ge->gC,mul_comm->fA,mul_le_mul->mM,mul_le_mul_left->kv,mul_pos->mG,zero_le->b8
open Prod renaming ext->adZ
open Rat renaming div_def->iV,div_mul_cancel->kf,intCast_mul->sO,intCast_pos->sK,le_of_lt->ib,le_refl->gf,le_trans->gR,mul_comm->oW,mul_div_cancel->vO,mul_nonneg->iN,mul_one->pI,mul_zero->xi
section
set_option linter.unusedVariables false
set_option linter.unusedSimpArgs false
set_option maxHeartbeats 8000000
set_option maxRecDepth 100000
attribute [local irreducible] Go.Lg.opsL Go.Lg.cP Go.Lg.qi Go.Lg.s7
namespace Go.Proofs.YtckppbhafancnaaGreat
open Go.Lg
def xN (l:List Int) (k m:Nat):Nat:=yZ l (bJ l k) m
def xK (l:List Int) (k n m:Nat):List Rat:=knX l (cD l k n) (bJ l k) m
def xJ (l:List Int) (k n m:Nat):Nat:=(zI l (cD l k n) (bJ l k) m).2.2
def xE (l:List Int) (k n m:Nat):Nat:=dqK l (xJ l k n m) (cD l k n+1+xN l k m)
theorem arz (l:List Int) (k:Nat) {n m:Nat} (hl:l.length<=500) (hk:k<=500) (hn:0<n) (hn6:n<=6) (hm:m<=2):kOK (xK l k n m) (cD l k n)/\(xK l k n m).length=2*(cD l k n+1)+xN l k m/\xJ l k n m<=500/\∀ x∈xK l k n m,rl x<=64:=by
 obtain⟨ki,xZ,hd3⟩:=ak4 l k hn
 obtain⟨hN1,hN2⟩:=ahJ l (bJ l k) m
 obtain⟨hT,hT1⟩:=axz l (bJ l k)
 have fu:rl 1=1:=rfl
 obtain⟨fR,t,j',e,hil,s8,hrt,bH⟩:=aHn l (d:=cD l k n) (n:=yZ l (bJ l k) m) (T:=nk l (bJ l k)) ki ae hT (bJ l (bJ l (bJ l k)))
 have ht1:=lN t 1
 have eK:xK l k n m=kx (cD l k n) (nk l (bJ l k)) fR (t+1):=by
  unfold xK knX zI kx
  rw [e,xS]
 have fT:kOK (xK l k n m) (cD l k n):=by rw [eK];exact auw ki ae ae ae bH s8
 refine⟨fT,?_,?_,fT.sz⟩
 ·rw [eK,aot,hil];rfl
 ·have k1:=od (l:=l) hl hk
  have k2:=od (l:=l) hl k1
  have k3:=od (l:=l) hl k2
  have gen:∀ (c:Nat) (K:List Rat) (t:Rat) (j:Nat),j<=500->(pv l (cD l k n) c K t j).2.2<=500:=by
   intro c
   induction c with
   | zero=>intro K t j hj;exact hj
   | succ c ih =>
    intro K t j hj
    rw [pv]
    split
    ·exact ih _ _ _ (od hl (od hl (afr hl hj)))
    ·exact ih _ _ _ (afr hl hj)
  exact gen _ _ _ _ k3
def dpF (l:List Int) (k:Nat):aG:=⟨⟨(ya l k).x,(ya l k).y,0⟩,dwV l (vp l k)⟩
def dqF (l:List Int):Nat->Nat->List aG
 | _,0=>[]
 | k,c+1=>dpF l k :: dqF l (dpK l k) c
theorem aq7 (l:List Int):∀ k c,(dqF l k c).length=c
 | _,0=>rfl
 | k,c+1=>by simp [dqF,aq7 l]
def xF (l:List Int) (k n m:Nat):List aG:=dqF l (xJ l k n m) (cD l k n+1+xN l k m)
theorem aup (l:List Int) (k n m:Nat):(xF l k n m).length=cD l k n+1+xN l k m:=aq7 _ _ _
def smP (q:aG):Prop:=(∀ j,cH 12 72 (q.p.at j))/\cH 1 3 q.w/\0<q.w/\q.p.z=0
theorem avv (l:List Int) (k:Nat):cH 12 72 (oB l k).1:=by
 have h1:=pQ (l:=l) (k:=k) (n:=13) aj
 have h2:=pQ (l:=l) (k:=bJ l (bJ l k)) (n:=4) aj
 unfold oB;split
 ·show cH 12 72 (((eM l k 13-6:Int):Rat)/((1+eM l (bJ l (bJ l k)) 4:Int):Rat))
  generalize eM l k 13=u at *
  generalize eM l (bJ l (bJ l k)) 4=v at *
  have hv:v=0\/v=1\/v=2\/v=3:=by omega
  rcases hv with rfl | rfl | rfl | rfl
  ·refine⟨(u-6)*12,?_,ae⟩
   rw [sO,show ((1+0:Int):Rat)=1 by decide +kernel,show (((12:Nat):Int):Rat)=12 by decide +kernel,show ((12:Int):Rat)=12 by decide +kernel]
   generalize ((u-6:Int):Rat)=x
   grind
  ·refine⟨(u-6)*6,?_,ae⟩
   rw [sO,show ((1+1:Int):Rat)=2 by decide +kernel,show (((12:Nat):Int):Rat)=12 by decide +kernel,show ((6:Int):Rat)=6 by decide +kernel]
   generalize ((u-6:Int):Rat)=x
   grind
  ·refine⟨(u-6)*4,?_,ae⟩
   rw [sO,show ((1+2:Int):Rat)=3 by decide +kernel,show (((12:Nat):Int):Rat)=12 by decide +kernel,show ((4:Int):Rat)=4 by decide +kernel]
   generalize ((u-6:Int):Rat)=x
   grind
  ·refine⟨(u-6)*3,?_,ae⟩
   rw [sO,show ((1+3:Int):Rat)=4 by decide +kernel,show (((12:Nat):Int):Rat)=12 by decide +kernel,show ((3:Int):Rat)=3 by decide +kernel]
   generalize ((u-6:Int):Rat)=x
   grind
 ·exact((acP (N:=6) (show (eM l k 13-6).natAbs<=6 by omega)).scale (E:=12)).mono aj
theorem aJl (l:List Int) (k:Nat):cH 1 3 (dwV l k):=by
 have:=aki l k
 exact acP ae
theorem ahC (D N:Nat):cH D N 0:=⟨0,by rw [Rat.zero_mul];rfl,b8 _⟩
theorem akY (l:List Int):∀ k c,∀ q∈dqF l k c,smP q
 | _,0,q,h=>by simp [dqF] at h
 | k,c+1,q,h=>by
  simp only [dqF,fx] at h
  rcases h with rfl | h
  ·refine⟨fun j=>?_,aJl _ _,aHT _ _,rfl⟩
   match j with
   | 0=>exact avv _ _
   | 1=>exact avv _ _
   | j+2=>exact ahC _ _
  ·exact akY l _ c q h
theorem acu {po:List aG} (h:∀ q∈po,smP q):jW po 12 216:=by
 refine⟨by decide,fun k x hx=>?_,fun x hx=>?_,fun q hq=>(h q hq).2.2.1⟩
 ·obtain⟨q,hq,rfl⟩:=cQ.1 hx
  exact(h q hq).2.1.amn ((h q hq).1 k)
 ·obtain⟨q,hq,rfl⟩:=cQ.1 hx
  exact((h q hq).2.1.scale (E:=12)).mono aj
theorem aCu (l:List Int) (k:Nat):cH 2 4 (nk l k):=by
 have h:=pQ (l:=l) (k:=k) (n:=4) aj
 exact(acP (N:=2) (show (eM l k 4-2).natAbs<=2 by omega)).scale (E:=2)
theorem aGD (l:List Int) (j:Nat):cH 2 6 (lr l j):=by
 have h1:=pQ (l:=l) (k:=j) (n:=3) aj
 have h2:=pQ (l:=l) (k:=bJ l j) (n:=2) aj
 unfold lr
 generalize eM l j 3=u at *
 generalize eM l (bJ l j) 2=v at *
 have hv:v=0\/v=1:=by omega
 rcases hv with rfl | rfl
 ·refine⟨(1+u)*2,?_,ae⟩
  rw [sO,show ((1+0:Int):Rat)=1 by decide +kernel,show (((2:Nat):Int):Rat)=2 by decide +kernel,show ((2:Int):Rat)=2 by decide +kernel]
  generalize ((1+u:Int):Rat)=x
  grind
 ·refine⟨1+u,?_,ae⟩
  rw [show ((1+1:Int):Rat)=2 by decide +kernel,show (((2:Nat):Int):Rat)=2 by decide +kernel]
  generalize ((1+u:Int):Rat)=x
  grind
theorem awu:cH 2 2 1:=(acP (z:=1) (N:=1) aj).scale (E:=2)
def xA (l:List Int) (k:Nat):Rat:=nk l (bJ l k)
def xB (l:List Int) (k n:Nat):Rat:=(zI l (cD l k n) (bJ l k) 1).2.1+1
theorem awP (l:List Int) (k n:Nat) (hn:0<n) (h3:n<=3) (po:List aG) (hl:po.length=cD l k n+1+xN l k 1):nY (cD l k n) (xK l k n 1) po (xA l k) (xB l k n):=by
 obtain⟨d1,d2,_⟩:=ak4 l k hn
 have hN:=(ahJ l (bJ l k) 1).2
 have ca:=aCu l (bJ l k)
 have oa:∀ x:Rat,cH 2 10 x->cH 2 20 (x+1):=fun x h=>(h.ahI awu).mono aj
 unfold xK xB xA knX zI
 unfold xN at hl
 rcases(show yZ l (bJ l k) 1=0\/yZ l (bJ l k) 1=1 by omega) with e | e
 ·rw [e] at hl ⊢
  rw [pv]
  exact⟨d1,ae,by grind,ca.mono aj,oa _ (ca.mono aj),.inl ⟨rfl,ae⟩⟩
 ·rw [e] at hl ⊢
  have hb:sM l (cD l k n) (ay (cD l k n+1) (nk l (bJ l k))) (nk l (bJ l k)) (bJ l (bJ l (bJ l k))):=.inl aM
  rw [pv,if_pos hb,pv]
  have hF:=(adk l (eo l (cD l k n) (ay (cD l k n+1) (nk l (bJ l k))) (bJ l (bJ l (bJ l k))))).1
  have hc:=aGD l (eo l (cD l k n) (ay (cD l k n+1) (nk l (bJ l k))) (bJ l (bJ l (bJ l k))))
  generalize lr l _=f at *
  have ct:cH 2 10 (nk l (bJ l k)+f):=ca.ahI hc
  refine⟨d1,ae,by grind,ca.mono aj,oa _ ct,.inr ⟨nk l (bJ l k)+f,by grind,by grind,ct.mono aj,?_,ae⟩⟩
  unfold bR kq
  simp
open alr in
theorem ac3 (l:List Int) (k:Nat) (hl:l.length<=500) (hk:k<=500):nO an 77 ⟨2,[jB l k],true⟩ [.aD 0 2 0 0,bL true] (aY (dpF l k)) ⟨2,[jB l (dpK l k)],true⟩:=by
 have k1:=aqM (l:=l) hl hk
 have hb:=pQ (l:=l) (k:=vp l k) (n:=3) aj
 have hd:=aki l (vp l k)
 refine xY Tryz.func77 ?_
 refine bo ?_
 refine l7 0 rfl rfl rfl (dB l _) (.cons .ptr .nil) .ptr (aGa l k ae ae) rfl (dB l _) (bl.pure _) ?_
 refine bM ?_
 refine aH rfl ?_ ?_<;>intro pZ h8
 ·refine av ?_
  refine ak rfl qY ?_
  refine bc ?_
  refine ab3 ?_
  refine kz 0 1 _ _ aq rfl rfl ?_ ?_
  ·refine av ?_
   refine aK ?_
   refine a6 1 _ aq rfl ?_
   refine av ?_
   refine aK ?_
   refine a6 2 _ aq rfl ?_
   refine l7 0 rfl rfl rfl (dB l _) (.cons .ptr (.cons (.cF (.pure rfl)) .nil)) .ptr (rW l (vp l k) 3 ae ae ae ae) rfl (dB l _) rfl ?_
   refine aK ?_
   refine iP 3 rfl rfl aq (.pure (.bin rfl rfl (ajP aj))) lD iQ ?_
   refine iP 4 rfl rfl aq (.pure (.bin rfl rfl (sW ae ae))) lD iQ ?_
   refine a6 5 _ aq rfl ?_
   refine cp aR (so (1+(eM l (vp l k) 3).tmod 3) ae ae) ?_
   refine aK ?_
   refine a6 6 _ aq rfl ?_
   refine rG (abb (p:=⟨(ya l k).x,(ya l k).y,0⟩) rfl rfl) ?_
   refine aK ?_
   refine a6 7 _ aq rfl ?_
   refine av ?_
   refine aK ?_
   refine fW aq ?_
   refine aT ?_
   exact ai7
  ·refine av ?_
   refine aK ?_
   refine kz 0 2 _ _ aq rfl rfl ?_ ?_
   ·refine av ?_
    refine aK ?_
    refine a6 2 _ aq rfl ?_
    refine l7 0 rfl rfl rfl (dB l _) (.cons .ptr (.cons (.cF (.pure rfl)) .nil)) .ptr (rW l (vp l k) 3 ae ae ae ae) rfl (dB l _) rfl ?_
    refine aK ?_
    refine iP 3 rfl rfl aq (.pure (.bin rfl rfl (ajP aj))) lD iQ ?_
    refine iP 4 rfl rfl aq (.pure (.bin rfl rfl (sW ae ae))) lD iQ ?_
    refine a6 5 _ aq rfl ?_
    refine cp aR (so (1+(eM l (vp l k) 3).tmod 3) ae ae) ?_
    refine aK ?_
    refine a6 6 _ aq rfl ?_
    refine rG (abb (p:=⟨(ya l k).x,(ya l k).y,0⟩) rfl rfl) ?_
    refine aK ?_
    refine a6 7 _ aq rfl ?_
    refine av ?_
    refine aK ?_
    refine fW aq ?_
    refine aT ?_
    exact ai7
   ·refine l7 0 rfl rfl rfl (dB l _) (.cons .ptr (.cons (.cF (.pure rfl)) .nil)) .ptr (rW l (vp l k) 3 ae ae ae ae) rfl (dB l _) rfl ?_
    refine aK ?_
    refine iP 3 rfl rfl aq (.pure (.bin rfl rfl (ajP aj))) lD iQ ?_
    refine iP 4 rfl rfl aq (.pure (.bin rfl rfl (sW ae ae))) lD iQ ?_
    refine kz 0 5 _ _ aq rfl rfl ?_ ?_
    ·refine av ?_
     refine aK ?_
     refine a6 5 _ aq rfl ?_
     refine cp aR (so (1+(eM l (vp l k) 3).tmod 3) ae ae) ?_
     refine aK ?_
     refine a6 6 _ aq rfl ?_
     refine rG (abb (p:=⟨(ya l k).x,(ya l k).y,0⟩) rfl rfl) ?_
     refine aK ?_
     refine a6 7 _ aq rfl ?_
     refine av ?_
     refine aK ?_
     refine fW aq ?_
     refine aT ?_
     exact ai7
    ·refine cp aR (so (1+(eM l (vp l k) 3).tmod 3) ae ae) ?_
     refine aK ?_
     refine a6 0 _ aq rfl ?_
     refine av ?_
     refine aK ?_
     refine a6 6 _ aq rfl ?_
     refine rG (abb (p:=⟨(ya l k).x,(ya l k).y,0⟩) rfl rfl) ?_
     refine aK ?_
     refine a6 7 _ aq rfl ?_
     refine av ?_
     refine aK ?_
     refine fW aq ?_
     refine aT ?_
     exact ai7
 ·first | exact absurd pZ aj | cases pZ | exact absurd rfl h8
namespace aq1
theorem aO {p q:Prop} (k:q) (e:p=q:=by simp only [e1,e2,e3,e4,p1,p2,p3,q1,q2,q3,l1,t0,t1,r1,r2,r3,r4,Nat.zero_add,Nat.reduceMul,Nat.reduceAdd,b1,b2,b3,b4,b5,b6,i1,i2,i3,i4,i5,i6,Nat.reduceBEq,l1,adx,iI,List.length_map,nt,nm,jK,List.length_cons,List.length_nil,List.length_map,List.set_cons_zero,List.set_cons_succ,Nat.reduceEqDiff,reduceIte,if_true,if_false,eN,eY,aV bF,aV ar,cU,eu,LV.kill,bX,agm];exact rfl):p:=e.mpr k
end aq1
open aq1 in
theorem au5 (l:List Int) (k:Nat) (hl:l.length<=500) (n:Nat) (hn:0<n) (hn6:n<=6) (m:Nat) (hm:m<=2) (hk:k<=500):nO an 32 ⟨2,[jB l k],true⟩ [.aD 0 2 0 0,ai n,ai m,bL true] (.agg [ai (cD l k n),.list 3 ((xK l k n m).map ah),.list 12 ((xF l k n m).map aY)]) ⟨2,[jB l (xE l k n m)],true⟩:=by
 have k1:=od (l:=l) hl hk
 have k2:=od (l:=l) hl k1
 obtain⟨ki,xZ,hd3⟩:=ak4 l k hn
 have hb:=pQ (l:=l) (k:=k) (n:=(n:Int)) ae
 have gD:1+eM l k (n:Int)=(((cD l k n):Nat):Int):=hd3.symm
 have hA:dN .add .i64 1 (eM l k (n:Int))=some (.int .i64 (((cD l k n):Nat):Int)):=by rw [<-gD];exact sW ae ae
 obtain⟨fT,iI,k3,aKZ⟩:=arz l k (n:=n) (m:=m) hl hk hn hn6 hm
 obtain⟨hN1,hN2⟩:=ahJ l (bJ l k) m
 have hxN:xN l k m<=2:=by unfold xN;omega
 have hkp:=fc ar 3 (xK l k n m)
 refine xY Tryz.func32 ?_
 refine bD ?_
 refine l7 0 rfl rfl rfl (dB l _) (.cons .ptr (.cons (.cF (.pure rfl)) .nil)) .ptr (rW l k n ae ae ae ae) rfl (dB l _) rfl ?_
 refine ak rfl (.bin rfl rfl (hA)) ?_
 refine bC ?_
 refine l7 0 rfl rfl rfl (dB l _) (.cons .ptr (.cons (.cF (.pure rfl)) (.cons (.cF (.pure rfl)) .nil))) .ptr (aIt l (bJ l k) ae (cD l k n) ae ae m hm ae) rfl (dB l _) hkp ?_
 refine bC ?_
 refine lR ((az.cell 9 rfl (fun Z μ w cs h=>agc 39 12 _ _ Z μ w cs h)).trans (az.xh _ 39 12 rfl)) ?_
 refine uE (fun(c j:Nat) (o:List aG) L=>((((((St.mk L.slot (hp [(0,⟨2,[jB l j],true⟩),(8,⟨3,[.agg [.v (.int .i64 0),.v (.slice none 0 0),.v (.slice none 0 0)]],true⟩),(9,⟨3,[.agg [ai (cD l k n),.list 3 ((xK l k n m).map ah),.ref 39 12 0 o.length]],true⟩),(39,⟨12,o.map aY,true⟩)])).put (some 0) (.aD 0 2 0 0)).put (some 3) (bL true)).put (some 8) (.aD 8 3 0 0)).put (some 9) (.aD 9 3 0 0)).put (some 10) (ai o.length))) (fun c j o=>j<=500/\o.length+c=(cD l k n)+1+xN l k m/\o++dqF l j c=xF l k n m/\dqK l j c=xE l k n m) (fun c j o=>c) ((cD l k n)+1+xN l k m) (xJ l k n m) ([]) ⟨k3,by simp,rfl,rfl⟩ ?_
 rintro c j o L1 ⟨hj,ho,hV,hK⟩
 refine bD ?_
 refine ak rfl wC ?_
 refine ak rfl wC ?_
 refine aQ ?_
 refine aH rfl ?_ ?_<;>intro ad8 h30
 ·obtain⟨e,rfl⟩:∃ e,c=e+1:=⟨c-1,ae⟩
  refine aA ?_
  refine iM (fun L=>∃  (L1:St),(True)/\L=((((((St.mk L1.slot (hp [(0,⟨2,[jB l (dpK l j)],true⟩),(8,⟨3,[.agg [.v (.int .i64 0),.v (.slice none 0 0),.v (.slice none 0 0)]],true⟩),(9,⟨3,[.agg [ai (cD l k n),.list 3 ((xK l k n m).map ah),.ref 39 12 0 (o.length+1)]],true⟩),(38,⟨12,[dpF l j].map aY,true⟩),(39,⟨12,(o++[dpF l j]).map aY,true⟩)])).put (some 0) (.aD 0 2 0 0)).put (some 3) (bL true)).put (some 8) (.aD 8 3 0 0)).put (some 9) (.aD 9 3 0 0)).put (some 10) (ai o.length))) ?_ ?_
  ·refine ab3 ?_
   refine iP 3 rfl rfl aq (.pure (.move _)) lD iQ ?_
   refine kz 0 2 _ _ aq rfl rfl ?_ ?_
   ·refine av ?_
    refine aK ?_
    refine kz 1 2 _ _ aq rfl rfl ?_ ?_
    ·refine av ?_
     refine aK ?_
     refine a6 2 _ aq rfl ?_
     refine av ?_
     refine aK ?_
     refine a6 4 _ aq rfl ?_
     refine l7 0 rfl rfl rfl (dB l _) (.cons .ptr (.cons (.cF (.pure rfl)) .nil)) .ptr (ac3 l j ae ae) rfl (dB l _) (bF.pure _) ?_
     refine aK ?_
     refine a6 5 _ aq rfl ?_
     refine av ?_
     refine aK ?_
     refine a6 6 _ aq rfl ?_
     refine bS rfl zf ?_
     refine aK ?_
     refine a6 7 _ aq rfl ?_
     refine av ?_
     refine aK ?_
     refine a6 8 _ aq rfl ?_
     refine av ?_
     refine aK ?_
     refine fW aq ?_
     refine av ?_
     exact tU
    ·refine av ?_
     refine aK ?_
     refine kz 1 4 _ _ aq rfl rfl ?_ ?_
     ·refine av ?_
      refine aK ?_
      refine a6 4 _ aq rfl ?_
      refine l7 0 rfl rfl rfl (dB l _) (.cons .ptr (.cons (.cF (.pure rfl)) .nil)) .ptr (ac3 l j ae ae) rfl (dB l _) (bF.pure _) ?_
      refine aK ?_
      refine a6 5 _ aq rfl ?_
      refine av ?_
      refine aK ?_
      refine a6 6 _ aq rfl ?_
      refine bS rfl zf ?_
      refine aK ?_
      refine a6 7 _ aq rfl ?_
      refine av ?_
      refine aK ?_
      refine a6 8 _ aq rfl ?_
      refine av ?_
      refine aK ?_
      refine fW aq ?_
      refine av ?_
      exact tU
     ·refine l7 0 rfl rfl rfl (dB l _) (.cons .ptr (.cons (.cF (.pure rfl)) .nil)) .ptr (ac3 l j ae ae) rfl (dB l _) (bF.pure _) ?_
      refine aK ?_
      refine kz 1 5 _ _ aq rfl rfl ?_ ?_
      ·refine av ?_
       refine aK ?_
       refine a6 5 _ aq rfl ?_
       refine av ?_
       refine aK ?_
       refine a6 6 _ aq rfl ?_
       refine bS rfl zf ?_
       refine aK ?_
       refine a6 7 _ aq rfl ?_
       refine av ?_
       refine aK ?_
       refine a6 8 _ aq rfl ?_
       refine av ?_
       refine aK ?_
       refine fW aq ?_
       refine av ?_
       exact tU
      ·refine av ?_
       refine aK ?_
       refine a6 1 _ aq rfl ?_
       refine av ?_
       refine aK ?_
       refine a6 6 _ aq rfl ?_
       refine bS rfl zf ?_
       refine aK ?_
       refine a6 7 _ aq rfl ?_
       refine av ?_
       refine aK ?_
       refine a6 8 _ aq rfl ?_
       refine av ?_
       refine aK ?_
       refine fW aq ?_
       refine av ?_
       exact tU
   ·refine av ?_
    refine aK ?_
    refine kz 0 4 _ _ aq rfl rfl ?_ ?_
    ·refine av ?_
     refine aK ?_
     refine kz 1 4 _ _ aq rfl rfl ?_ ?_
     ·refine av ?_
      refine aK ?_
      refine a6 4 _ aq rfl ?_
      refine l7 0 rfl rfl rfl (dB l _) (.cons .ptr (.cons (.cF (.pure rfl)) .nil)) .ptr (ac3 l j ae ae) rfl (dB l _) (bF.pure _) ?_
      refine aK ?_
      refine a6 5 _ aq rfl ?_
      refine av ?_
      refine aK ?_
      refine a6 6 _ aq rfl ?_
      refine bS rfl zf ?_
      refine aK ?_
      refine a6 7 _ aq rfl ?_
      refine av ?_
      refine aK ?_
      refine a6 8 _ aq rfl ?_
      refine av ?_
      refine aK ?_
      refine fW aq ?_
      refine av ?_
      exact tU
     ·refine l7 0 rfl rfl rfl (dB l _) (.cons .ptr (.cons (.cF (.pure rfl)) .nil)) .ptr (ac3 l j ae ae) rfl (dB l _) (bF.pure _) ?_
      refine aK ?_
      refine kz 1 5 _ _ aq rfl rfl ?_ ?_
      ·refine av ?_
       refine aK ?_
       refine a6 5 _ aq rfl ?_
       refine av ?_
       refine aK ?_
       refine a6 6 _ aq rfl ?_
       refine bS rfl zf ?_
       refine aK ?_
       refine a6 7 _ aq rfl ?_
       refine av ?_
       refine aK ?_
       refine a6 8 _ aq rfl ?_
       refine av ?_
       refine aK ?_
       refine fW aq ?_
       refine av ?_
       exact tU
      ·refine av ?_
       refine aK ?_
       refine a6 1 _ aq rfl ?_
       refine av ?_
       refine aK ?_
       refine a6 6 _ aq rfl ?_
       refine bS rfl zf ?_
       refine aK ?_
       refine a6 7 _ aq rfl ?_
       refine av ?_
       refine aK ?_
       refine a6 8 _ aq rfl ?_
       refine av ?_
       refine aK ?_
       refine fW aq ?_
       refine av ?_
       exact tU
    ·refine l7 0 rfl rfl rfl (dB l _) (.cons .ptr (.cons (.cF (.pure rfl)) .nil)) .ptr (ac3 l j ae ae) rfl (dB l _) (bF.pure _) ?_
     refine aK ?_
     refine kz 0 5 _ _ aq rfl rfl ?_ ?_
     ·refine av ?_
      refine aK ?_
      refine kz 1 5 _ _ aq rfl rfl ?_ ?_
      ·refine av ?_
       refine aK ?_
       refine a6 5 _ aq rfl ?_
       refine av ?_
       refine aK ?_
       refine a6 6 _ aq rfl ?_
       refine bS rfl zf ?_
       refine aK ?_
       refine a6 7 _ aq rfl ?_
       refine av ?_
       refine aK ?_
       refine a6 8 _ aq rfl ?_
       refine av ?_
       refine aK ?_
       refine fW aq ?_
       refine av ?_
       exact tU
      ·refine av ?_
       refine aK ?_
       refine a6 1 _ aq rfl ?_
       refine av ?_
       refine aK ?_
       refine a6 6 _ aq rfl ?_
       refine bS rfl zf ?_
       refine aK ?_
       refine a6 7 _ aq rfl ?_
       refine av ?_
       refine aK ?_
       refine a6 8 _ aq rfl ?_
       refine av ?_
       refine aK ?_
       refine fW aq ?_
       refine av ?_
       exact tU
     ·refine av ?_
      refine aK ?_
      refine a6 0 _ aq rfl ?_
      refine av ?_
      refine aK ?_
      refine a6 1 _ aq rfl ?_
      refine av ?_
      refine aK ?_
      refine a6 6 _ aq rfl ?_
      refine bS rfl zf ?_
      refine aK ?_
      refine a6 7 _ aq rfl ?_
      refine av ?_
      refine aK ?_
      refine a6 8 _ aq rfl ?_
      refine av ?_
      refine aK ?_
      refine fW aq ?_
      refine av ?_
      exact tU
  ·rintro _ ⟨LR6,-,rfl⟩
   refine aT ?_
   refine cM (az.kill _ 38) ?_
   refine av ?_
   refine ak rfl cV ?_
   refine aQ ?_
   exact ui e (dpK l j) (o++[dpF l j]) ⟨axO hl hj,by simp;omega,by rw [xS];exact hV,hK⟩
 ·obtain rfl:c=0:=by omega
  rw [dqF,ng] at hV
  rw [dqK] at hK
  refine bG ?_
  rw [<-hV,<-hK]
  exact aJf [39] rfl rfl rfl rfl rfl mj (.agg (.cons (.pure rfl) (.cons (.pure hkp) (.cons (fI bF rfl rfl rfl) .nil)))) rfl rfl (dB l _)
theorem aAJ {α β:Type} [Inhabited α] (f:α->β) (l:List α) (d:α) {i:Nat} (h:i<l.length):(l.map f).take i++[f (l.getD i d)]=(l.map f).take (i+1):=by
 rw [zB,g8,bp,b7 h];rfl
open iy in
theorem aIF (m:M3) (p:V3) (R:Nat) (hR:R<=210000000) (hm:tH R m) (hp:cJ R p):ax an 234 [eG m,a5 p] (a5 (m3t m p)):=by
 obtain⟨jY,fe,qV,oH⟩:=hm
 refine aW Tryz.func234 (ht:=(fun r=>LV.di r _ (bl.pure _))) ?_
 refine bo ?_
 refine a9 16 aq ?_
 refine aT ?_
 refine ak rfl (.gj rfl rfl rfl rfl (dS.aw m) (agk m) ju) ?_
 refine av ?_
 refine cp au (alN m.a p R ae jY hp) ?_
 refine aT ?_
 refine ak rfl (.gj rfl rfl rfl rfl (dS.aw m) (afH m) ju) ?_
 refine av ?_
 refine cp au (alN m.b p R ae fe hp) ?_
 refine aT ?_
 refine ak rfl (.gj rfl rfl rfl rfl (dS.aw m) (aiQ m) ju) ?_
 refine av ?_
 refine cp au (alN m.c p R ae qV hp) ?_
 refine bc ?_
 exact tV
open iy in
theorem aIQ (m:M3) (p:V3) (R:Nat) (hR:R<=210000000) (hm:tH R m) (hp:cJ R p) (hR2:R<=1000000):ax an 144 [eG m,a5 p] (a5 (m3p m p)):=by
 have oH:=hm.2.2.2
 have ht:=awS hm hp
 have hmp:LV.pure (eG m)=true:=dS.pure m
 refine aW Tryz.func144 (ht:=(fun r=>LV.di r _ (bl.pure _))) ?_
 refine bo ?_
 refine a9 6 aq ?_
 refine ak rfl ain ?_
 refine av ?_
 refine cp au (aIF m p R hR hm hp) ?_
 refine av ?_
 refine ak rfl (.gj rfl rfl rfl rfl (dS.aw m) (aqI m) ju) ?_
 refine cp au (aHc (m3t m p) m.t (6*R+4) ae (ht.le ae) (oH.le ae)) ?_
 refine aA ?_
 exact tV
namespace aqs
theorem aO {p q:Prop} (k:q) (e:p=q:=by simp only [e1,e2,e3,e4,p1,p2,p3,q1,q2,q3,l1,t0,t1,r1,r2,r3,r4,Nat.zero_add,Nat.reduceMul,Nat.reduceAdd,b1,b2,b3,b4,b5,b6,i1,i2,i3,i4,i5,i6,Nat.reduceBEq,gZ,egr,aea,aV bF,List.length_map,cN,nt,nm,jK,List.length_cons,List.length_nil,List.nil_append,List.map_nil,List.take_nil,List.append_nil,List.set_cons_zero,List.set_cons_succ,Nat.reduceEqDiff,reduceIte,if_true,if_false,eN,eY,aV bl,aV bF,aV ar,cU,eu,LV.kill,bX];exact rfl):p:=e.mpr k
end aqs
open aqs in
theorem aB6 (m:M3) (po:List aG) (R:Nat) (hR:R<=1000000) (hm:tH R m) (hl:po.length<=100) (fT:∀ q∈po,sf R q):ax an 74 [.list 12 (po.map aY),eG m] (.list 12 ((po.map (tL m)).map aY)):=by
 have hmp:LV.pure (eG m)=true:=dS.pure m
 refine aW Tryz.func74 (ht:=(fun g=>LV.di g _ (fc bF 12 _))) ?_
 have gZ:True:=trivial
 have egr:True:=trivial
 refine qF ?_
 refine lR (az.own (t:=5) 95 12 rfl rfl) ?_
 refine dV (fun(i:Nat) L=>(((((St.mk L.slot (hp [(3,⟨36,[eG m],true⟩),(95,⟨12,((po.map (tL m)).take i).map aY,true⟩)])).put (some 0) (.list 12 (po.map aY))).put (some 3) (.aD 3 36 0 0)).put (some 5) (.ref 95 12 0 i)).put (some 6) (ai i))) (fun i=>i<=po.length) (fun i=>po.length-i) 0 (b8 _) ?_
 rintro i L1 hi
 refine bD ?_
 refine aH rfl ?_ ?_<;>intro ob qf
 ·have dR:i<po.length:=by omega
  have hq:=fT _ (sJ dR)
  have gZ:(((po.map (tL m)).take i).map aY).take i=((po.map (tL m)).take i).map aY:=dg bz
  have egr:=aAJ (tL m) po default dR
  refine aA ?_
  refine a9 15 aq ?_
  refine av ?_
  refine ak rfl ain ?_
  refine bc ?_
  refine cp au (aIQ m (po.getD i default).p R ae hm hq.1 hR) ?_
  refine bc ?_
  refine rG (abb rfl rfl) ?_
  refine av ?_
  refine bS rfl (.iJ (d:=95) (news:=[aY (tL m (po.getD i default))]) rfl rfl rfl rfl bz (.inl rfl) aj wB wB Z42 uF cs B42 (.inl ⟨27,0,_,rfl,by decide,rfl,rfl,by simp,rfl,by simp [aN,bF.pure]⟩) bz bz aj) ?_
  refine aA ?_
  refine cM (az.kill _ 27) ?_
  refine av ?_
  refine ak rfl cV ?_
  refine aQ ?_
  exact l5
 ·obtain rfl:i=po.length:=by omega
  rw [(dg kR:(po.map (tL m)).take po.length=po.map (tL m))]
  refine bG ?_
  exact o4 [95] rfl rfl (fI bF rfl rfl aM)
def nV (T:V3):M3:=⟨⟨1,0,0⟩,⟨0,1,0⟩,⟨0,0,1⟩,T⟩
theorem avt {R:Nat} {T:V3} (h1:1<=R) (h:cJ R T):tH R (nV T):=by
 have e0:rl 0=1:=rfl
 have e1:rl 1=1:=rfl
 exact⟨⟨by show rl 1<=_;omega,by show rl 0<=_;omega,by show rl 0<=_;omega⟩,⟨by show rl 0<=_;omega,by show rl 1<=_;omega,by show rl 0<=_;omega⟩,⟨by show rl 0<=_;omega,by show rl 0<=_;omega,by show rl 1<=_;omega⟩,h⟩
open iy in
theorem aJb :ax an 73 [iL 2] (a5 ⟨0,0,1⟩):=by
 have th:ax an 13 [iL 1] (ah 1):=so 1 aj aj
 refine aW Tryz.func73 (ht:=(fun r=>LV.di r _ (bl.pure _))) ?_
 refine dH ?_
 refine cp aR (th) ?_
 refine bC ?_
 exact tV
open iy in
theorem axk :ax an 26 [] (eG (⟨⟨1,0,0⟩,⟨0,1,0⟩,⟨0,0,1⟩,⟨0,0,0⟩⟩:M3)):=by
 refine aW Tryz.func26 (ht:=(fun r=>LV.di r _ (dS.pure _))) ?_
 refine aZ ?_
 refine cp aR (aA3) ?_
 refine cp aR (aAm) ?_
 refine cp aR (aJb) ?_
 refine ak rfl (alx rfl rfl rfl) ?_
 refine ak rfl (amJ (a:=⟨1,0,0⟩) (b:=⟨0,1,0⟩) (c:=⟨0,0,1⟩) rfl) ?_
 refine bS rfl al3 ?_
 refine aQ ?_
 exact iG [] rfl rfl rfl (dS.aw _) (dZ (dS.aw _) rfl) wb (.pure (dS.pure _))
open alM in
theorem aFW (p q:V3) (R:Nat) (hR:R<=100000000) (hp:cJ R p) (hq:cJ R q):ax an 34 [a5 p,a5 q] (eG (nV (gI q p))):=by
 refine aW Tryz.func34 (ht:=(fun r=>LV.di r _ (dS.pure _))) ?_
 refine bD ?_
 refine cp am0 (axk) ?_
 refine av ?_
 refine bS rfl al3 ?_
 refine aC ?_
 refine cp au (aBM q p R ae hq hp) ?_
 refine av ?_
 refine bS rfl (.store (y:=eG (⟨⟨1,0,0⟩,⟨0,1,0⟩,⟨0,0,1⟩,⟨0,0,0⟩⟩:M3)) (y':=eG (nV (gI q p))) rfl rfl rfl rfl rfl (dS.aw _) (aj6 (⟨⟨1,0,0⟩,⟨0,1,0⟩,⟨0,0,1⟩,⟨0,0,0⟩⟩:M3) _) (by show bE _ _ (LV.aw (a5 _)) (LV.isAgg (a5 _));rw [bl.aw,bl.isAgg];exact ju) ⟨LV.fp (bl.pure _),LV.eW (bl.pure _)⟩) ?_
 refine aA ?_
 refine ak rfl (.gj rfl rfl rfl rfl (dS.aw (nV (gI q p))) (dZ (dS.aw (nV (gI q p))) rfl) wb) ?_
 refine bS rfl (.stE (e:=eG) (l:=[⟨⟨0,0,0⟩,⟨0,0,0⟩,⟨0,0,0⟩,⟨0,0,0⟩⟩]) (a:=(nV (gI q p))) rfl rfl rfl aM) ?_
 refine aQ ?_
 exact iG [] rfl rfl rfl (dS.aw _) (dZ (dS.aw _) rfl) wb (.pure (dS.pure _))
namespace auM
theorem aO {p q:Prop} (k:q) (e:p=q:=by simp only [e1,e2,e3,e4,p1,p2,p3,q1,q2,q3,l1,t0,t1,r1,r2,r3,r4,Nat.zero_add,Nat.reduceMul,Nat.reduceAdd,b1,b2,b3,b4,b5,b6,i1,i2,i3,i4,i5,i6,Nat.reduceBEq,aea,aV ar,aV bF,cN,nt,nm,jK,List.length_cons,List.length_nil,List.nil_append,List.map_nil,List.take_nil,List.append_nil,List.set_cons_zero,List.set_cons_succ,Nat.reduceEqDiff,reduceIte,if_true,if_false,eN,eY,aV bl,aV bF,aV ar,cU,eu,LV.kill,bX];exact rfl):p:=e.mpr k
end auM
open auM in
theorem awx (d:Nat) (kV:List Rat) (m:M3) (po:List aG) (R:Nat) (hR:R<=1000000) (hm:tH R m) (hl:po.length<=100) (hkv:kV.length<=100) (fT:∀ q∈po,sf R q):ax an 28 [.agg [ai d,.list 3 (kV.map ah),.list 12 (po.map aY)],eG m] (.agg [ai d,.list 3 (kV.map ah),.list 12 ((po.map (tL m)).map aY)]):=by
 have hmp:LV.pure (eG m)=true:=dS.pure m
 have gh:LV.pure (.agg [ai d,.list 3 (kV.map ah),.list 12 (po.map aY)])=true:=by simp [LV.pure,aN,a7 ar,a7 bF]
 have uG:=a7 ar kV
 have hpo:=a7 bF po
 refine aW Tryz.func28 (ht:=(fun g=>LV.di g _ ah7)) ?_
 refine bo ?_
 refine alw ((az.cr (t:=3) (b:=3) rfl rfl (dS.aw m) rfl hmp).trans (az.cr (t:=2) (b:=2) rfl rfl cs rfl gh)) ?_
 refine iP 0 rfl rfl aq (.pure jO) lD iQ ?_
 refine iP 1 rfl rfl aq (.pure gg) lD iQ ?_
 refine iP 3 rfl rfl aq (.pure jO) lD iQ ?_
 refine iP 4 rfl rfl aq (.pure (.tE rfl uG rfl rfl)) lD iQ ?_
 refine iP 6 rfl rfl aq (.pure jO) lD iQ ?_
 refine iP 7 rfl rfl aq (.pure (.tE rfl hpo rfl rfl)) lD iQ ?_
 refine iP 8 rfl rfl aq (.pure (.tE rfl hmp (dS.aw m) rfl)) (fun b=>LV.mr b _ hmp) iQ ?_
 refine a6 2 _ aq rfl ?_
 refine av ?_
 refine aK ?_
 refine a6 5 _ aq rfl ?_
 refine bS rfl (.iJ (d:=7) (news:=kV.map ah) rfl rfl rfl rfl aM (.inl rfl) aj dI dI mq db rfl mY (.inr (.inl rfl)) bz bz aj) ?_
 refine aK ?_
 refine a6 9 _ aq rfl ?_
 refine aO ?_
 refine fG rfl (.cons (.pure (fc bF 12 po)) (.cons (.pure hmp) .nil)) (aB6 m po R hR hm hl fT) ?_
 refine aK ?_
 refine a6 10 _ aq rfl ?_
 refine av ?_
 refine aK ?_
 refine a6 11 _ aq rfl ?_
 refine av ?_
 refine aK ?_
 refine fW aq ?_
 refine aT ?_
 exact iG [7] rfl rfl rfl cs (dZ cs rfl) mj (.agg (.cons (.pure rfl) (.cons (fI ar rfl rfl aM) (.cons (.pure (fc bF 12 _)) .nil))))
def ik (d:Nat) (k:List Rat) (s:Rat):Nat:=if k.length=2*d+2 then d else if s<k.getD (d+1) 0 then d else d+1
def gr (d:Nat) (k:List Rat) (po:List aG) (s:Rat):V3:=vi k d (ik d k s) po s
theorem nY.iv {d:Nat} {k:List Rat} {po:List aG} {a b s:Rat} (h:nY d k po a b) (h1:a<=s) (h2:s<=b) (hr:rl s<=1000):ivK d k (ik d k s) s/\(∀ i j,i<=ik d k s->ik d k s<j->j<=ik d k s+d->k.getD i 0≠k.getD j 0)/\po.length+d+1=k.length:=by
 have hd:=h.d1
 have h3:=h.d3
 have ra:=uo h.ca
 have rb:=uo h.cb
 have cL:=h.ab
 rcases h.kn with⟨rfl,hl⟩ | ⟨t,g1,g2,ht,rfl,hl⟩
 ·have hk:=lL d a b
  have e:ik d (bu d a b) s=d:=by unfold ik;rw [if_pos ae]
  rw [e]
  refine⟨⟨ae,ae,ae,fun x hx=>ba (adb (R:=1) ra rb x hx) aj,hr,by rw [iH _ _ _ _ ae,if_pos ae];exact h1,by rw [hk,iH _ _ _ _ ae,if_neg ae];exact h2,bq _,ae,by rw [iH _ _ _ _ ae,if_pos ae];exact h1,fun i j1 j2=>by omega⟩,fun i j j1 j2 j3=>?_,ae⟩
  rw [iH _ _ _ _ ae,iH _ _ _ _ ae,if_pos ae,if_neg ae];grind
 ·have hk:=pJ d a t b
  have rt:=uo ht
  have kN:∀ x∈bR d a t b,rl x<=100:=fun x hx=>ba (adO ae ae ae x hx) aj
  have e1:(bR d a t b).getD 0 0=a:=by rw [eT _ _ _ _ _ ae,if_pos ae]
  have e2:(bR d a t b).getD (d+1) 0=t:=by rw [eT _ _ _ _ _ ae,if_neg ae,if_pos ae]
  have e3:(bR d a t b).getD ((bR d a t b).length-1) 0=b:=by rw [hk,eT _ _ _ _ _ ae,if_neg ae,if_neg ae]
  have e4:(bR d a t b).getD d 0=a:=by rw [eT _ _ _ _ _ ae,if_pos ae]
  unfold ik
  rw [if_neg ae,e2]
  by_cases c:s<t
  ·rw [if_pos c]
   refine⟨⟨ae,ae,ae,kN,hr,by rw [e1];exact h1,by rw [e3];exact h2,bq _,ae,by rw [e4];exact h1,fun i j1 j2=>by rw [show i=d+1 by omega,e2];exact c⟩,fun i j j1 j2 j3=>?_,ae⟩
   rw [eT _ _ _ _ _ ae,eT _ _ _ _ _ ae,if_pos ae,if_neg ae]
   split<;>grind
  ·rw [if_neg c]
   refine⟨⟨ae,ae,ae,kN,hr,by rw [e1];exact h1,by rw [e3];exact h2,ae,ae,by rw [e2];grind,fun i j1 j2=>by omega⟩,fun i j j1 j2 j3=>?_,ae⟩
   rw [eT _ _ _ _ _ ae,eT _ _ _ _ (j) ae,if_neg (show ¬j<d+1 by omega),if_neg (show ¬j<d+2 by omega)]
   split
   ·grind
   ·split<;>grind
theorem nY.pp {d:Nat} {k:List Rat} {po:List aG} {a b s:Rat} {D N:Nat} (h:nY d k po a b) (c:jW po D N) (h1:a<=s) (h2:s<=b):(∃ q∈ix d k po,rN (q.a,q.b) s/\tJ q s=gr d k po s)/\0<cZ k d (ik d k s) (aL po) (ay d s):=by
 have hwp:∀ x∈aL po,0<x:=fun x hx=>by obtain⟨z,hz,rfl⟩:=cQ.1 hx;exact c.p z hz
 rcases h.kn with⟨rfl,hl⟩ | ⟨t,g1,g2,ht,rfl,hl⟩
 ·have hk:=lL d a b
  have e:ik d (bu d a b) s=d:=by unfold ik;rw [if_pos ae]
  unfold gr
  rw [x9 hl,e]
  refine⟨⟨⟨d,a,b,po⟩,gS.2 rfl,⟨h1,h2⟩,(aq9 h.d1 h.d3 h.ab hl).symm⟩,?_⟩
  have ho:=zh h.ab h1 h2
  rw [agf h.d1 h.d3 h.ab (by rw [mC,hl]),mZ (by rw [mC];omega)]
  exact adi cj ho.1 cj _ _ fun i hi=>hwp _ (dK (by rw [mC] at *;omega))
 ·have hk:=pJ d a t b
  have hC:(po.map cO).length=d+2:=by rw [dL,hl]
  have hw:∀ q∈po.map cO,0<q.w:=fun q hq=>by obtain⟨z,hz,rfl⟩:=cQ.1 hq;exact c.p z hz
  have e2:(bR d a t b).getD (d+1) 0=t:=by rw [eT _ _ _ _ _ ae,if_neg ae,if_pos ae]
  unfold gr
  rw [aaZ hl]
  by_cases g:s<t
  ·have e:ik d (bR d a t b) s=d:=by unfold ik;rw [if_neg ae,e2,if_pos g]
   rw [e]
   refine⟨⟨⟨d,a,t,(kj d a t b (po.map cO)).map dW⟩,apr,⟨h1,ib g⟩,ast h.d1 h.d3 g1 h.ab hl (afO g1 g2 hC hw)⟩,?_⟩
   exact aeO hwp (by rw [mC];omega) (bq _) fun r j j1 j2 j3=>akA g1 g2 (fun r hr=>by rw [abe hr];exact⟨h1,ib g⟩) j1 j2 j3
  ·have e:ik d (bR d a t b) s=d+1:=by unfold ik;rw [if_neg ae,e2,if_neg g]
   have g:t<=s:=by grind
   rw [e]
   refine⟨⟨⟨d,t,b,(km d a t b (po.map cO)).map dW⟩,List.mem_cons_of_mem _ apr,⟨g,h2⟩,asj h.d1 h.d3 g1 g2 hl (aeV g1 g2 hC hw)⟩,?_⟩
   exact aeO hwp (by rw [mC];omega) ae fun r j j1 j2 j3=>awY g1 g2 (fun r hr=>by rw [abe hr];exact⟨g,h2⟩) j1 j2 j3
theorem aCU {a b:Rat} (ca:cH 2 20 a) (cb:cH 2 20 b) (n:Int):∃ m,0<m/\cH (2*m) 720 (kB (a,b) n)/\∀ x,cH 2 20 x->cH (2*m) 720 x:=by
 have hd:=aiD n
 have h1:=ta n (show jw n+1≠0 by omega)
 have h2:=sT n (show (0:Int)<jw n+1 by omega)
 have hp:cH (jw n).toNat 12 (qM n):=by
  refine⟨n % (jw n+1),?_,ae⟩
  unfold qM
  rw [yK ae]
  exact kf (by have:(0:Rat)<((jw n:Int):Rat):=sK.2 ae;grind)
 have hs:∀ x,cH 2 20 x->cH (2*(jw n).toNat) 240 x:=fun x hx=>(hx.scale (E:=(jw n).toNat)).mono ae
 refine⟨(jw n).toNat,ae,?_,fun x hx=>(hs x hx).mono aj⟩
 have hm:=hp.amn (cb.atc ca)
 rw [fA (jw n).toNat 2] at hm
 exact(hs a ca).ahI hm
theorem aeZ {a b:Rat} (h:a<b) (n:Int):a<=kB (a,b) n/\kB (a,b) n<=b:=by
 have hp:=aF4 n
 have m1:=iN hp.1 (show 0<=b-a by grind)
 have m2:=iN (show 0<=1-qM n by grind) (show 0<=b-a by grind)
 show a<=a+qM n*(b-a)/\a+qM n*(b-a)<=b
 generalize qM n=p at *
 constructor<;>grind
theorem ahz {a b:Rat} (ca:cH 2 20 a) (cb:cH 2 20 b) (n:Int):rl (kB (a,b) n)<=10:=by
 have h1:=uo ca
 have h2:=uo cb
 have h3:=axD n
 have m1:=jF b a
 have m2:=df (qM n) (b-a)
 have m3:=lN a (qM n*(b-a))
 show rl (a+qM n*(b-a))<=_
 omega
theorem nY.pt {d:Nat} {k:List Rat} {po:List aG} {a b:Rat} {D N:Nat} (h:nY d k po a b) (c:jW po D N) (n:Int):∃ M,0<M/\M<=N*40 ^ 3*1440 ^ 3/\∀ j,j<3->cH M (N*40 ^ 3*1440 ^ 3) ((gr d k po (kB (a,b) n)).at j):=by
 have s8:=aeZ h.ab n
 obtain⟨⟨q,hq,hqs,he⟩,_⟩:=h.pp c s8.1 s8.2
 obtain⟨E,e0,e1,hP⟩:=h.pcs c
 have hp:=hP q hq
 obtain⟨m,m0,m1,m2⟩:=aCU h.ca h.cb n
 obtain⟨F,f0,f1,f2⟩:=anH ae m1 (m2 _ hp.ca) (m2 _ hp.cb) hqs.1 hqs.2 hp.ab
 have ho:=zh hp.ab hqs.1 hqs.2
 obtain⟨M,g0,g1,g2⟩:=aHC hp.c hp.l f2 f0 ho.1 ho.2
 have hle:N*E ^ d*F ^ d<=N*40 ^ 3*1440 ^ 3:=mM (kv _ (alU e1 aj h.d3)) (alU f1 aj h.d3)
 refine⟨M,g0,ba g1 hle,fun j hj=>?_⟩
 rw [<-he]
 exact(g2 j hj).mono hle
structure iw (d:Nat) (k:List Rat) (po:List aG) (a b:Rat):Prop where
 dr:nY d k po a b
 c:∃ D N,jW po D N/\D<=2 ^ 200/\N<=2 ^ 200
 z:∀ q∈po,q.p.z=0
def c19 (po:List aG):Prop:=∃ D N,jW po D N/\D<=2 ^ 190/\N<=2 ^ 190
theorem c19.c {po:List aG}:c19 po->∃ D N,jW po D N/\D<=2 ^ 200/\N<=2 ^ 200:=fun⟨D,N,h,a,b⟩=>⟨D,N,h,ba a aq,ba b aq⟩
theorem iw.of {d:Nat} {k:List Rat} {po:List aG} {a b:Rat} (h:nY d k po a b) (hs:∀ q∈po,smP q):iw d k po a b:=⟨h,⟨12,216,acu hs,by decide,by decide⟩,fun q hq=>(hs q hq).2.2.2⟩
theorem aHM (p q:V3) (k:Nat):(gI p q).at k=p.at k-q.at k:=by
 match k with
 | 0=>rfl
 | 1=>rfl
 | k+2=>rfl
theorem akp (p q:V3) (k:Nat):(lM p q).at k=p.at k+q.at k:=by
 match k with
 | 0=>rfl
 | 1=>rfl
 | k+2=>rfl
theorem aCo {k:List Rat} {d pc:Nat} {v:List Rat} {t:Rat} (hv:pc+1<=v.length) (hp:d<=pc) (hs:∀ i j,i<=pc->pc<j->j<=pc+d->k.getD i 0≠k.getD j 0) (h0:∀ x∈v,x=0):cZ k d pc v (ay d t)=0:=by
 rw [<-ad3 hv hp hs]
 refine aoe _ _ fun i hi=>?_
 rw [h0 _ (dK ae),xi]
theorem awl {d:Nat} {k:List Rat} {po:List aG} {a b s:Rat} (h:nY d k po a b) (hz:∀ q∈po,q.p.z=0) (h1:a<=s) (h2:s<=b) (hr:rl s<=1000):(gr d k po s).z=0:=by
 obtain⟨hi,hs,hl⟩:=h.iv h1 h2 hr
 have sE:=hi.p2
 have e:cZ k d (ik d k s) (a8 po 2) (ay d s)=0:=aCo (by rw [kY];omega) hi.p1 hs fun x hx=>by
  obtain⟨q,hq,rfl⟩:=cQ.1 hx
  show q.w*q.p.z=0
  rw [hz q hq,xi]
 show 1/_*cZ k d (ik d k s) (a8 po 2) (ay d s)=0
 rw [e,xi]
theorem aIi {d:Nat} {k:List Rat} {po:List aG} {a b s:Rat} {D N:Nat} {T:V3} (h:nY d k po a b) (c:jW po D N) (h1:a<=s) (h2:s<=b) (hr:rl s<=1000):gr d k (po.map (fg T)) s=lM (gr d k po s) T:=by
 obtain⟨hi,hs,hl⟩:=h.iv h1 h2 hr
 have sE:=hi.p2
 have hW:=(h.pp c h1 h2).2
 have ew:aL (po.map (fg T))=aL po:=by unfold aL;rw [kU];rfl
 have g:∀ j,cZ k d (ik d k s) (a8 (po.map (fg T)) j) (ay d s)=cZ k d (ik d k s) (a8 po j) (ay d s)+T.at j*cZ k d (ik d k s) (aL po) (ay d s):=fun j=>by
  rw [<-ad3 (by rw [kY,dL];omega) hi.p1 hs,<-ad3 (by rw [kY];omega) hi.p1 hs,<-ad3 (v:=aL po) (by rw [mC];omega) hi.p1 hs,<-ajY,<-aeM]
  refine uc _ _ _ fun i n5=>?_
  have hx:ik d k s-d+i<po.length:=by have:=hi.p1;omega
  rw [xo (by rw [dL];exact hx),xo hx,aav hx]
  have em:(po.map (fg T)).getD (ik d k s-d+i) default=fg T (po.getD (ik d k s-d+i) default):=by
   rw [bp,g8,b7 hx,bp,b7 hx];rfl
  rw [em]
  show _*((po.getD (ik d k s-d+i) default).w*(lM (po.getD (ik d k s-d+i) default).p T).at j)=_
  rw [akp]
  grind
 unfold gr vi
 rw [ew,g 0,g 1,g 2]
 have fu:1/cZ k d (ik d k s) (aL po) (ay d s)*cZ k d (ik d k s) (aL po) (ay d s)=1:=kf cj
 have q:∀ n t:Rat,1/cZ k d (ik d k s) (aL po) (ay d s)*(n+t*cZ k d (ik d k s) (aL po) (ay d s))=1/cZ k d (ik d k s) (aL po) (ay d s)*n+t:=fun n t=>by
  generalize 1/cZ k d (ik d k s) (aL po) (ay d s)=r at *
  generalize cZ k d (ik d k s) (aL po) (ay d s)=w at *
  have:r*(n+t*w)=r*n+t*(r*w):=by grind
  rw [this,fu,pI]
 unfold jC lM
 simp only [q]
 rfl
theorem iw.sh {d e:Nat} {k m:List Rat} {po pq:List aG} {a b a' b':Rat} (hc:nY d k po a b) (hx:nY e m pq a' b') (sc:∀ q∈po,smP q) (sx:∀ q∈pq,smP q) (i j:Int) :
  c19 (pq.map (fg (gI (gr d k po (kB (a,b) i)) (gr e m pq (kB (a',b') j)))))/\iw e m (pq.map (fg (gI (gr d k po (kB (a,b) i)) (gr e m pq (kB (a',b') j))))) a' b'/\cJ 10 (gI (gr d k po (kB (a,b) i)) (gr e m pq (kB (a',b') j)))/\cJ 10 (gr d k po (kB (a,b) i))/\cJ 10 (gr e m pq (kB (a',b') j)):=by
 obtain⟨M,m0,m1,m2⟩:=hc.pt (acu sc) i
 obtain⟨L,l0,l1,l2⟩:=hx.pt (acu sx) j
 obtain⟨B,hB⟩:∃ B,216*40 ^ 3*1440 ^ 3=B:=⟨_,rfl⟩
 rw [hB] at m1 m2 l1 l2
 have hT:∀ k',k'<3->cH (M*L) (B*L+B*M) ((gI (gr d k po (kB (a,b) i)) (gr e m pq (kB (a',b') j))).at k'):=fun k' hk=>by
  rw [aHM]
  have h2:=(l2 k' hk).scale (E:=M)
  rw [fA L M] at h2
  exact((m2 k' hk).scale (E:=L)).atc h2
 have p1:M*L<=B*B:=mM m1 l1
 have p2:B*L+B*M<=B*B+B*B:=adu (kv _ l1) (kv _ m1)
 have hML:0<M*L:=mG m0 l0
 have hsm:B*B+B*B<4294967296 ^ 10:=by rw [<-hB];decide +kernel
 have dv:∀ (x:V3) (D' N':Nat),0<D'->D'<=B*B->N'<=B*B+B*B->(∀ k',k'<3->cH D' N' (x.at k'))->cJ 10 x:=fun x D' N' h0 h1 h2 h=>⟨(h 0 aj).rl h0 ae ae aj,(h 1 aj).rl h0 ae ae aj,(h 2 aj).rl h0 ae ae aj⟩
 have hBB:B<=B*B:=Nat.le_mul_of_pos_left _ ae
 have h9:c19 (pq.map (fg (gI (gr d k po (kB (a,b) i)) (gr e m pq (kB (a',b') j))))):=⟨_,_,auJ (acu sx) hML hT,ba (kv _ p1) (by rw [<-hB];decide +kernel),ba (adu (kv _ p1) (kv _ p2)) (by rw [<-hB];decide +kernel)⟩
 refine⟨h9,⟨⟨hx.d1,hx.d3,hx.ab,hx.ca,hx.cb,?_⟩,h9.c,fun q hq=>?_⟩,dv _ _ _ hML p1 p2 hT,dv _ _ _ m0 ae ae m2,dv _ _ _ l0 ae ae l2⟩
 ·rw [dL];exact hx.kn
 ·obtain⟨y,hy,rfl⟩:=cQ.1 hq
  have hi:=aeZ hc.ab i
  have hj:=aeZ hx.ab j
  have z1:=awl hc (fun q hq=>(sc q hq).2.2.2) hi.1 hi.2 (ba (ahz hc.ca hc.cb i) aj)
  have z2:=awl hx (fun q hq=>(sx q hq).2.2.2) hj.1 hj.2 (ba (ahz hx.ca hx.cb j) aj)
  show y.p.z+((gr d k po (kB (a,b) i)).z-(gr e m pq (kB (a',b') j)).z)=0
  rw [z1,z2,(sx y hy).2.2.2];decide +kernel
theorem ahN (T:V3):tL (nV T)=fg T:=by
 funext q
 show (⟨⟨0+1*q.p.x+0*q.p.y+0*q.p.z+T.x,0+0*q.p.x+1*q.p.y+0*q.p.z+T.y,0+0*q.p.x+0*q.p.y+1*q.p.z+T.z⟩,q.w⟩:aG)=⟨⟨q.p.x+T.x,q.p.y+T.y,q.p.z+T.z⟩,q.w⟩
 congr 2<;>grind
theorem aHQ {D W:Nat} {wd:Rat} {lk:ky} {I:fN->Prop} {Q:ij->Prop} (hH:∀ x,I x->x.2.1<D->I (qg x)/\I (qL x)) (hC:∀ x v,I x->v=(false,0,0)\/v=lk (x.1.take 1) (x.1.drop 1)->Q (nN 1 x v)) {s:RunT} (h0:∀ x∈s.1,I x) (h:∀ c∈s.2.2,Q c):∀ c∈(xb D W 1 wd lk s).2.2,Q c:=by
 have:=akR (D:=D) (W:=W) (na:=1) (wd:=wd) (lk:=lk) (fun s=>(∀ x∈s.1,I x)/\∀ c∈s.2.2,Q c) (fun x st n cs hI0=>by
  obtain⟨hA,hI⟩:=hI0
  have iO:=hA x aM
  have dj:∀ y∈st,I y:=fun y hy=>hA y (by simp [hy])
  have hq:∀ v,v=(false,0,0)\/v=lk (x.1.take 1) (x.1.drop 1)->∀ c∈cs++[nN 1 x v],Q c:=fun v hv c hc=>by
   rcases List.mem_append.1 hc with g | g
   ·exact hI c g
   ·rw [gS.1 g];exact hC x v iO hv
  rw [mL]
  split
  ·exact⟨dj,hq _ (.inl rfl)⟩
  ·split
   ·exact⟨dj,hI⟩
   ·split
    ·exact⟨dj,hq _ (.inr rfl)⟩
    ·rename_i kS
     have bH:x.2.1<D:=by
      rcases gC x.2.1 D with g | g
      ·exact g
      ·exact absurd (aoh (x:=x) (wd:=wd) g) kS
     have hh:=hH x iO bH
     refine⟨fun y hy=>?_,hI⟩
     simp only [fx] at hy
     rcases hy with rfl | rfl | hy
     ·exact hh.1
     ·exact hh.2
     ·exact dj y hy) (ie D s.1) (bq _) ⟨h0,h⟩ (amA D W 1 wd lk s)
 exact this.1.2
section
variable {d w:Nat} {wd:Rat} {lk:dt->dt->ky} {dm:dt->Sp} {Q:ij->Prop}
theorem awZ {c:dt}:∀ (l:List dt) {s:oS},(∀ e∈l,∀ s:oS,(∀ x∈s.2,Q x)->∀ x∈(pg d w wd lk dm c e s).2,Q x)->(∀ x∈s.2,Q x)->∀ x∈(nw d w wd lk dm c l s).2,Q x
 | [],_,_,h=>h
 | e :: l,s,hp,h=>awZ l (s:=pg d w wd lk dm c e s) (fun e he=>hp e (by simp [he])) (hp e aM s h)
theorem avm {m:List dt}:∀ (l:List dt) {s:oS},(∀ c∈l,∀ e∈m,∀ s:oS,(∀ x∈s.2,Q x)->∀ x∈(pg d w wd lk dm c e s).2,Q x)->(∀ x∈s.2,Q x)->∀ x∈(og d w wd lk dm l m s).2,Q x
 | [],_,_,h=>h
 | c :: l,s,hp,h=>avm l (s:=nw d w wd lk dm c m s) (fun c hc=>hp c (by simp [hc])) (awZ m (hp c aM) h)
theorem axf (hd:d<=10) (hW:w<=4096) {c:dt}:∀ (l:List dt) {s:oS} {n:Nat},s.1<=4096->s.2.length<=n->(nw d w wd lk dm c l s).1<=4096/\(nw d w wd lk dm c l s).2.length<=n+2048*l.length
 | [],s,n,h1,h2=>⟨h1,h2⟩
 | e :: l,s,n,h1,h2=>by
  obtain⟨g1,g2⟩:=avq (wd:=wd) (lk:=lk) (dm:=dm) (c:=c) (e:=e) hd hW h1 h2
  obtain⟨k1,k2⟩:=axf hd hW (c:=c) l (s:=pg d w wd lk dm c e s) (n:=n+2048) g1 g2
  refine⟨k1,ba k2 ?_⟩
  simp only [rC];omega
theorem auN (hd:d<=10) (hW:w<=4096) {m:List dt} (hm:m.length<=10):∀ (l:List dt) {s:oS} {n:Nat},s.1<=4096->s.2.length<=n->(og d w wd lk dm l m s).1<=4096/\(og d w wd lk dm l m s).2.length<=n+20480*l.length
 | [],s,n,h1,h2=>⟨h1,h2⟩
 | c :: l,s,n,h1,h2=>by
  obtain⟨g1,g2⟩:=axf (wd:=wd) (lk:=lk) (dm:=dm) hd hW (c:=c) m h1 h2
  obtain⟨k1,k2⟩:=auN hd hW hm l (s:=nw d w wd lk dm c m s) (n:=n+20480) g1 ae
  refine⟨k1,ba k2 ?_⟩
  simp only [rC];omega
end
theorem avw {d w:Nat} {wd:Rat} {lA lB:List eX} {Q:ij->Prop} (h:∀ p∈lA,∀ q∈lB,∀ x v,wI d p.a p.b q.a q.b x->v=(false,0,0)\/v=m9 p q (x.1.take 1) (x.1.drop 1)->Q (nN 1 x v)):∀ c∈(kF d w wd lA lB).2,Q c:=by
 refine avm _ (fun c hc e he s hs=>?_) (fun x hx=>by cases hx)
 obtain⟨p,hp,rfl⟩:=cQ.1 hc
 obtain⟨q,hq,rfl⟩:=cQ.1 he
 refine aHQ (I:=wI d (ji (dY p)).a (ji (dY p)).b (ji (dY q)).a (ji (dY q)).b) (fun x=>alh) (fun x v hx hv=>?_) (fun x hx=>?_) hs
 ·rw [aar,aar] at hx
  have hv:v=(false,0,0)\/v=m9 (ji (dY p)) (ji (dY q)) (x.1.take 1) (x.1.drop 1):=hv
  rw [aar,aar] at hv
  exact h p hp q hq x v hx hv
 ·rw [gS.1 hx]
  exact anP ..
theorem aE3 {d w:Nat} {wd:Rat} {lA lB:List eX} (hd:d<=10) (hw:w<=4096) (hA:lA.length<=10) (hB:lB.length<=10):(kF d w wd lA lB).2.length<=204800:=by
 have:=(auN (wd:=wd) (lk:=fun c e=>m9 (ji c) (ji e)) (dm:=fun c=>((ji c).a,(ji c).b)) hd hw (m:=lB.map dY) (by rw [dL];exact hB) (lA.map dY) (s:=(0,[])) (n:=0) (b8 _) (bq _)).2
 rw [dL] at this
 unfold kF
 omega
def ans (c:ij):Prop:=∃ s r:Sp,c.1=[s]/\c.2.1=[r]/\rl s.1<=100/\rl s.2<=100/\rl r.1<=100/\rl r.2<=100/\s.1<s.2/\r.1<r.2
theorem aHl {d:Nat} {a b a' b':Rat} (hd:d<=24) (cL:a<b) (aJ7:a'<b') (h1:rl a<=30) (h2:rl b<=30) (h3:rl a'<=30) (h4:rl b'<=30) {x:fN} {v:Bool × Nat × Nat} (h:wI d a b a' b' x):ans (nN 1 x v):=by
 obtain⟨s,r,i,j,e,f,rF,hle,hs,hr⟩:=h
 have g1:=hs.rl ae
 have g2:=hr.rl ae
 refine⟨bn a b s,bn a' b' r,by unfold nN;rw [e];rfl,by unfold nN;rw [e];rfl,?_,?_,?_,?_,y7 cL hs.2.2.2.1,y7 aJ7 hr.2.2.2.1⟩
 ·have:=sH h1 h2 g1.1;show rl (a+(b-a)*s.1)<=_;omega
 ·have:=sH h1 h2 g1.2;show rl (a+(b-a)*s.2)<=_;omega
 ·have:=sH h3 h4 g2.1;show rl (a'+(b'-a')*r.1)<=_;omega
 ·have:=sH h3 h4 g2.2;show rl (a'+(b'-a')*r.2)<=_;omega
theorem jW.b4 {C:List Q4} {D N k:Nat} (c:jW (C.map dW) D N) (hw:∀ q∈C,0<q.w) (hN:N<4294967296 ^ k) (hD:D<4294967296 ^ k) (hk:1<=k):∀ q∈C,rv k q:=fun q hq=>by
 obtain⟨n0,n1,n2,n3⟩:=afu hw
 exact⟨(c.n 0 _ (by rw [n0];exact cQ.2 ⟨q,hq,rfl⟩)).rl c.D0 hN hD hk,(c.n 1 _ (by rw [n1];exact cQ.2 ⟨q,hq,rfl⟩)).rl c.D0 hN hD hk,(c.n 2 _ (by rw [n2];exact cQ.2 ⟨q,hq,rfl⟩)).rl c.D0 hN hD hk,(c.w _ (by rw [n3];exact cQ.2 ⟨q,hq,rfl⟩)).rl c.D0 hN hD hk⟩
theorem agj {po:List aG} {D N k:Nat} (c:jW po D N) (hN:N<4294967296 ^ k) (hD:D<4294967296 ^ k) (hk:1<=k):∀ q∈po.map cO,rv k q:=fun q hq=>by
 obtain⟨z,hz,rfl⟩:=cQ.1 hq
 exact⟨(c.n 0 _ (cQ.2 ⟨z,hz,rfl⟩)).rl c.D0 hN hD hk,(c.n 1 _ (cQ.2 ⟨z,hz,rfl⟩)).rl c.D0 hN hD hk,(c.n 2 _ (cQ.2 ⟨z,hz,rfl⟩)).rl c.D0 hN hD hk,(c.w _ (cQ.2 ⟨z,hz,rfl⟩)).rl c.D0 hN hD hk⟩
theorem qJ {n:Nat} (h:n<=2 ^ 200):n<4294967296 ^ 7:=uP h aq
theorem adg {n E d:Nat} (h:n<=2 ^ 200) (hE:E<=40) (hd:d<=3):n*E ^ d<4294967296 ^ 7:=uP (mM h (alU hE aj hd)) aq
theorem ao0 {d:Nat} {k:List Rat} {po:List aG} {a b s:Rat} (h:iw d k po a b) (h1:a<=s) (h2:s<=b) (hr:rl s<=1000):ax an 19 [.agg [ai d,.list 3 (k.map ah),.list 12 (po.map aY)],ah s] (.bf [a5 (gr d k po s),iL 0]):=by
 obtain⟨hi,hs,hl⟩:=h.dr.iv h1 h2 hr
 obtain⟨D,N,c,hD,hN⟩:=h.c
 exact aJo d k _ s hi po 7 aj hl (c.okR (qJ hN) (qJ hD) aj) hs
theorem ajf (d:Nat) (k:List Rat) (po:List aG):(ix d k po).length<=2:=by unfold ix;split<;>simp
theorem aBF {q:aG} (h:0<q.w):dW (cO q)=q:=by
 obtain⟨⟨x,y,z⟩,w⟩:=q
 have h:(0:Rat)<w:=h
 have e:∀ x:Rat,w*x/w=x:=fun x=>by rw [oW,vO cj]
 show (⟨⟨w*x/w,w*y/w,w*z/w⟩,w⟩:aG)=_
 rw [e,e,e]
theorem aKh {d:Nat} {a b:Rat} {C:List Q4} (cL:a<b) (hC:C.length=d+1):agF d a b C a b=C:=by
 unfold agF
 refine List.ext_getElem (by simp [hC]) fun i g1 g2=>?_
 have hi:i<d+1:=by simpa using g1
 have e:∀ f:Q4->Rat,blo d a b (C.map f) (ay (d-i) a++ay i b)=f C[i]:=fun f=>by
  rw [<-ayO ae,aFz cL (by rw [dL];exact hC) ae,bp,g8,b7 g2];rfl
 simp only [List.getElem_map,List.getElem_range,pol,e]
theorem aFb (d:Nat) (a b:Rat) (po:List aG) (h1:1<=d) (h6:d<=6) (cL:a<b) (ha:rl a<=64) (hb:rl b<=64) (hl:po.length=d+1) (hpo:∀ q∈po,sf 7 q) (hQ:∀ q∈po.map cO,rv 7 q):ax an 39 [.agg [ai d,.list 3 ((bu d a b).map ah),.list 12 (po.map aY)]] (.list 3 [dU (d,bu d a b,po)]):=by
 have hk:=azy h1 h6 cL ha hb
 have iI:=lL d a b
 have kN:=adb (d:=d) ha hb
 have hC:(po.map cO).length=d+1:=by rw [dL,hl]
 have hw:∀ q∈po.map cO,0<q.w:=fun q hq=>by obtain⟨z,hz,rfl⟩:=cQ.1 hq;exact(hpo z hz).2.2
 have e:(po.map cO).map dW=po:=by
  rw [kU]
  exact(rz fun q hq=>aBF (hpo q hq).2.2).trans (List.map_id _)
 have main:=aqa d (bu d a b) [a,b] po (fun _=>po.map cO) 1 rfl aj ae ae kN (aJZ cL) (atf d (bu d a b) po hk ae) (aqh d (bu d a b) po 7 aj aj ae ae (fun x hx=>ba (kN x hx) aj) ae hpo)
  (fun i hi=>by
   obtain rfl:i=0:=by omega
   have:=aIX d a b a b (po.map cO) 7 h1 h6 gf cL gf ha hb ha hb hC aj aj hQ
   rw [aKh cL hC] at this
   exact this)
  (fun i hi=>by
   obtain rfl:i=0:=by omega
   exact akI d (bu d a b) _ 7 aj ae ae (fun x hx=>ba (kN x hx) aj) ae fun q hq=>⟨hQ q hq,hw q hq⟩)
 have e2:((List.range 1).map fun i=>((d,bu d ([a,b].getD i 0) ([a,b].getD (i+1) 0),((fun _=>po.map cO) i).map dW):dt))=[(d,bu d a b,po)]:=by
  show [((d,bu d a b,(po.map cO).map dW):dt)]=_
  rw [e]
 rw [e2] at main
 exact main
theorem asJ {d:Nat} {k:List Rat} {po:List aG} {a b:Rat} (h:iw d k po a b):ax an 39 [.agg [ai d,.list 3 (k.map ah),.list 12 (po.map aY)]] (.list 3 (((ix d k po).map dY).map dU)):=by
 obtain⟨D,N,c,hD,hN⟩:=h.c
 have hd:=h.dr.d1
 have h3:=h.dr.d3
 have ra:=uo h.dr.ca
 have rb:=uo h.dr.cb
 rcases h.dr.kn with⟨rfl,hl⟩ | ⟨t,g1,g2,ht,rfl,hl⟩
 ·rw [x9 hl]
  exact aFb d a b po hd ae h.dr.ab ae ae hl (c.okR (qJ hN) (qJ hD) aj) (agj c (qJ hN) (qJ hD) aj)
 ·rw [aaZ hl]
  have rt:=uo ht
  have hC:(po.map cO).length=d+2:=by rw [dL,hl]
  have hw:∀ q∈po.map cO,0<q.w:=fun q hq=>by obtain⟨z,hz,rfl⟩:=cQ.1 hq;exact c.p z hz
  obtain⟨E,e0,e1,e2⟩:=anH aj ht h.dr.ca h.dr.cb (ib g1) (ib g2) h.dr.ab
  have wA:=afO g1 g2 hC hw
  have wZ:=aeV g1 g2 hC hw
  have bA:=(ar5 g1 g2 hl c e0 e2).b4 wA (adg hN e1 h3) (adg hD e1 h3) aj
  have bZ:=(asH g1 g2 hl c e0 e2).b4 wZ (adg hN e1 h3) (adg hD e1 h3) aj
  exact aHU d a t b po 7 7 hd ae g1 g2 ae ae ae hl aj aj (c.okR (qJ hN) (qJ hD) aj) (fun q hq=>⟨ba (agj c (qJ hN) (qJ hD) aj q hq).1 aj,ba (agj c (qJ hN) (qJ hD) aj q hq).2.1 aj,ba (agj c (qJ hN) (qJ hD) aj q hq).2.2.1 aj,ba (agj c (qJ hN) (qJ hD) aj q hq).2.2.2 aj⟩) (aDw hd ae g1 g2 ae ae ae) (aB9 g1 g2) aj (fun q hq=>⟨bA q hq,wA q hq⟩) (fun q hq=>⟨bZ q hq,wZ q hq⟩) (by simp [kj];omega) (by simp [km];omega)
theorem iw.pk {d:Nat} {k:List Rat} {po:List aG} {a b:Rat} (h:iw d k po a b) {Dp:Nat} (wJ:Dp<=24):∀ q∈ix d k po,∃ D N,qK q Dp D N:=fun q hq=>by
 obtain⟨D,N,c,hD,hN⟩:=h.c
 obtain⟨E,e0,e1,hP⟩:=h.dr.pcs c
 have hp:=hP q hq
 have h7:(4294967296:Nat) ^ 7<=4294967296 ^ 80:=Nat.pow_le_pow_right aj aj
 have ra:=uo hp.ca
 have rb:=uo hp.cb
 obtain⟨qd,qa,qb,qp⟩:=q
 obtain rfl:qd=d:=hp.dd
 exact⟨_,_,aE8 h.dr.d1 h.dr.d3 hp.ab (by show rl qa<=30;exact ba ra aj) (by show rl qb<=30;exact ba rb aj) hp.l hp.c (yU (adg hN e1 h.dr.d3) h7) (yU (adg hD e1 h.dr.d3) h7) wJ⟩
theorem ade {d e:Nat} {k m:List Rat} {po pq:List aG} {a b a' b':Rat} (h:iw d k po a b) (g:iw e m pq a' b') (dn w:Nat) (wd:Rat) (hd:dn<=10) (hw:w<=4096) (hwd:rl wd<=100) (yt:ax an 37 [.agg [ai dn,ai w,ah wd]] (bL true)) :
  ax an 14 [.agg [ai d,.list 3 (k.map ah),.list 12 (po.map aY)],.agg [ai e,.list 3 (m.map ah),.list 12 (pq.map aY)],.agg [ai dn,ai w,ah wd]] (.bf [.list 4 ((kF dn w wd (ix d k po) (ix e m pq)).2.map fy),iL 0]):=by
 have h3:=h.dr.d3
 have g3:=g.dr.d3
 have hl:po.length<=d+2:=by rcases h.dr.kn with⟨_,e⟩ | ⟨_,_,_,_,_,e⟩<;>omega
 have gl:pq.length<=e+2:=by rcases g.dr.kn with⟨_,e⟩ | ⟨_,_,_,_,_,e⟩<;>omega
 have l1:=ajf d k po
 have l2:=ajf e m pq
 exact aJz d e k m po pq ae ae h.z g.z _ _ ae ae dn w wd hd hw hwd yt (asJ h) (asJ g) (h.pk ae) (g.pk ae)
theorem iw.cells {d e:Nat} {k m:List Rat} {po pq:List aG} {a b a' b':Rat} (h:iw d k po a b) (g:iw e m pq a' b') {dn w:Nat} {wd:Rat} (hd:dn<=24):∀ c∈(kF dn w wd (ix d k po) (ix e m pq)).2,ans c:=avw fun p hp q hq x v hx _=>by
 obtain⟨_,_,kp⟩:=h.pk hd p hp
 obtain⟨_,_,kq⟩:=g.pk hd q hq
 exact aHl hd kp.ab kq.ab kp.ra kp.rb kq.ra kq.rb hx
theorem aij {d:Nat} {a t b:Rat} (h1:1<=d) (h3:d<=3) (cm:a<t) (du:t<b) {v:List Rat} (hv:v.length=d+2):cZ (bR d a t b) d d v (ay d t)=cZ (bR d a t b) d (d+1) v (ay d t):=by
 have h:=aq4 (s:=t) h1 h3 cm du hv
 rw [adQ du rfl,show (1:Rat)-0=1 by decide +kernel,af2] at h
 rw [<-h,if_pos rfl,List.replicate_zero,ng,Nat.sub_zero]
theorem nY.all {d:Nat} {k:List Rat} {po:List aG} {a b s:Rat} {D N:Nat} (h:nY d k po a b) (c:jW po D N):∀ q∈ix d k po,rN (q.a,q.b) s->tJ q s=gr d k po s:=fun q hq hs=>by
 rcases h.kn with⟨rfl,hl⟩ | ⟨t,g1,g2,ht,rfl,hl⟩
 ·have hk:=lL d a b
  have e:ik d (bu d a b) s=d:=by unfold ik;rw [if_pos ae]
  rw [x9 hl] at hq
  rw [gS.1 hq]
  unfold gr
  rw [e]
  exact(aq9 h.d1 h.d3 h.ab hl).symm
 ·have hk:=pJ d a t b
  have hC:(po.map cO).length=d+2:=by rw [dL,hl]
  have hw:∀ q∈po.map cO,0<q.w:=fun q hq=>by obtain⟨z,hz,rfl⟩:=cQ.1 hq;exact c.p z hz
  have e2:(bR d a t b).getD (d+1) 0=t:=by rw [eT _ _ _ _ _ ae,if_neg ae,if_pos ae]
  have hA:tJ ⟨d,a,t,(kj d a t b (po.map cO)).map dW⟩ s=vi (bR d a t b) d d po s:=ast h.d1 h.d3 g1 h.ab hl (afO g1 g2 hC hw)
  have hZ:tJ ⟨d,t,b,(km d a t b (po.map cO)).map dW⟩ s=vi (bR d a t b) d (d+1) po s:=asj h.d1 h.d3 g1 g2 hl (aeV g1 g2 hC hw)
  rw [aaZ hl] at hq
  simp only [fx,jy,or_false] at hq
  unfold gr
  rcases hq with rfl | rfl
  ·rw [hA]
   have xr:s<=t:=hs.2
   by_cases g:s<t
   ·have e:ik d (bR d a t b) s=d:=by unfold ik;rw [if_neg ae,e2,if_pos g]
    rw [e]
   ·obtain rfl:s=t:=by grind
    have e:ik d (bR d a s b) s=d+1:=by unfold ik;rw [if_neg ae,e2,if_neg g]
    rw [e]
    unfold vi
    rw [aij h.d1 h.d3 g1 g2 (by rw [mC,hl]),aij h.d1 h.d3 g1 g2 (by rw [kY,hl]),aij h.d1 h.d3 g1 g2 (by rw [kY,hl]),aij h.d1 h.d3 g1 g2 (by rw [kY,hl])]
  ·have kT:t<=s:=hs.1
   have e:ik d (bR d a t b) s=d+1:=by unfold ik;rw [if_neg ae,e2,if_neg cj]
   rw [hZ,e]
theorem apf {q:eX} {R:Nat} (hc:ow q.po q.d R) (cL:q.a<q.b) {σ:Sp} (h0:0<=σ.1) (hl:σ.1<σ.2) (h1:σ.2<=1) (t:Rat) :
  jq (dy q (bn q.a q.b σ)) ((t-(bn q.a q.b σ).1)/((bn q.a q.b σ).2-(bn q.a q.b σ).1))=tJ q t:=by
 have bH:(bn q.a q.b σ).1<(bn q.a q.b σ).2:=y7 cL hl
 have eC:dy q (bn q.a q.b σ)=lJ q.po σ.1 σ.2:=by
  unfold dy
  rw [show ((bn q.a q.b σ).1-q.a)/(q.b-q.a)=σ.1 from abF cL σ.1,show ((bn q.a q.b σ).2-q.a)/(q.b-q.a)=σ.2 from abF cL σ.2]
 rw [eC,aJ3 hc h0 cj cj h1]
 unfold tJ
 congr 1
 have hW:q.b-q.a≠0:=by grind
 have hD:(bn q.a q.b σ).2-(bn q.a q.b σ).1=(q.b-q.a)*(σ.2-σ.1):=by
  show q.a+(q.b-q.a)*σ.2-(q.a+(q.b-q.a)*σ.1)=_
  grind
 have hD0:(bn q.a q.b σ).2-(bn q.a q.b σ).1≠0:=by grind
 have e1:(t-(bn q.a q.b σ).1)/((bn q.a q.b σ).2-(bn q.a q.b σ).1)*((bn q.a q.b σ).2-(bn q.a q.b σ).1)=t-(bn q.a q.b σ).1:=kf hD0
 have e2:(t-q.a)/(q.b-q.a)*(q.b-q.a)=t-q.a:=kf hW
 have e3:(bn q.a q.b σ).1=q.a+(q.b-q.a)*σ.1:=rfl
 have e4:(σ.1+(t-(bn q.a q.b σ).1)/((bn q.a q.b σ).2-(bn q.a q.b σ).1)*(σ.2-σ.1))*(q.b-q.a)=(t-q.a)/(q.b-q.a)*(q.b-q.a):=by
  rw [e2]
  rw [hD] at e1
  rw [hD,e3]
  rw [e3] at e1
  generalize (t-(q.a+(q.b-q.a)*σ.1))/((q.b-q.a)*(σ.2-σ.1))=z at *
  grind
 have e5:=congrArg (·/(q.b-q.a)) e4
 simp only [vO hW] at e5
 exact e5
theorem avP {p q:eX} {Dp D N D' N':Nat} (hp:qK p Dp D N) (hq:qK q Dp D' N') (wJ:Dp<=23) {σ τ:Sp} (hs:kZ Dp σ) (ht:kZ Dp τ) (h0:(m9 p q [bn p.a p.b σ] [bn q.a q.b τ]).2.1≠0) :
  (∀ t u t' u',rN (bn p.a p.b σ) t->rN (bn q.a q.b τ) u->rN (bn p.a p.b σ) t'->rN (bn q.a q.b τ) u'->tJ p t=tJ q u->tJ p t'=tJ q u'->t=t'/\u=u') /\
  ((m9 p q [bn p.a p.b σ] [bn q.a q.b τ]).2.1=3->∀ t u,rN (bn p.a p.b σ) t->rN (bn q.a q.b τ) u->tJ p t=tJ q u->t≠(bn p.a p.b σ).1/\t≠(bn p.a p.b σ).2/\u≠(bn q.a q.b τ).1/\u≠(bn q.a q.b τ).2):=by
 have h1:=adB hp wJ hs
 have h2:=adB hq wJ ht
 have bH:(bn p.a p.b σ).1<(bn p.a p.b σ).2:=y7 hp.ab hs.2.2.2.1
 have aah:(bn q.a q.b τ).1<(bn q.a q.b τ).2:=y7 hq.ab ht.2.2.2.1
 have pe:=fun t=>apf hp.c hp.ab hs.2.2.1 hs.2.2.2.1 hs.2.2.2.2 t
 have qe:=fun t=>apf hq.c hq.ab ht.2.2.1 ht.2.2.2.1 ht.2.2.2.2 t
 have eK:(m9 p q [bn p.a p.b σ] [bn q.a q.b τ]).2.1=0\/(m9 p q [bn p.a p.b σ] [bn q.a q.b τ]).2.1=jQ (mN ((bn p.a p.b σ).2-(bn p.a p.b σ).1) (dy p (bn p.a p.b σ))) (mN ((bn q.a q.b τ).2-(bn q.a q.b τ).1) (dy q (bn q.a q.b τ))) (o7 p (bn p.a p.b σ)) (o7 q (bn q.a q.b τ)) ((dy p (bn p.a p.b σ)).map aG.p) ((dy q (bn q.a q.b τ)).map aG.p):=by
  show (rZ _ _ _).2.1=0\/(rZ _ _ _).2.1=_
  unfold rZ
  split
  ·exact .inr rfl
  ·exact .inl rfl
 have eK:=eK.resolve_left h0
 rw [eK] at h0 ⊢
 generalize bn p.a p.b σ=S at *
 generalize bn q.a q.b τ=T at *
 have pw:0<S.2-S.1:=by grind
 have qw:0<T.2-T.1:=by grind
 refine⟨fun t u t' u' a1 a2 a3 a4 g1 g2=>?_,fun hk t u a1 a2 g=>?_⟩
 ·rw [<-pe,<-qe] at g1 g2
  have hh:=azb h1.cv h2.cv pw qw h0 (zh bH a1.1 a1.2) (zh bH a3.1 a3.2) (zh aah a2.1 a2.2) (zh aah a4.1 a4.2) g1 g2
  have cn:∀ w x y z:Rat,0<w->(x-z)/w=(y-z)/w->x=y:=fun w x y z hw e=>by
   have oL:(x-z)/w*w=x-z:=kf cj
   have tG:(y-z)/w*w=y-z:=kf cj
   rw [e,tG] at oL
   grind
  exact⟨cn _ _ _ _ pw hh.1,cn _ _ _ _ qw hh.2⟩
 ·rw [<-pe,<-qe] at g
  have hh:=aHb h1.cv.c h2.cv.c hk (zh bH a1.1 a1.2) (zh aah a2.1 a2.2) g
  refine⟨fun e=>hh.1 (adQ bH e),fun e=>hh.2.1 (acG bH e),fun e=>hh.2.2.1 (adQ aah e),fun e=>hh.2.2.2 (acG aah e)⟩
structure aKb (d:Nat) (k:List Rat) (po:List aG) (a b:Rat) (e:Nat) (m:List Rat) (pq:List aG) (a' b':Rat) (s r:Sp) (K:Nat):Prop where
 r1:rl s.1<=100
 r2:rl s.2<=100
 r3:rl r.1<=100
 r4:rl r.2<=100
 l1:s.1<s.2
 l2:r.1<r.2
 i1:a<=s.1
 i2:s.2<=b
 i3:a'<=r.1
 i4:r.2<=b'
 once:K≠1->∀ t u t' u',rN s t->rN r u->rN s t'->rN r u'->gr d k po t=gr e m pq u->gr d k po t'=gr e m pq u'->t=t'/\u=u'
 ends:K=3->∀ t u,rN s t->rN r u->gr d k po t=gr e m pq u->t≠s.1/\t≠s.2/\u≠r.1/\u≠r.2
theorem nY.dom {d:Nat} {k:List Rat} {po:List aG} {a b:Rat} (h:nY d k po a b):∀ q∈ix d k po,a<=q.a/\q.b<=b:=fun q hq=>by
 rcases h.kn with⟨rfl,hl⟩ | ⟨t,g1,g2,ht,rfl,hl⟩
 ·rw [x9 hl] at hq
  rw [gS.1 hq]
  exact⟨gf,gf⟩
 ·rw [aaZ hl] at hq
  simp only [fx,jy,or_false] at hq
  rcases hq with rfl | rfl
  ·exact⟨gf,ib g2⟩
  ·exact⟨ib g1,gf⟩
theorem iw.once {d e:Nat} {k m:List Rat} {po pq:List aG} {a b a' b':Rat} (h:iw d k po a b) (g:iw e m pq a' b') {dn w:Nat} {wd:Rat} (hd:dn<=23):∀ c∈(kF dn w wd (ix d k po) (ix e m pq)).2,∃ s r,c.1=[s]/\c.2.1=[r]/\aKb d k po a b e m pq a' b' s r c.2.2.1:=avw fun p hp q hq x v hx hv=>by
 obtain⟨D,N,c,_,_⟩:=h.c
 obtain⟨D',N',c',_,_⟩:=g.c
 obtain⟨_,_,kp⟩:=h.pk (show dn<=24 by omega) p hp
 obtain⟨_,_,kq⟩:=g.pk (show dn<=24 by omega) q hq
 obtain⟨σ,τ,i,j,ex,f,rF,hle,hs,hr⟩:=hx
 have up:∀ {n:Nat} {s:Sp},n<=dn->kZ n s->kZ dn s:=fun hn h=>⟨h.1.le hn,h.2.1.le hn,h.2.2⟩
 have hs:=up hle hs
 have hr:=up hle hr
 have g1:=hs.rl ae
 have g2:=hr.rl ae
 have ip:=h.dr.dom p hp
 have iq:=g.dr.dom q hq
 have oL:=adv kp.ab hs.2.2.1 (show σ.1<=1 by have:=hs.2.2.2;grind)
 have tG:=adv kp.ab (show 0<=σ.2 by have:=hs.2.2;grind) hs.2.2.2.2
 have q3':=adv kq.ab hr.2.2.1 (show τ.1<=1 by have:=hr.2.2.2;grind)
 have q4':=adv kq.ab (show 0<=τ.2 by have:=hr.2.2;grind) hr.2.2.2.2
 have eh:∀ t,rN (bn p.a p.b σ) t->tJ p t=gr d k po t:=fun t ht=>h.dr.all c p hp ⟨gR oL.1 ht.1,gR ht.2 tG.2⟩
 have eg:∀ t,rN (bn q.a q.b τ) t->tJ q t=gr e m pq t:=fun t ht=>g.dr.all c' q hq ⟨gR q3'.1 ht.1,gR ht.2 q4'.2⟩
 have hK:(nN 1 x v).2.2.1≠1->v.2.1≠0/\(nN 1 x v).2.2.1=v.2.1/\v=m9 p q [bn p.a p.b σ] [bn q.a q.b τ]:=fun hk=>by
  have nu:lC v≠1:=hk
  unfold lC at nu
  by_cases z:v.2.1=0
  ·rw [if_pos z] at nu;exact absurd rfl nu
  ·refine⟨z,?_,?_⟩
   ·show lC v=v.2.1
    unfold lC;rw [if_neg z]
   ·rcases hv with e0 | e0
    ·rw [e0] at z;exact absurd rfl z
    ·rw [e0,ex];rfl
 refine⟨bn p.a p.b σ,bn q.a q.b τ,by unfold nN;rw [ex];rfl,by unfold nN;rw [ex];rfl,?_⟩
 refine⟨?_,?_,?_,?_,y7 kp.ab hs.2.2.2.1,y7 kq.ab hr.2.2.2.1,gR ip.1 oL.1,gR tG.2 ip.2,gR iq.1 q3'.1,gR q4'.2 iq.2,fun hk=>?_,fun hk=>?_⟩
 ·have:=sH kp.ra kp.rb g1.1;show rl (p.a+(p.b-p.a)*σ.1)<=_;omega
 ·have:=sH kp.ra kp.rb g1.2;show rl (p.a+(p.b-p.a)*σ.2)<=_;omega
 ·have:=sH kq.ra kq.rb g2.1;show rl (q.a+(q.b-q.a)*τ.1)<=_;omega
 ·have:=sH kq.ra kq.rb g2.2;show rl (q.a+(q.b-q.a)*τ.2)<=_;omega
 ·obtain⟨z,_,ev⟩:=hK hk
  rw [ev] at z
  have main:=(avP kp kq hd hs hr z).1
  exact fun t u t' u' a1 a2 a3 a4 k1 k2=>main t u t' u' a1 a2 a3 a4 (by rw [eh t a1,eg u a2,k1]) (by rw [eh t' a3,eg u' a4,k2])
 ·obtain⟨z,z2,ev⟩:=hK (by rw [hk];decide)
  have z3:v.2.1=3:=z2.symm.trans hk
  rw [ev] at z z3
  have main:=(avP kp kq hd hs hr z).2 z3
  exact fun t u a1 a2 k1=>main t u a1 a2 (by rw [eh t a1,eg u a2,k1])
theorem anG {F:Nat->Nat->Rat} {c:Rat} {v u z:List Rat} (hu:u.length=v.length) (hz:z.length=v.length) (h:∀ i,i<v.length->z.getD i 0=v.getD i 0+c*u.getD i 0):∀ n i,i<v.length->(cG F z n).getD i 0=(cG F v n).getD i 0+c*(cG F u n).getD i 0
 | 0,i,hi=>h i hi
 | n+1,i,hi=>by
  have a:=anG (F:=F) hu hz h n i hi
  have b:=anG (F:=F) hu hz h n (i-1) ae
  rw [cG,cG,cG,u6 _ _ _ _ (by rw [uC];omega),u6 _ _ _ _ (by rw [uC];omega),u6 _ _ _ _ (by rw [uC];omega),a,b]
  split
  ·grind
  ·rfl
theorem aHh {k:List Rat} {d pc:Nat} {c:Rat} {v u z args:List Rat} (hu:u.length=v.length) (hz:z.length=v.length) (hl:pc+1<=v.length) (hp:d<=pc) (h:∀ i,i<v.length->z.getD i 0=v.getD i 0+c*u.getD i 0):cZ k d pc z args=cZ k d pc v args+c*cZ k d pc u args:=by
 unfold cZ
 have g:∀ (w:List Rat) i,i<d+1->((w.drop (pc-d)).take (d+1)).getD i 0=w.getD (pc-d+i) 0:=fun w i hi=>by
  simp only [bp,List.getElem?_take,List.getElem?_drop,if_pos hi]
 have len:∀ w:List Rat,w.length=v.length->((w.drop (pc-d)).take (d+1)).length=d+1:=fun w hw=>by rw [List.length_take,List.length_drop];omega
 refine anG (by rw [len u hu,len v rfl]) (by rw [len z hz,len v rfl]) (fun i hi=>?_) d d (by rw [len v rfl];omega)
 rw [len v rfl] at hi
 rw [g _ _ hi,g _ _ hi,g _ _ hi]
 exact h _ ae
theorem azO (T:V3) (po:List aG) {i:Nat} (h:i<po.length):(po.map (fg T)).getD i default=fg T (po.getD i default):=by
 rw [bp,g8,b7 h,bp,b7 h];rfl
theorem ajH (T:V3) (po:List aG) (k i:Nat):(a8 (po.map (fg T)) k).getD i 0=(a8 po k).getD i 0+T.at k*(aL po).getD i 0:=by
 by_cases h:i<po.length
 ·rw [xo (by rw [dL];exact h),xo h,aav h,azO T po h]
  show (po.getD i default).w*(lM (po.getD i default).p T).at k=_
  rw [akp];grind
 ·rw [yy (p:=a8 (po.map (fg T)) k) (by rw [kY,dL];omega),yy (p:=a8 po k) (by rw [kY];omega),yy (p:=aL po) (by rw [mC];omega)];grind
theorem aeu (T:V3) (po:List aG):aL (po.map (fg T))=aL po:=by unfold aL;rw [kU];rfl
theorem adl {n w t:Rat} (hw:w≠0):(n+t*w)/w=n/w+t:=by
 rw [iV,iV,Rat.add_mul,Rat.mul_assoc,Rat.mul_inv_cancel _ hw,pI]
def nR (T:V3) (q:eX):eX:=⟨q.d,q.a,q.b,q.po.map (fg T)⟩
theorem avd {T:V3} {k:List Rat} {d pc:Nat} {po:List aG} {args:List Rat} (hw:cZ k d pc (aL po) args≠0) (hl:pc+1<=po.length) (hp:d<=pc):dW (mX k d pc ((po.map (fg T)).map cO) args)=fg T (dW (mX k d pc (po.map cO) args)):=by
 obtain⟨m0,m1,m2,m3⟩:=acT po
 obtain⟨n0,n1,n2,n3⟩:=acT (po.map (fg T))
 have g:∀ j,cZ k d pc (a8 (po.map (fg T)) j) args=cZ k d pc (a8 po j) args+T.at j*cZ k d pc (aL po) args:=fun j =>
  aHh (by rw [kY,mC]) (by rw [kY,kY,dL]) (by rw [kY];exact hl) hp fun i _=>ajH T po j i
 unfold mX
 rw [m0,m1,m2,m3,n0,n1,n2,n3,aeu,g,g,g]
 show (⟨⟨_/_,_/_,_/_⟩,_⟩:aG)=⟨⟨_/_+T.x,_/_+T.y,_/_+T.z⟩,_⟩
 rw [adl hw,adl hw,adl hw]
 rfl
theorem au0 {α β γ:Type} {l:List α} {f g:α->β} {k:β->γ} {m:γ->γ} (h:∀ j∈l,k (f j)=m (k (g j))):(l.map f).map k=((l.map g).map k).map m:=by
 rw [kU,kU,kU]
 exact rz h
theorem ays {d:Nat} {k:List Rat} {po:List aG} {a b:Rat} {D N:Nat} (h:nY d k po a b) (c:jW po D N) (T:V3):ix d k (po.map (fg T))=(ix d k po).map (nR T):=by
 rcases h.kn with⟨rfl,hl⟩ | ⟨t,g1,g2,ht,rfl,hl⟩
 ·rw [x9 hl,x9 (by rw [dL,hl])];rfl
 ·have hC:(po.map cO).length=d+2:=by rw [dL,hl]
  have hw:∀ q∈po.map cO,0<q.w:=fun q hq=>by obtain⟨z,hz,rfl⟩:=cQ.1 hq;exact c.p z hz
  have wA:=afO g1 g2 hC hw
  have wZ:=aeV g1 g2 hC hw
  have m3:=(acT po).2.2.2
  rw [aaZ hl,aaZ (by rw [dL,hl])]
  have eA:(kj d a t b ((po.map (fg T)).map cO)).map dW=((kj d a t b (po.map cO)).map dW).map (fg T):=by
   unfold kj at wA ⊢
   refine au0 fun j hj=>?_
   have hp:=wA _ (cQ.2 ⟨j,hj,rfl⟩)
   have hp:0<cZ (bR d a t b) d d ((po.map cO).map (·.w)) (ay (d-j) a++ay j t):=hp
   rw [m3] at hp
   exact avd cj ae (bq _)
  have eZ:(km d a t b ((po.map (fg T)).map cO)).map dW=((km d a t b (po.map cO)).map dW).map (fg T):=by
   unfold km at wZ ⊢
   refine au0 fun j hj=>?_
   have hp:=wZ _ (cQ.2 ⟨j,hj,rfl⟩)
   have hp:0<cZ (bR d a t b) d (if j=0 then d else d+1) ((po.map cO).map (·.w)) (ay (d-j) t++ay j b):=hp
   rw [m3] at hp
   exact avd cj (by split<;>omega) (by split<;>omega)
  rw [eA,eZ];rfl
theorem aFs {po:List aG} {d R R':Nat} {T:V3} (h:ow po d R) (h':ow (po.map (fg T)) d R') {x y:Rat} (iO:0<=x) (fh:x<1) (jE:0<=y) (ke:y<=1):lJ (po.map (fg T)) x y=(lJ po x y).map (fg T):=by
 have hl:=h.hl
 unfold lJ
 rw [dL,kU]
 refine rz fun j hj=>?_
 have hj:=List.mem_range.1 hj
 have hp:=ahf h iO fh jE ke (j:=j) ae
 have g:∀ k,(eH (a8 (po.map (fg T)) k) x y).getD j 0=(eH (a8 po k) x y).getD j 0+T.at k*(eH (aL po) x y).getD j 0:=fun k=>by
  rw [acB h' fh k ae,acB h fh k ae,aeG h fh ae]
  have e:(fun i=>(a8 (po.map (fg T)) k).getD i 0)=fun i=>1*(a8 po k).getD i 0+T.at k*(aL po).getD i 0:=funext fun i=>by rw [ajH];grind
  rw [e,aBZ,Rat.one_mul]
 show wM (po.map (fg T)) x y j=fg T (wM po x y j)
 unfold wM
 rw [g,g,g,aeu]
 show (⟨⟨_/_,_/_,_/_⟩,_⟩:aG)=⟨⟨_/_+T.x,_/_+T.y,_/_+T.z⟩,_⟩
 have aX:(eH (aL po) x y).getD j 0≠0:=by grind
 rw [adl aX,adl aX,adl aX]
 rfl
theorem api {c:Rat} {v u z:List Rat} (hu:u.length=v.length) (hz:z.length=v.length) (h:∀ i,i<v.length->z.getD i 0=v.getD i 0+c*u.getD i 0):sq z=fun k=>sq v k+c*sq u k:=by
 funext k
 unfold sq
 rw [hu,hz]
 by_cases hk:k<v.length
 ·rw [h k hk];grind
 ·rw [yy (p:=z) ae,yy (p:=v) ae,yy (p:=u) ae];grind
theorem aJX {c:Rat} {v u z:List Rat} (h2:2<=v.length) (hu:u.length=v.length) (hz:z.length=v.length) (h:∀ i,i<v.length->z.getD i 0=v.getD i 0+c*u.getD i 0) (i:Nat) (hi:i<(cX v).length):(cX z).getD i 0=(cX v).getD i 0+c*(cX u).getD i 0:=by
 rw [wX,if_neg ae] at hi
 rw [aee ae,aee ae,aee ae,hu,hz,h i ae,h (i+1) ae]
 grind
theorem axQ:∀ (n:Nat) (f:Nat->Rat),sm (n+1) f=sm (n+1) fun i=>f (n-i)
 | 0,f=>rfl
 | n+1,f=>by
  have a:=axQ n fun i=>f (i+1)
  have b:sm (n+1) (fun i=>f (n+1-i))=sm (n+1) fun i=>f (n-i+1):=uc _ _ _ fun i hi=>by rw [show n+1-i=n-i+1 by omega]
  rw [afF,a]
  show _=sm (n+1) (fun i=>f (n+1-i))+f (n+1-(n+1))
  rw [b,Nat.sub_self,Rat.add_comm]
theorem aFJ (f g:Nat->Rat) (k:Nat):cf f g k=cf g f k:=by
 unfold cf
 rw [axQ]
 exact uc _ _ _ fun i hi=>by rw [show k-(k-i)=i by omega,oW]
theorem au7 (c:Rat) (f g h:Nat->Rat) (k:Nat):cf (fun i=>f i+c*g i) h k=cf f h k+c*cf g h k:=by
 unfold cf
 rw [<-ajY,<-aeM]
 exact uc _ _ _ fun i _=>by grind
theorem ar1 {A B:List Rat} (h:B.length=A.length) (k:Nat):sq (te (·-·) A B) k=sq A k-sq B k:=by
 unfold sq
 rw [aaw,h]
 by_cases hk:k<A.length
 ·rw [amy hk];grind
 ·rw [yy (p:=te (·-·) A B) (by rw [aaw];omega),yy (p:=A) ae,yy (p:=B) ae];grind
theorem axR {po:List aG} (T:V3) (h2:2<=po.length) (k:Nat):fq (po.map (fg T)) k=fq po k:=by
 have l1:(a8 po k).length=po.length:=kY _ _
 have l2:(aL po).length=po.length:=mC _
 have l3:(a8 (po.map (fg T)) k).length=po.length:=by rw [kY,dL]
 have hn:=api (c:=T.at k) (v:=a8 po k) (u:=aL po) (z:=a8 (po.map (fg T)) k) ae ae fun i _=>ajH T po k i
 have dl:∀ {l:List Rat},l.length=po.length->(cX l).length=po.length-1:=fun h=>by rw [wX,if_neg ae,h]
 have hd:=api (c:=T.at k) (v:=cX (a8 po k)) (u:=cX (aL po)) (z:=cX (a8 (po.map (fg T)) k)) (by rw [dl l1,dl l2]) (by rw [dl l1,dl l3]) fun i hi=>aJX ae ae ae (fun i _=>ajH T po k i) i hi
 unfold fq
 rw [aeu]
 have axd:∀ {p q:List Rat},p.length=po.length->q.length=po.length->(lf (cX p) q).length=(lf p (cX q)).length:=fun hp hq=>by rw [ua,ua,dl hp,dl hq,hp,hq];omega
 have aAw:(lf (cX (a8 (po.map (fg T)) k)) (aL po)).length=(lf (cX (a8 po k)) (aL po)).length:=by rw [ua,ua,dl l1,dl l3]
 refine aBo (by rw [aaw,aaw,aAw]) fun j=>?_
 rw [ar1 (axd l3 l2).symm,ar1 (axd l1 l2).symm,aeX (by rw [dl l3];omega) ae,aeX ae (by rw [dl l2];omega),aeX (by rw [dl l1];omega) ae,aeX ae (by rw [dl l2];omega),hn,hd,au7,au7,aFJ (sq (cX (aL po))) (sq (aL po))]
 grind
theorem aaT (a b c:Rat):eQ (a+c) (b+c)=eQ a b+c/\fb (a+c) (b+c)=fb a b+c:=by
 unfold eQ fb
 constructor<;>split<;>split<;>grind
theorem asR (T:V3) (l:List V3) (k:Nat):∀ n,n<l.length->iF (l.map fun p=>lM p T) k n=((iF l k n).1+T.at k,(iF l k n).2+T.at k):=fun n=>by
 have g:∀ i,i<l.length->((l.map fun p=>lM p T).getD i default).at k=(l.getD i default).at k+T.at k:=fun i hi=>by
  rw [bp,g8,b7 hi,bp,b7 hi]
  exact akp _ _ _
 induction n with
 | zero=>intro h;rw [iF,iF,g 0 h]
 | succ n ih =>
  intro h
  rw [iF,iF,ih ae,g _ h]
  unfold ga
  simp only [(aaT _ _ _).1,(aaT _ _ _).2]
theorem aJt (s t:Rat × Rat) (c:Rat):lh (s.1+c,s.2+c) (t.1+c,t.2+c)=lh s t:=by
 unfold lh
 simp only [(aaT _ _ _).1,(aaT _ _ _).2]
 exact decide_eq_decide.2 ⟨fun h=>by grind,fun h=>by grind⟩
theorem aAP (T:V3) {l m:List V3} (hl:0<l.length) (hm:0<m.length):meB (pG (l.map fun p=>lM p T)) (pG (m.map fun p=>lM p T))=meB (pG l) (pG m):=by
 show (lh (iF _ 0 _) (iF _ 0 _) && lh (iF _ 1 _) (iF _ 1 _) && lh (iF _ 2 _) (iF _ 2 _))=(lh (iF _ 0 _) (iF _ 0 _) && lh (iF _ 1 _) (iF _ 1 _) && lh (iF _ 2 _) (iF _ 2 _))
 rw [dL,dL]
 simp only [asR T l _ (l.length-1) ae,asR T m _ (m.length-1) ae,aJt]
theorem avr {p z:List Rat} {c:Rat} (hz:z.length=p.length) (h:∀ i,i<p.length->z.getD i 0=p.getD i 0+c):∀ k,0<k->k<=p.length->ko z k=((ko p k).1+c,(ko p k).2+c)
 | 0,h0,_=>absurd h0 (arM _)
 | k+1,_,hk=>by
  rw [ko,ko,h k ae]
  by_cases e:k=0
  ·rw [if_pos e,if_pos e]
   unfold ga
   simp only [(aaT _ _ _).1,(aaT _ _ _).2]
  ·rw [if_neg e,if_neg e,avr hz h k ae ae]
   unfold ga
   simp only [(aaT _ _ _).1,(aaT _ _ _).2]
theorem aqC (r T:V3) {l:List V3} (hl:0<l.length):mz r (l.map fun p=>lM p T)=((mz r l).1+b9 r T,(mz r l).2+b9 r T):=by
 unfold mz eF
 simp only [dL]
 refine avr aM (fun i hi=>?_) _ hl aM
 have hi:i<l.length:=by simpa using hi
 simp only [bp,g8,b7 hi]
 show 0+r.x*(l[i].x+T.x)+r.y*(l[i].y+T.y)+r.z*(l[i].z+T.z)=0+r.x*l[i].x+r.y*l[i].y+r.z*l[i].z+(0+r.x*T.x+r.y*T.y+r.z*T.z)
 grind
theorem ah4 (r T:V3) {l m:List V3} (hl:0<l.length) (hm:0<m.length):iK r (l.map fun p=>lM p T) (m.map fun p=>lM p T)=iK r l m:=by
 unfold iK zr
 rw [aqC r T hl,aqC r T hm]
 exact adZ (by show _+_-(_+_)=_;grind) (by show _+_-(_+_)=_;grind)
theorem aEt (T:V3) (X Y:oP) (u v:V3) {l m:List V3} (hl:0<l.length) (hm:0<m.length):jQ X Y u v (l.map fun p=>lM p T) (m.map fun p=>lM p T)=jQ X Y u v l m:=by
 have g:∀ (l:List V3) i,i<l.length->[(l.map fun p=>lM p T).getD i default]=[l.getD i default].map fun p=>lM p T:=fun l i hi=>by
  rw [bp,g8,b7 hi,bp,b7 hi];rfl
 unfold jQ aa6 abv
 rw [dL,dL,g l 0 hl,g l _ ae,g m 0 hm,g m _ ae,ah4 _ T aM hm,ah4 _ T aM hm,ah4 _ T hl aM,ah4 _ T hl aM]
theorem aqE {q:eX} {T:V3} {R R':Nat} (h:ow q.po q.d R) (h':ow (q.po.map (fg T)) q.d R') (cL:q.a<q.b) {σ:Sp} (h0:0<=σ.1) (hl:σ.1<σ.2) (h1:σ.2<=1):dy (nR T q) (bn q.a q.b σ)=(dy q (bn q.a q.b σ)).map (fg T):=by
 unfold dy nR
 show lJ (q.po.map (fg T)) (((bn q.a q.b σ).1-q.a)/(q.b-q.a)) (((bn q.a q.b σ).2-q.a)/(q.b-q.a))=_
 rw [show ((bn q.a q.b σ).1-q.a)/(q.b-q.a)=σ.1 from abF cL σ.1,show ((bn q.a q.b σ).2-q.a)/(q.b-q.a)=σ.2 from abF cL σ.2]
 exact aFs h h' h0 cj cj h1
theorem avK (T:V3) (po:List aG):(po.map (fg T)).map aG.p=(po.map aG.p).map fun p=>lM p T:=by rw [kU,kU];rfl
theorem aBl {p q:eX} {T:V3} {Dp D N D' N' E M E' M':Nat} (hp:qK p Dp D N) (hq:qK q Dp D' N') (kG:qK (nR T p) Dp E M) (hq':qK (nR T q) Dp E' M') (wJ:Dp<=23) {σ τ:Sp} (hs:kZ Dp σ) (ht:kZ Dp τ) :
  m9 (nR T p) (nR T q) [bn p.a p.b σ] [bn q.a q.b τ]=m9 p q [bn p.a p.b σ] [bn q.a q.b τ]:=by
 have h1:=(adB hp wJ hs).len
 have h2:=(adB hq wJ ht).len
 have e1:=aqE hp.c kG.c hp.ab hs.2.2.1 hs.2.2.2.1 hs.2.2.2.2
 have e2:=aqE hq.c hq'.c hq.ab ht.2.2.1 ht.2.2.2.1 ht.2.2.2.2
 have d1:=hp.c.hd
 have d2:=hq.c.hd
 have sp:∀ (W:Rat) (po:List aG),2<=po.length->mN W (po.map (fg T))=mN W po:=fun W po h=>by
  unfold mN qE
  simp only [axR T h,aeu]
 have tn:∀ (W x:Rat) (po:List aG),2<=po.length->ad2 W (po.map (fg T)) x=ad2 W po x:=fun W x po h=>by
  unfold ad2
  simp only [axR T h,aeu]
 have u1:o7 (nR T p) (bn p.a p.b σ)=o7 p (bn p.a p.b σ):=by
  unfold o7
  rw [e1,tn _ _ _ ae]
 have u2:o7 (nR T q) (bn q.a q.b τ)=o7 q (bn q.a q.b τ):=by
  unfold o7
  rw [e2,tn _ _ _ ae]
 show rZ (pG ((dy (nR T p) (bn p.a p.b σ)).map aG.p)) (pG ((dy (nR T q) (bn q.a q.b τ)).map aG.p)) (jQ (mN ((bn p.a p.b σ).2-(bn p.a p.b σ).1) (dy (nR T p) (bn p.a p.b σ))) (mN ((bn q.a q.b τ).2-(bn q.a q.b τ).1) (dy (nR T q) (bn q.a q.b τ))) (o7 (nR T p) (bn p.a p.b σ)) (o7 (nR T q) (bn q.a q.b τ)) ((dy (nR T p) (bn p.a p.b σ)).map aG.p) ((dy (nR T q) (bn q.a q.b τ)).map aG.p))=rZ (pG ((dy p (bn p.a p.b σ)).map aG.p)) (pG ((dy q (bn q.a q.b τ)).map aG.p)) (jQ (mN ((bn p.a p.b σ).2-(bn p.a p.b σ).1) (dy p (bn p.a p.b σ))) (mN ((bn q.a q.b τ).2-(bn q.a q.b τ).1) (dy q (bn q.a q.b τ))) (o7 p (bn p.a p.b σ)) (o7 q (bn q.a q.b τ)) ((dy p (bn p.a p.b σ)).map aG.p) ((dy q (bn q.a q.b τ)).map aG.p))
 rw [u1,u2,e1,e2,sp _ _ ae,sp _ _ ae,avK,avK,aEt T _ _ _ _ kR kR]
 unfold rZ
 rw [aAP T kR kR]
theorem aHE {D W:Nat} {wd:Rat} {lk lk':ky} {x:fN} {st:List fN} {n:Nat} {cs:List ij} (h:lk (x.1.take 1) (x.1.drop 1)=lk' (x.1.take 1) (x.1.drop 1)):mL D W 1 wd lk (x :: st,n,cs)=mL D W 1 wd lk' (x :: st,n,cs):=by
 rw [mL,mL,h]
theorem aj4 {D W:Nat} {wd:Rat} {lk lk':ky} {I:fN->Prop} (hH:∀ x,I x->x.2.1<D->I (qg x)/\I (qL x)) (hk:∀ x,I x->lk (x.1.take 1) (x.1.drop 1)=lk' (x.1.take 1) (x.1.drop 1)):∀ (k:Nat) (s:RunT),(∀ x∈s.1,I x)->ue D W 1 wd lk k s=ue D W 1 wd lk' k s
 | 0,_,_=>rfl
 | k+1,([],n,cs),h=>by
  rw [ue,ue]
  exact aj4 hH hk k _ h
 | k+1,(x :: st,n,cs),h=>by
  have hx:=h x aM
  have dj:∀ y∈st,I y:=fun y hy=>h y (by simp [hy])
  rw [ue,ue,<-aHE (hk x hx)]
  refine aj4 hH hk k _ ?_
  rw [mL]
  split
  ·exact dj
  ·split
   ·exact dj
   ·split
    ·exact dj
    ·rename_i kS
     have bH:x.2.1<D:=by
      rcases gC x.2.1 D with g | g
      ·exact g
      ·exact absurd (aoh (x:=x) (wd:=wd) g) kS
     have hh:=hH x hx bH
     intro y hy
     simp only [fx] at hy
     rcases hy with rfl | rfl | hy
     ·exact hh.1
     ·exact hh.2
     ·exact dj y hy
theorem as6 {d w:Nat} {wd:Rat} {lk:dt->dt->ky} {dm:dt->Sp} {f:eX->eX} {p:eX}:∀ (l:List eX) (s:oS),(∀ q∈l,∀ s,pg d w wd lk dm (dY (f p)) (dY (f q)) s=pg d w wd lk dm (dY p) (dY q) s)->nw d w wd lk dm (dY (f p)) ((l.map f).map dY) s=nw d w wd lk dm (dY p) (l.map dY) s
 | [],_,_=>rfl
 | q :: l,s,h=>by
  show nw d w wd lk dm (dY (f p)) ((l.map f).map dY) (pg d w wd lk dm (dY (f p)) (dY (f q)) s)=nw d w wd lk dm (dY p) (l.map dY) (pg d w wd lk dm (dY p) (dY q) s)
  rw [h q aM s]
  exact as6 l _ fun q hq=>h q (by simp [hq])
theorem aoW {d w:Nat} {wd:Rat} {lk:dt->dt->ky} {dm:dt->Sp} {f:eX->eX} {m:List eX}:∀ (l:List eX) (s:oS),(∀ p∈l,∀ q∈m,∀ s,pg d w wd lk dm (dY (f p)) (dY (f q)) s=pg d w wd lk dm (dY p) (dY q) s)->og d w wd lk dm ((l.map f).map dY) ((m.map f).map dY) s=og d w wd lk dm (l.map dY) (m.map dY) s
 | [],_,_=>rfl
 | p :: l,s,h=>by
  show og d w wd lk dm ((l.map f).map dY) ((m.map f).map dY) (nw d w wd lk dm (dY (f p)) ((m.map f).map dY) s)=og d w wd lk dm (l.map dY) (m.map dY) (nw d w wd lk dm (dY p) (m.map dY) s)
  rw [as6 m s (h p aM)]
  exact aoW l _ fun p hp=>h p (by simp [hp])
theorem aBg {d w:Nat} {wd:Rat} {T:V3} {lA lB:List eX} (hd:d<=23) (hA:∀ p∈lA,(∃ D N,qK p d D N)/\∃ D N,qK (nR T p) d D N) (hB:∀ p∈lB,(∃ D N,qK p d D N)/\∃ D N,qK (nR T p) d D N):kF d w wd (lA.map (nR T)) (lB.map (nR T))=kF d w wd lA lB:=by
 refine aoW lA _ fun p hp q hq s=>?_
 obtain⟨⟨_,_,kp⟩,⟨_,_,kp'⟩⟩:=hA p hp
 obtain⟨⟨_,_,kq⟩,⟨_,_,kq'⟩⟩:=hB q hq
 unfold pg
 simp only [aar]
 show (xb d w 1 wd (m9 (nR T p) (nR T q)) ([([(p.a,p.b)]++[(q.a,q.b)],0,ay 2 0)],s.1,s.2)).2=_
 unfold xb
 rw [aj4 (I:=wI d p.a p.b q.a q.b) (lk':=m9 p q) (fun x=>alh) (fun x hx=>?_) _ _ (fun x hx=>?_)]
 ·obtain⟨σ,τ,i,j,ex,f,rF,hle,hs,hr⟩:=hx
  have up:∀ {n:Nat} {s:Sp},n<=d->kZ n s->kZ d s:=fun hn h=>⟨h.1.le hn,h.2.1.le hn,h.2.2⟩
  rw [ex]
  exact aBl kp kq kp' kq' hd (up hle hs) (up hle hr)
 ·rw [gS.1 hx]
  exact anP ..
theorem ao4 (a b:Rat):fb a b=fb b a:=by unfold fb;grind
theorem axX (a b:Rat):eQ a b=eQ b a:=by unfold eQ;grind
theorem aHW (a b:Rat):eQ (-a) (-b)=-fb a b:=by unfold eQ fb;grind
theorem aCi (a b:Rat):fb (-a) (-b)=-eQ a b:=by unfold eQ fb;grind
theorem aGg (a b c:Rat):fb (fb a b) c=fb (fb a c) b:=by unfold fb;grind
theorem aDq (a b c:Rat):eQ (eQ a b) c=eQ (eQ a c) b:=by unfold eQ;grind
theorem amM (s t:Rat × Rat):lh s t=lh t s:=by unfold lh;rw [axX,ao4]
theorem aAN (a b:oP):meB a b=meB b a:=by unfold meB;rw [amM a.x,amM a.y,amM a.z]
theorem ah8 (s t:Rat × Rat):ga (fJ s) (fJ t)=fJ (ga s t):=by
 unfold ga fJ
 exact adZ (aCi _ _) (aHW _ _)
theorem aiT (s t u:Rat × Rat):ga (ga s t) u=ga (ga s u) t:=adZ (aGg _ _ _) (aDq _ _ _)
theorem apv (s t:Rat × Rat):ga s t=ga t s:=adZ (ao4 _ _) (axX _ _)
theorem aiE (x:Rat):((-x,-x):Rat × Rat)=fJ (x,x):=rfl
theorem aqL (a b:Rat × Rat):pR a (fJ b)=fJ (pR a b):=by
 unfold pR
 show ga (ga (ga (a.1*-b.2,a.1*-b.2) (a.1*-b.1,a.1*-b.1)) (a.2*-b.2,a.2*-b.2)) (a.2*-b.1,a.2*-b.1)=_
 have e:∀ x y:Rat,x*-y=-(x*y):=fun x y=>by grind
 simp only [e,aiE,ah8]
 rw [apv (a.1*b.2,a.1*b.2),aiT _ (a.2*b.2,a.2*b.2)]
theorem avj (a b:Rat × Rat):pR (fJ a) b=fJ (pR a b):=by
 unfold pR
 show ga (ga (ga (-a.2*b.1,-a.2*b.1) (-a.2*b.2,-a.2*b.2)) (-a.1*b.1,-a.1*b.1)) (-a.1*b.2,-a.1*b.2)=_
 have e:∀ x y:Rat,-x*y=-(x*y):=fun x y=>by grind
 simp only [e,aiE,ah8]
 congr 1
 rw [aiT _ (a.2*b.2,a.2*b.2),apv (a.2*b.1,a.2*b.1),aiT _ (a.2*b.2,a.2*b.2),aiT _ (a.2*b.1,a.2*b.1)]
theorem aGn (s:Rat × Rat):jX (fJ s) 0=jX s 0:=by
 unfold jX fJ
 rw [avn]
 congr 1
 ·exact decide_eq_decide.2 ⟨fun h=>by grind,fun h=>by grind⟩
 ·exact decide_eq_decide.2 ⟨fun h=>by grind,fun h=>by grind⟩
theorem aDz (a b c d:Rat × Rat):wx b (fJ a) d (fJ c)=fJ (wx a (fJ b) c (fJ d)):=by
 unfold wx
 rw [aqL,avj,aqL,avj]
 have m:pR b c=pR b c:=rfl
 unfold zr fJ
 exact adZ cj cj
theorem auC {p z:List Rat} (hz:z.length=p.length) (h:∀ i,i<p.length->z.getD i 0=-p.getD i 0):∀ k,0<k->k<=p.length->ko z k=fJ (ko p k)
 | 0,h0,_=>absurd h0 (arM _)
 | k+1,_,hk=>by
  rw [ko,ko,h k ae]
  by_cases e:k=0
  ·rw [if_pos e,if_pos e,aiE,ah8]
  ·rw [if_neg e,if_neg e,auC hz h k ae ae,aiE,ah8]
theorem at1 {r r':V3} (h:∀ q,b9 r' q=-b9 r q) {l:List V3} (hl:0<l.length):mz r' l=fJ (mz r l):=by
 unfold mz eF
 simp only [dL]
 refine auC aM (fun i hi=>?_) _ hl aM
 have hi:i<l.length:=by simpa using hi
 simp only [bp,g8,b7 hi]
 exact h _
theorem aiR {r r':V3} (h:∀ q,b9 r' q=-b9 r q) {l m:List V3} (hl:0<l.length) (hm:0<m.length):iK r' l m=iK r m l:=by
 unfold iK
 rw [at1 h hl,at1 h hm]
 unfold zr fJ
 exact adZ cj cj
theorem akG (u v q:V3):b9 (oE (mV v u) (mR v u) mF) q=-b9 (oK (mV u v) (mR u v) mF) q:=by
 have hc:wE v u=-wE u v:=by unfold wE;grind
 have hq:∀ x:Rat,1 / -x=-(1/x):=fun x=>by
  by_cases h:x=0
  ·rw [h];decide +kernel
  ·have h2:-x≠0:=fun e=>h cj
   have a:=kf (a:=1) h2
   have b:=kf (a:=1) h
   have c:(1 / -x+1/x)*x=0:=by grind
   rcases Rat.mul_eq_zero.1 c with d | d
   ·grind
   ·exact absurd d h
 rw [azZ,aEz]
 unfold gX
 rw [agY,agY,hc,hq (-wE u v)]
 grind
theorem auS (u v q:V3):b9 (oK (mV v u) (mR v u) mF) q=-b9 (oE (mV u v) (mR u v) mF) q:=by
 have:=akG v u q
 grind
theorem aGT (X Y:oP) (u v:V3) {l m:List V3} (hl:0<l.length) (hm:0<m.length):jQ Y X v u m l=jQ X Y u v l m:=by
 have hc:wE v u=-wE u v:=by unfold wE;grind
 have e1:aa6 v u m l=abv u v l m:=by
  unfold aa6 abv
  rw [aiR (akG u v) aM hl,aiR (akG u v) aM hl]
 have e2:abv v u m l=aa6 u v l m:=by
  unfold aa6 abv
  rw [aiR (auS u v) hm aM,aiR (auS u v) hm aM]
 unfold jQ
 rw [aDz X.x Y.x X.y Y.y,aGn,agY,agY,hc,e1,e2,avn]
 have e3:(- -wE u v=0)=(-wE u v=0):=propext ⟨fun h=>by grind,fun h=>by grind⟩
 simp only [e3]
theorem aJE {p q:eX} {s t:Sp} (hp:0<p.po.length) (hq:0<q.po.length):m9 q p [t] [s]=m9 p q [s] [t]:=by
 have g:∀ (p:eX) (s:Sp),0<p.po.length->0<((dy p s).map aG.p).length:=fun p s h=>by
  unfold dy lJ
  simpa using h
 show rZ (pG ((dy q t).map aG.p)) (pG ((dy p s).map aG.p)) (jQ (mN (t.2-t.1) (dy q t)) (mN (s.2-s.1) (dy p s)) (o7 q t) (o7 p s) ((dy q t).map aG.p) ((dy p s).map aG.p))=rZ (pG ((dy p s).map aG.p)) (pG ((dy q t).map aG.p)) (jQ (mN (s.2-s.1) (dy p s)) (mN (t.2-t.1) (dy q t)) (o7 p s) (o7 q t) ((dy p s).map aG.p) ((dy q t).map aG.p))
 rw [aGT _ _ _ _ (g p s hp) (g q t hq)]
 unfold rZ
 rw [aAN]
def fl (p q:eX):List ij:=if (m9 p q [(p.a,p.b)] [(q.a,q.b)]).1 then [] else [([(p.a,p.b)],[(q.a,q.b)],lC (m9 p q [(p.a,p.b)] [(q.a,q.b)]),kV (m9 p q [(p.a,p.b)] [(q.a,q.b)]))]
def swC (c:ij):ij:=(c.2.1,c.1,c.2.2)
theorem azm {p q:eX} (hp:0<p.po.length) (hq:0<q.po.length):fl q p=(fl p q).map swC:=by
 unfold fl
 rw [aJE hp hq]
 split<;>rfl
theorem azV (p q:eX):(fl p q).length<=1:=by unfold fl;split<;>simp
theorem mt0 {p q:eX} {n:Nat} {cs:List ij} (hn:n<40):pg 0 40 0 (fun c e=>m9 (ji c) (ji e)) (fun c=>((ji c).a,(ji c).b)) (dY p) (dY q) (n,cs)=(n+1,cs++fl p q):=by
 unfold pg
 simp only [aar]
 show (ue 0 40 1 0 (m9 p q) 1 ([([(p.a,p.b)]++[(q.a,q.b)],0,ay 2 0)],n,cs)).2=_
 rw [ue,ue,mL,if_neg ae]
 show (if (m9 p q [(p.a,p.b)] [(q.a,q.b)]).1=true then _ else _:RunT).2=_
 unfold fl
 split
 ·rw [ng]
 ·rw [if_pos (by unfold pz;simp)];rfl
theorem awT:∀ {lA lB:List eX},(lA.length=1\/lA.length=2)->(lB.length=1\/lB.length=2)->(kF 0 40 0 lA lB).2=lA.flatMap fun p=>lB.flatMap fun q=>fl p q:=fun {lA lB} hA hB=>by
 match lA,lB with
 | [p],[q]=>unfold kF;simp [og,nw,mt0]
 | [p],[q,q']=>unfold kF;simp [og,nw,mt0]
 | [p,p'],[q]=>unfold kF;simp [og,nw,mt0]
 | [p,p'],[q,q']=>unfold kF;simp [og,nw,mt0]
 | [],_=>simp at hA
 | _ :: _ :: _ :: _,_=>simp at hA
 | [_],[]=>simp at hB
 | [_,_],[]=>simp at hB
 | [_],_ :: _ :: _ :: _=>simp at hB
 | [_,_],_ :: _ :: _ :: _=>simp at hB
theorem aCD {lA lB:List eX} (hA:lA.length=1\/lA.length=2) (hB:lB.length=1\/lB.length=2) (pA:∀ p∈lA,0<p.po.length) (pB:∀ p∈lB,0<p.po.length) :
  (kF 0 40 0 lA lB).2.length=(kF 0 40 0 lB lA).2.length/\∀ c,(kF 0 40 0 lA lB).2=[c]->(kF 0 40 0 lB lA).2=[swC c]:=by
 rw [awT hA hB,awT hB hA]
 have t:∀ {p q},p∈lA->q∈lB->fl q p=(fl p q).map swC:=fun hp hq=>azm (pA _ hp) (pB _ hq)
 have key:∀ p q,fl p q=[]\/∃ c,fl p q=[c]:=fun p q=>by
  have:=azV p q
  match h:fl p q with
  | []=>exact .inl rfl
  | [c]=>exact .inr ⟨c,rfl⟩
  | _ :: _ :: _=>rw [h] at this;simp at this
 match lA,lB with
 | [p],[q] =>
  have t1:=t (p:=p) (q:=q) aM aM
  rcases key p q with e | ⟨c,e⟩<;>rw [e] at t1<;>simp [e,t1]
 | [p],[q,q'] =>
  have t1:=t (p:=p) (q:=q) aM aM
  have t2:=t (p:=p) (q:=q') aM aM
  rcases key p q with e | ⟨c,e⟩<;>rcases key p q' with f | ⟨c',f⟩<;>rw [e] at t1<;>rw [f] at t2<;>simp [e,f,t1,t2]
 | [p,p'],[q] =>
  have t1:=t (p:=p) (q:=q) aM aM
  have t2:=t (p:=p') (q:=q) aM aM
  rcases key p q with e | ⟨c,e⟩<;>rcases key p' q with f | ⟨c',f⟩<;>rw [e] at t1<;>rw [f] at t2<;>simp [e,f,t1,t2]
 | [p,p'],[q,q'] =>
  have t1:=t (p:=p) (q:=q) aM aM
  have t2:=t (p:=p) (q:=q') aM aM
  have t3:=t (p:=p') (q:=q) aM aM
  have t4:=t (p:=p') (q:=q') aM aM
  rcases key p q with e | ⟨c,e⟩<;>rcases key p q' with f | ⟨c',f⟩<;>rcases key p' q with g | ⟨c2,g⟩<;>rcases key p' q' with h | ⟨c3,h⟩<;>rw [e] at t1<;>rw [f] at t2<;>rw [g] at t3<;>rw [h] at t4<;>simp [e,f,g,h,t1,t2,t3,t4]
 | [],_=>simp at hA
 | _ :: _ :: _ :: _,_=>simp at hA
 | [_],[]=>simp at hB
 | [_,_],[]=>simp at hB
 | [_],_ :: _ :: _ :: _=>simp at hB
 | [_,_],_ :: _ :: _ :: _=>simp at hB
theorem aG2 {x y z u v:LV} (h1:x.pure=true) (h2:y.pure=true) (h3:z.pure=true) (h4:u.pure=true) (h5:v.pure=true):∀ g,(LV.bf [x,y,z,u,v]).bV g=.bf [x,y,z,u,v]:=fun g=>by
 simp only [LV.bV,dA,LV.di g x h1,LV.di g y h2,LV.di g z h3,LV.di g u h4,LV.di g v h5]
theorem aKm {P:Program} {L:St} {a1 a2 a3 a4 t:Nat} {T1 T2 T3 T4:TypeId} {b1 b2 b3 b4 s1 s2 s3 s4:Nat} {x1 x2 x3 x4 x5:LV} {m1 m2 m3 m4:Bool} {n1 n2 n3 n4:Nat} {g1 g2 g3 g4:Bool}
  (h1:L.slot a1=.aD b1 s1 0 0) (k1:L.heap b1=some ⟨s1,[x1],m1⟩) (z1:x1.aw=s1) (c1:x1.at 0 n1 g1=some x1) (y1:bE P T1 n1 g1) (w1:x1.pure=true)
  (h2:L.slot a2=.aD b2 s2 0 0) (k2:L.heap b2=some ⟨s2,[x2],m2⟩) (z2:x2.aw=s2) (c2:x2.at 0 n2 g2=some x2) (y2:bE P T2 n2 g2) (w2:x2.pure=true)
  (h3:L.slot a3=.aD b3 s3 0 0) (k3:L.heap b3=some ⟨s3,[x3],m3⟩) (z3:x3.aw=s3) (c3:x3.at 0 n3 g3=some x3) (y3:bE P T3 n3 g3) (w3:x3.pure=true)
  (h4:L.slot a4=.aD b4 s4 0 0) (k4:L.heap b4=some ⟨s4,[x4],m4⟩) (z4:x4.aw=s4) (c4:x4.at 0 n4 g4=some x4) (y4:bE P T4 n4 g4) (w4:x4.pure=true)
  (h5:L.slot t=x5) (w5:x5.pure=true):qc P [.cell a1 T1,.cell a2 T2,.cell a3 T3,.cell a4 T4,.tmp t] L (.bf [x1,x2,x3,x4,x5]) [] :=
 ⟨[x1,x2,x3,x4,x5],[x1,x2,x3,x4,x5],(L.cd []).heap,[],.cons ⟨b1,s1,0,0,_,x1,n1,g1,h1,k1,rfl,rfl,z1,c1,y1⟩ (.cons ⟨b2,s2,0,0,_,x2,n2,g2,h2,k2,rfl,rfl,z2,c2,y2⟩ (.cons ⟨b3,s3,0,0,_,x3,n3,g3,h3,k3,rfl,rfl,z3,c3,y3⟩ (.cons ⟨b4,s4,0,0,_,x4,n4,g4,h4,k4,rfl,rfl,z4,c4,y4⟩ (.cons h5 .nil)))),tb [] rfl,.cons (.cF (.pure w1)) (.cons (.cF (.pure w2)) (.cons (.cF (.pure w3)) (.cons (.cF (.pure w4)) (.cons (.cF (.pure w5)) .nil)))),List.nodup_nil,rfl,fun k b h=>by simp at h,rfl⟩
namespace aus
theorem aO {p q:Prop} (k:q) (e:p=q:=by simp only [e1,e2,e3,e4,p1,p2,p3,q1,q2,q3,l1,t0,t1,r1,r2,r3,r4,Nat.zero_add,Nat.reduceMul,Nat.reduceAdd,b1,b2,b3,b4,b5,b6,i1,i2,i3,i4,i5,i6,Nat.reduceBEq,h0,h1,uK,List.length_map,cN,List.set_cons_zero,List.set_cons_succ,Nat.reduceEqDiff,reduceIte,if_true,if_false,eN,eY,aV bl,aV bF,aV ar,cU,eu,LV.kill,bX];exact rfl):p:=e.mpr k
end aus
open aus in
theorem avu (d:Nat) (k:List Rat) (po:List aG) (a b:Rat) (iI:0<k.length) (hk9:k.length<=1000) (h0:k.getD 0 0=a) (h1:k.getD (k.length-1) 0=b):ax an 33 [.agg [ai d,.list 3 (k.map ah),.list 12 (po.map aY)]] (aE (a,b)):=by
 have gh:LV.pure (.agg [ai d,.list 3 (k.map ah),.list 12 (po.map aY)])=true:=by simp [LV.pure,aN,a7 ar,a7 bF]
 have uK:((k.length:Nat):Int).toNat-1=k.length-1:=by omega
 refine aW Tryz.func33 (ht:=(fun g=>LV.di g _ (ck.pure _))) ?_
 refine aZ ?_
 refine a9 13 aq ?_
 refine bD ?_
 refine ak rfl lK ?_
 refine aZ ?_
 exact uy
namespace avy
theorem aO {p q:Prop} (k:q) (e:p=q:=by simp only [e1,e2,e3,e4,p1,p2,p3,q1,q2,q3,l1,t0,t1,r1,r2,r3,r4,Nat.zero_add,Nat.reduceMul,Nat.reduceAdd,b1,b2,b3,b4,b5,b6,i1,i2,i3,i4,i5,i6,Nat.reduceBEq,fz0,afD,aea,agm,List.set_cons_zero,List.set_cons_succ,Nat.reduceEqDiff,reduceIte,if_true,if_false,eN,eY,aV bl,aV bF,aV ar,cU,eu,LV.kill,bX];exact rfl):p:=e.mpr k
end avy
open avy in
theorem aIB (l:List Int) (i j v:Int) (k1 k2 k3:Nat) (d e:Nat) (k m:List Rat) (po pq pf:List aG) (a b a' b' t u:Rat) (P Q:V3) (iI:0<k.length) (hk9:k.length<=1000) (xG:0<m.length) (hm9:m.length<=1000) (ha:k.getD 0 0=a) (hb:k.getD (k.length-1) 0=b) (ha':m.getD 0 0=a') (qm:m.getD (m.length-1) 0=b') (hNx:nO an 31 ⟨2,[jB l 0],true⟩ [.aD 0 2 0 0,iL 5] (iL v) ⟨2,[jB l k1],true⟩) (yn:nO an 32 ⟨2,[jB l k1],true⟩ [.aD 0 2 0 0,iL 3,iL 1,bL true] (.agg [ai d,.list 3 (k.map ah),.list 12 (po.map aY)]) ⟨2,[jB l k2],true⟩) (zy:nO an 32 ⟨2,[jB l k2],true⟩ [.aD 0 2 0 0,iL 3,iL 1,bL true] (.agg [ai e,.list 3 (m.map ah),.list 12 (pq.map aY)]) ⟨2,[jB l k3],true⟩) (hW1:ax an 18 [aE (a,b),iL i] (ah t)) (hW2:ax an 18 [aE (a',b'),iL j] (ah u)) (hE1:ax an 19 [.agg [ai d,.list 3 (k.map ah),.list 12 (po.map aY)],ah t] (.bf [a5 P,iL 0])) (hE2:ax an 19 [.agg [ai e,.list 3 (m.map ah),.list 12 (pq.map aY)],ah u] (.bf [a5 Q,iL 0])) (hSh:ax an 34 [a5 Q,a5 P] (eG (nV (gI P Q)))) (hMv:ax an 28 [.agg [ai e,.list 3 (m.map ah),.list 12 (pq.map aY)],eG (nV (gI P Q))] (.agg [ai e,.list 3 (m.map ah),.list 12 ((pq.map (tL (nV (gI P Q)))).map aY)])) (hV1:v > 0->pf=(pq.map (tL (nV (gI P Q))))) (hV2:¬v > 0->pf=pq):ax an 10 [.list 1 (l.map fZ),iL i,iL j] (.bf [.agg [ai d,.list 3 (k.map ah),.list 12 (po.map aY)],.agg [ai e,.list 3 (m.map ah),.list 12 (pf.map aY)],ah t,ah u,bL (decide (v > 0))]):=by
 have gh:LV.pure (.agg [ai d,.list 3 (k.map ah),.list 12 (po.map aY)])=true:=by simp [LV.pure,aN,a7 ar,a7 bF,-kU]
 have hcq:LV.pure (.agg [ai e,.list 3 (m.map ah),.list 12 (pq.map aY)])=true:=by simp [LV.pure,aN,a7 ar,a7 bF,-kU]
 have wy:LV.pure (.agg [ai e,.list 3 (m.map ah),.list 12 (pf.map aY)])=true:=by simp [LV.pure,aN,a7 ar,a7 bF,-kU]
 have hcm:LV.pure (.agg [ai e,.list 3 (m.map ah),.list 12 ((pq.map (tL (nV (gI P Q)))).map aY)])=true:=by simp [LV.pure,aN,a7 ar,a7 bF,-kU]
 refine aW Tryz.func10 (ht:=(aG2 ah7 ah7 (ar.pure _) (ar.pure _) rfl)) ?_
 refine bG ?_
 refine aba [] rfl rfl (.cons et .nil) (aBW l) (dB l 0) rfl ?_
 refine aC ?_
 refine l7 1000353 rfl rfl rfl (dB l _) (.cons .ptr (.cons (.cF (.pure rfl)) .nil)) .ptr hNx rfl (dB l _) rfl ?_
 refine aZ ?_
 refine l7 1000353 rfl rfl rfl (dB l _) (.cons .ptr (.cons (.cF (.pure rfl)) (.cons (.cF (.pure rfl)) (.cons (.cF (.pure rfl)) .nil)))) .ptr yn rfl (dB l _) gh ?_
 refine av ?_
 refine l7 1000353 rfl rfl rfl (dB l _) (.cons .ptr (.cons (.cF (.pure rfl)) (.cons (.cF (.pure rfl)) (.cons (.cF (.pure rfl)) .nil)))) .ptr zy rfl (dB l _) hcq ?_
 refine aZ ?_
 refine a9 10 aq ?_
 refine av ?_
 refine cp aR (avu d k po a b iI hk9 ha hb) ?_
 refine av ?_
 refine cp au (hW1) ?_
 refine av ?_
 refine cp aR (avu e m pq a' b' xG hm9 ha' qm) ?_
 refine av ?_
 refine cp au (hW2) ?_
 refine bG ?_
 refine aH rfl ?_ ?_<;>intro ah5 h38
 ·obtain rfl:=hV1 h38
  refine aA ?_
  refine cp au (hE1) ?_
  refine bG ?_
  refine cp au (hE2) ?_
  refine bo ?_
  refine a9 5 aq ?_
  refine aQ ?_
  refine cp au (hSh) ?_
  refine fG rfl (.cons (.pure hcq) (.cons (.pure (dS.pure _)) .nil)) hMv ?_
  refine aA ?_
  refine alw ((((az.cr (t:=13) (b:=13) rfl rfl cs rfl gh).trans (az.cr (t:=14) (b:=14) rfl rfl (by rw [LV.mr _ _ wy];exact cs) (by rw [LV.mr _ _ wy];rfl) (by rw [LV.mr _ _ wy];exact wy))).trans (az.cr (t:=15) (b:=15) rfl rfl (by simp only [cU];exact ar.aw _) (by simp only [cU];exact ar.isAgg _) (by simp only [cU];exact ar.pure _))).trans (az.cr (t:=16) (b:=16) rfl rfl (by simp only [cU];exact ar.aw _) (by simp only [cU];exact ar.isAgg _) (by simp only [cU];exact ar.pure _))) ?_
  refine aO ?_
  refine iP 0 rfl rfl aq (.pure (.tE rfl gh rfl rfl)) (fun b=>LV.mr b _ gh) iQ ?_
  refine iP 1 rfl rfl aq (.pure (.tE rfl wy rfl rfl)) (fun b=>LV.mr b _ wy) iQ ?_
  refine iP 2 rfl rfl aq (.pure (.tE rfl (ar.pure _) (ar.aw _) (ar.isAgg _))) (fun b=>cU _ b) iQ ?_
  refine iP 3 rfl rfl aq (.pure (.tE rfl (ar.pure _) (ar.aw _) (ar.isAgg _))) (fun b=>cU _ b) iQ ?_
  refine iP 4 rfl rfl aq (.pure (.move _)) lD iQ ?_
  refine a6 5 _ aq rfl ?_
  refine av ?_
  refine aK ?_
  refine a6 6 _ aq rfl ?_
  refine av ?_
  refine aK ?_
  refine a6 7 _ aq rfl ?_
  refine av ?_
  refine aK ?_
  refine a6 8 _ aq rfl ?_
  refine av ?_
  refine aK ?_
  refine a6 9 _ aq rfl ?_
  refine av ?_
  refine aK ?_
  refine fW aq ?_
  refine aT ?_
  exact ar8
 ·obtain rfl:=hV2 h38
  refine aQ ?_
  refine alw ((((az.cr (t:=13) (b:=13) rfl rfl cs rfl gh).trans (az.cr (t:=14) (b:=14) rfl rfl (by rw [LV.mr _ _ wy];exact cs) (by rw [LV.mr _ _ wy];rfl) (by rw [LV.mr _ _ wy];exact wy))).trans (az.cr (t:=15) (b:=15) rfl rfl (by simp only [cU];exact ar.aw _) (by simp only [cU];exact ar.isAgg _) (by simp only [cU];exact ar.pure _))).trans (az.cr (t:=16) (b:=16) rfl rfl (by simp only [cU];exact ar.aw _) (by simp only [cU];exact ar.isAgg _) (by simp only [cU];exact ar.pure _))) ?_
  refine aO ?_
  refine iP 0 rfl rfl aq (.pure (.tE rfl gh rfl rfl)) (fun b=>LV.mr b _ gh) iQ ?_
  refine iP 1 rfl rfl aq (.pure (.tE rfl wy rfl rfl)) (fun b=>LV.mr b _ wy) iQ ?_
  refine iP 2 rfl rfl aq (.pure (.tE rfl (ar.pure _) (ar.aw _) (ar.isAgg _))) (fun b=>cU _ b) iQ ?_
  refine iP 3 rfl rfl aq (.pure (.tE rfl (ar.pure _) (ar.aw _) (ar.isAgg _))) (fun b=>cU _ b) iQ ?_
  refine iP 4 rfl rfl aq (.pure (.move _)) lD iQ ?_
  refine a6 5 _ aq rfl ?_
  refine av ?_
  refine aK ?_
  refine a6 6 _ aq rfl ?_
  refine av ?_
  refine aK ?_
  refine a6 7 _ aq rfl ?_
  refine av ?_
  refine aK ?_
  refine a6 8 _ aq rfl ?_
  refine av ?_
  refine aK ?_
  refine a6 9 _ aq rfl ?_
  refine av ?_
  refine aK ?_
  refine fW aq ?_
  refine aT ?_
  exact ar8
theorem az2 {α β:Type} [Inhabited α] (f:α->β) (l:List α) (d:α) {i:Nat} (h:i<l.length):(l.map f).take i++[f (l.getD i d)]=(l.map f).take (i+1):=by
 rw [zB,g8,bp,b7 h];rfl
namespace aoK
theorem aO {p q:Prop} (k:q) (e:p=q:=by simp only [e1,e2,e3,e4,p1,p2,p3,q1,q2,q3,l1,t0,t1,r1,r2,r3,r4,Nat.zero_add,Nat.reduceMul,Nat.reduceAdd,b1,b2,b3,b4,b5,b6,i1,i2,i3,i4,i5,i6,Nat.reduceBEq,gZ,iS,List.length_map,nt,nm,jK,List.length_cons,List.length_nil,List.nil_append,List.map_nil,List.take_nil,List.append_nil,aV ar,List.set_cons_zero,List.set_cons_succ,Nat.reduceEqDiff,reduceIte,if_true,if_false,eN,eY,aV bl,aV bF,aV ar,cU,eu,LV.kill,bX];exact rfl):p:=e.mpr k
end aoK
open aoK in
theorem aGB (l:List Int) (hl:l.length<=1000) (hb:∀ x∈l,-1000<=x/\x<=1000):ax an 68 [.list 1 (l.map fZ)] (.list 3 ((l.map fun x:Int=>(x:Rat)).map ah)):=by
 refine aW Tryz.func68 ?_
 have gZ:True:=trivial
 have iS:True:=trivial
 refine jI ?_
 refine lR (az.own (t:=3) 18 3 rfl rfl) ?_
 refine dV (fun(k:Nat) L=>((((St.mk L.slot (hp [(18,⟨3,((l.map fun x:Int=>(x:Rat)).take k).map ah,true⟩)])).put (some 0) (.list 1 (l.map fZ))).put (some 3) (.ref 18 3 0 k)).put (some 4) (ai k))) (fun k=>k<=l.length) (fun k=>l.length-k) 0 (b8 _) ?_
 rintro k L1 hk
 refine bD ?_
 refine aH rfl ?_ ?_<;>intro pZ h8
 ·have nv:k<l.length:=by omega
  have lX:=hb (l.getD k 0) (by rw [bp,b7 nv];exact qk nv)
  have iS:=az2 (fun x:Int=>(x:Rat)) l 0 nv
  have gZ:(((l.map fun x:Int=>(x:Rat)).take k).map ah).take k=((l.map fun x:Int=>(x:Rat)).take k).map ah:=dg zF
  have hlr:(l.map fun x:Int=>(x:Rat)).length=l.length:=dL ..
  refine bM ?_
  refine cp aR (so (l.getD k 0) ae ae) ?_
  refine av ?_
  refine bS rfl (.iJ (d:=18) (news:=[ah ((l.getD k 0):Rat)]) rfl rfl rfl rfl bz (.inl rfl) aj dI dI mq db rfl mY (.inl ⟨17,0,_,rfl,by decide,rfl,rfl,by simp,rfl,by simp [aN,ar.pure]⟩) bz bz aj) ?_
  refine aA ?_
  refine cM (az.kill _ 17) ?_
  refine av ?_
  refine ak rfl cV ?_
  refine aQ ?_
  exact jL (k+1) ae
 ·obtain rfl:k=l.length:=by omega
  have hE:(l.map fun x:Int=>(x:Rat)).take l.length=(l.map fun x:Int=>(x:Rat)):=dg (by rw [dL];exact bq _)
  simp only [hE]
  refine bG ?_
  exact o4 [18] rfl rfl (fI (l:=(l.map fun x:Int=>(x:Rat))) ar rfl rfl (by rw [dL]))
open iy in
theorem auB (p:V3):ax an 69 [a5 p,iL 1] (aY ⟨p,1⟩):=by
 have th:ax an 13 [iL 1] (ah 1):=so 1 aj aj
 refine aW Tryz.func69 (ht:=(fun g=>LV.di g _ (bF.pure _))) ?_
 refine aZ ?_
 refine a9 4 aq ?_
 refine aT ?_
 refine cp aR (th) ?_
 refine rG (abb (p:=p) (r:=1) rfl rfl) ?_
 refine aA ?_
 exact iG [] rfl rfl rfl cs (dZ cs rfl) uF (.pure pu)
def oQ (a b:V3):List aG:=[⟨a,1⟩,⟨b,1⟩]
open yV in
theorem aiv (x y:Int) (hx:-1000<=x/\x<=1000) (hy:-1000<=y/\y<=1000):ax an 30 [iL x,iL y] (a5 ⟨(x:Rat),(y:Rat),0⟩):=by
 refine aW Tryz.func30 (ht:=(fun r=>LV.di r _ (bl.pure _))) ?_
 refine bo ?_
 refine cp aR (so x ae ae) ?_
 refine av ?_
 refine cp aR (so y ae ae) ?_
 refine rG (ajK rfl rfl) ?_
 refine aA ?_
 exact tV
namespace apT
theorem aO {p q:Prop} (k:q) (e:p=q:=by simp only [e1,e2,e3,e4,p1,p2,p3,q1,q2,q3,l1,t0,t1,r1,r2,r3,r4,Nat.zero_add,Nat.reduceMul,Nat.reduceAdd,b1,b2,b3,b4,b5,b6,i1,i2,i3,i4,i5,i6,Nat.reduceBEq,eN,fz0,afD,List.getD_cons_zero,List.getD_cons_succ,List.set_cons_zero,List.set_cons_succ,Nat.reduceEqDiff,reduceIte,if_true,if_false,eN,eY,aV bl,aV bF,aV ar,cU,eu,LV.kill,bX];exact rfl):p:=e.mpr k
end apT
open apT in
theorem aqb (a b:V3):ax an 24 [a5 a,a5 b] (.agg [ai 1,.list 3 ((bu 1 0 1).map ah),.list 12 ((oQ a b).map aY)]):=by
 have uG:=fc ar 3 (bu 1 0 1)
 have hI4:ax an 68 [.list 1 (([0,0,1,1]:List Int).map fZ)] (.list 3 ((bu 1 0 1).map ah)):=by
  have:=aGB [0,0,1,1] aj aj
  rwa [show (([0,0,1,1]:List Int).map fun x:Int=>(x:Rat))=bu 1 0 1 from by decide +kernel] at this
 refine aW Tryz.func24 (ht:=(fun g=>LV.di g _ (by simp [LV.pure,aN,a7 ar,a7 bF]))) ?_
 refine bo ?_
 refine a9 8 aq ?_
 refine fL rfl rfl (.asT (a:=0) (b:=0) (c:=1) (f:=1) pP Tryz.underlying123 (show dp _ _ (fZ 0) from Z2) T2 rfl rfl rfl rfl aj aj) ?_
 refine aO ?_
 refine aid [5] rfl rfl (.cons (fI (l:=[0,0,1,1]) pP rfl rfl rfl) .nil) (hI4) ?_
 refine av ?_
 refine fG rfl (.cons (.pure (bl.pure a)) (.cons (.pure rfl) .nil)) (auB a) ?_
 refine av ?_
 refine fG rfl (.cons (.pure (bl.pure b)) (.cons (.pure rfl) .nil)) (auB b) ?_
 refine fL rfl rfl (.avN (a:=⟨a,1⟩) (b:=⟨b,1⟩) (z:=⟨⟨0,0,0⟩,0⟩) bF wB (show dp _ _ (aY ⟨⟨0,0,0⟩,0⟩) from Z42) uF rfl rfl aj aj) ?_
 refine bc ?_
 exact iG [11] rfl rfl rfl cs (dZ cs rfl) mj (.agg (.cons (.pure rfl) (.cons (.pure uG) (.cons (fI (l:=oQ a b) bF rfl rfl rfl) .nil))))
theorem aFt {x:Rat} (h:0<=x):cW x>=0:=by
 unfold cW
 split
 ·decide
 ·rw [if_neg cj];decide
def pcW (n:Int):Rat:=if n % 3=2 then((1:Int):Rat)/((1+n % 5:Int):Rat) else 0
open ajV in
theorem aih (d w:Nat) (wd:Rat) (hd:d<=24) (hw:w<=4096) (h0:0<=wd) (hr:rl wd<=100):ax an 37 [.agg [ai d,ai w,ah wd]] (bL true):=by
 have yt:=aCj wd ae
 have hSg:=yu wd ae
 have hp:LV.pure (.agg [ai d,ai w,ah wd])=true:=by simp [LV.pure,aN,ar.pure]
 refine aW Tryz.func37 ?_
 refine bG ?_
 refine ak (aP (v:=true) rfl rfl ((decide_eq_true ae)) rfl) jO ?_
 refine ak (aP (v:=true) rfl rfl ((decide_eq_true ae)) rfl) gg ?_
 refine ak (aP (v:=true) rfl rfl ((decide_eq_true ae)) rfl) (.bin rfl rfl rfl) ?_
 refine ak rfl (.ou rfl ((decide_eq_true ae))) ?_
 refine av ?_
 refine ak (aP (v:=true) rfl rfl ((decide_eq_true ae)) rfl) jO ?_
 refine ak (aP (v:=true) rfl rfl ((decide_eq_true ae)) rfl) gg ?_
 refine ak (aP (v:=true) rfl rfl ((decide_eq_true ae)) rfl) (.bin rfl rfl rfl) ?_
 refine ak rfl (.ou rfl ((decide_eq_true ae))) ?_
 refine av ?_
 refine ak (aP (v:=true) rfl rfl ((decide_eq_true ae)) rfl) jO ?_
 refine ak (aP (v:=true) rfl rfl ((decide_eq_true ae)) rfl) gg ?_
 refine ak (aP (v:=true) rfl rfl ((decide_eq_true ae)) rfl) (.bin rfl rfl rfl) ?_
 refine ak rfl (.ou rfl ((decide_eq_true ae))) ?_
 refine av ?_
 refine ak (aP (v:=true) rfl rfl ((decide_eq_true ae)) rfl) jO ?_
 refine ak (aP (v:=true) rfl rfl ((decide_eq_true ae)) rfl) gg ?_
 refine fG (aP (v:=true) rfl rfl ((decide_eq_true ae)) rfl) (.cons et .nil) (yt) ?_
 refine ak rfl (.ou rfl ((decide_eq_true ae))) ?_
 refine av ?_
 refine ak (aP (v:=true) rfl rfl ((rfl)) rfl) jO ?_
 refine ak (aP (v:=true) rfl rfl ((rfl)) rfl) gg ?_
 refine fG (aP (v:=true) rfl rfl ((rfl)) rfl) (.cons et .nil) (hSg) ?_
 refine ak (aP (v:=true) rfl rfl ((rfl)) rfl) (.bin rfl rfl rfl) ?_
 refine ak rfl (.ou rfl ((rfl))) ?_
 refine aA ?_
 refine dT (x:=bL (decide (cW wd>=0))) rfl ?_
 rw [show decide (cW wd>=0)=true from decide_eq_true (aFt h0)]
 exact .pure rfl
open iy in
theorem aJY (depth work width:Int) (dn wn:Nat) (kS:depth % 7=(dn:Int)) (hwn:work % 40=(wn:Int)):ax an 11 [iL depth,iL work,iL width] (.agg [ai dn,ai wn,ah (pcW width)]):=by
 have hM1:ax an 12 [iL depth,iL 7] (ai dn):=by
  have:=zO depth 7 aj aj
  rwa [kS] at this
 have hM2:ax an 12 [iL work,iL 40] (ai wn):=by
  have:=zO work 40 aj aj
  rwa [hwn] at this
 have h5a:=ta width (show (5:Int)≠0 by decide)
 have h5b:=sT width (show (0:Int)<5 by decide)
 refine aW Tryz.func11 (ht:=(fun g=>LV.di g _ (by simp [LV.pure,aN,ar.pure]))) ?_
 refine bo ?_
 refine cp au (hM1) ?_
 refine av ?_
 refine cp au (hM2) ?_
 refine ak rfl (show aF _ _ _ _ (.agg [ai dn,ai wn,ah 0]) from .build (zs:=[.v (.int .i64 0),.v (.int .i64 0),ah 0]) aeR Z35 (by simp only [apX];exact⟨⟨_,rfl,rfl,nK⟩,⟨_,rfl,rfl,nK⟩,fun _ h=>by cases h⟩)) ?_
 refine bo ?_
 refine cp au (zO width 3 aj aj) ?_
 refine aQ ?_
 refine aH rfl ?_ ?_<;>intro qI nG
 ·have hV:pcW width=((1:Int):Rat)/((1+width % 5:Int):Rat):=if_pos (by simpa using nG)
  refine aT ?_
  refine cp au (zO width 5 aj aj) ?_
  refine ak rfl yi ?_
  refine cp au (aby 1 (1+width % 5) ae ae ae ae ae) ?_
  refine bC ?_
  rw [hV]
  exact iG [] rfl rfl rfl cs (dZ cs rfl) T35 (.pure (by simp [LV.pure,aN,ar.pure]))
 ·have hV:pcW width=0:=if_neg (by simpa using nG)
  refine bD ?_
  rw [hV]
  exact iG [] rfl rfl rfl cs (dZ cs rfl) T35 (.pure (by simp [LV.pure,aN,ar.pure]))
theorem aHp (a b:V3):lM a (gI b a)=b:=by
 show (⟨_,_,_⟩:V3)=_
 simp only [gI]
 congr 1<;>grind
theorem nY.ends {d:Nat} {k:List Rat} {po:List aG} {a b:Rat} (h:nY d k po a b):0<k.length/\k.length<=1000/\k.getD 0 0=a/\k.getD (k.length-1) 0=b:=by
 have h3:=h.d3
 rcases h.kn with⟨rfl,hl⟩ | ⟨t,g1,g2,ht,rfl,hl⟩
 ·have hk:=lL d a b
  exact⟨ae,ae,by rw [iH _ _ _ _ ae,if_pos ae],by rw [hk,iH _ _ _ _ ae,if_neg ae]⟩
 ·have hk:=pJ d a t b
  exact⟨ae,ae,by rw [eT _ _ _ _ _ ae,if_pos ae],by rw [hk,eT _ _ _ _ _ ae,if_neg ae,if_neg ae]⟩
theorem avU (x y z w:Int) (hx:x.natAbs<=6) (hy:y.natAbs<=6) (hz:z.natAbs<=6) (hw:w.natAbs<=6):iw 1 (bu 1 0 1) (oQ ⟨(x:Rat),(y:Rat),0⟩ ⟨(z:Rat),(w:Rat),0⟩) 0 1:=by
 have g:∀ u v:Int,u.natAbs<=6->v.natAbs<=6->smP ⟨⟨(u:Rat),(v:Rat),0⟩,1⟩:=fun u v hu hv=>by
  refine⟨fun j=>?_,acP (z:=1) aj,(by show (0:Rat)<1;decide +kernel),rfl⟩
  match j with
  | 0=>exact((acP hu).scale (E:=12)).mono aj
  | 1=>exact((acP hv).scale (E:=12)).mono aj
  | j+2=>exact ahC _ _
 refine iw.of ⟨by decide,by decide,by decide +kernel,ahC _ _,awu.mono aj,.inl ⟨rfl,rfl⟩⟩ fun q hq=>?_
 unfold oQ at hq
 simp only [fx,jy,or_false] at hq
 rcases hq with rfl | rfl
 ·exact g _ _ hx hy
 ·exact g _ _ hz hw
theorem aw1:(kF 0 9 0 [(⟨1,0,1,oQ (⟨((0:Int):Rat),((0:Int):Rat),0⟩:V3) (⟨((2:Int):Rat),((2:Int):Rat),0⟩:V3)⟩:eX)] [(⟨1,0,1,oQ (⟨((0:Int):Rat),((2:Int):Rat),0⟩:V3) (⟨((2:Int):Rat),((0:Int):Rat),0⟩:V3)⟩:eX)]).2=[(([sG],[sG],3,0):ij)]:=by decide +kernel
theorem aw2:∃ x r,(kF 2 100 0 [(⟨1,0,1,oQ (⟨((0:Int):Rat),((0:Int):Rat),0⟩:V3) (⟨((2:Int):Rat),((2:Int):Rat),0⟩:V3)⟩:eX)] [(⟨1,0,1,oQ (⟨((0:Int):Rat),((0:Int):Rat),0⟩:V3) (⟨((2:Int):Rat),((2:Int):Rat),0⟩:V3)⟩:eX)]).2=x :: r/\x.2.2.1=1:=by
 have h:0<((kF 2 100 0 [(⟨1,0,1,oQ (⟨((0:Int):Rat),((0:Int):Rat),0⟩:V3) (⟨((2:Int):Rat),((2:Int):Rat),0⟩:V3)⟩:eX)] [(⟨1,0,1,oQ (⟨((0:Int):Rat),((0:Int):Rat),0⟩:V3) (⟨((2:Int):Rat),((2:Int):Rat),0⟩:V3)⟩:eX)]).2).length/\(((kF 2 100 0 [(⟨1,0,1,oQ (⟨((0:Int):Rat),((0:Int):Rat),0⟩:V3) (⟨((2:Int):Rat),((2:Int):Rat),0⟩:V3)⟩:eX)] [(⟨1,0,1,oQ (⟨((0:Int):Rat),((0:Int):Rat),0⟩:V3) (⟨((2:Int):Rat),((2:Int):Rat),0⟩:V3)⟩:eX)]).2).getD 0 default).2.2.1=1:=by decide +kernel
 generalize (kF 2 100 0 [(⟨1,0,1,oQ (⟨((0:Int):Rat),((0:Int):Rat),0⟩:V3) (⟨((2:Int):Rat),((2:Int):Rat),0⟩:V3)⟩:eX)] [(⟨1,0,1,oQ (⟨((0:Int):Rat),((0:Int):Rat),0⟩:V3) (⟨((2:Int):Rat),((2:Int):Rat),0⟩:V3)⟩:eX)]).2=l at h
 match l,h with
 | x :: r,h=>exact⟨x,r,rfl,h.2⟩
theorem aIE (l:List Int) (i j:Int) (hl5:l.length<=500) (hi:-9223372036854775808<=i/\i<=9223372036854775807) (hj:-9223372036854775808<=j/\j<=9223372036854775807):∃ (d:Nat) (k:List Rat) (po:List aG) (a b:Rat) (e:Nat) (m:List Rat) (pf:List aG) (a2 b2 tt uu:Rat) (mt:Bool),
  (c19 po/\c19 pf)/\iw d k po a b/\iw e m pf a2 b2/\(a<=tt/\tt<=b/\rl tt<=10)/\(a2<=uu/\uu<=b2/\rl uu<=10)/\(mt=true->gr d k po tt=gr e m pf uu) /\
  ax an 10 [.list 1 (l.map fZ),iL i,iL j] (.bf [.agg [ai d,.list 3 (k.map ah),.list 12 (po.map aY)],.agg [ai e,.list 3 (m.map ah),.list 12 (pf.map aY)],ah tt,ah uu,bL mt]):=by
 have k1:=od (l:=l) hl5 (b8 500)
 have k2:xE l (bJ l 0) 3 1<=500:=arx hl5 _ _ (arz l (bJ l 0) (n:=3) (m:=1) hl5 k1 aj aj aj).2.2.1
 have dc:=awP l (bJ l 0) 3 aj aj (xF l (bJ l 0) 3 1) (aup ..)
 have dx:=awP l (xE l (bJ l 0) 3 1) 3 aj aj (xF l (xE l (bJ l 0) 3 1) 3 1) (aup ..)
 have sc:∀ q∈xF l (bJ l 0) 3 1,smP q:=akY l _ _
 have sx:∀ q∈xF l (xE l (bJ l 0) 3 1) 3 1,smP q:=akY l _ _
 have hN:=rW l 0 5 hl5 (b8 _) aj aj
 have yn:=au5 l (bJ l 0) hl5 3 aj aj 1 aj k1
 have zy:=au5 l (xE l (bJ l 0) 3 1) hl5 3 aj aj 1 aj k2
 generalize eM l 0 5=v at hN
 generalize xE l (xE l (bJ l 0) 3 1) 3 1=k3 at zy
 generalize cD l (xE l (bJ l 0) 3 1) 3=e at dx zy
 generalize xK l (xE l (bJ l 0) 3 1) 3 1=m at dx zy
 generalize xF l (xE l (bJ l 0) 3 1) 3 1=pq at dx sx zy
 generalize xA l (xE l (bJ l 0) 3 1)=a2 at dx
 generalize xB l (xE l (bJ l 0) 3 1) 3=b2 at dx
 generalize xE l (bJ l 0) 3 1=k2 at yn zy
 generalize cD l (bJ l 0) 3=d at dc yn
 generalize xK l (bJ l 0) 3 1=k at dc yn
 generalize xF l (bJ l 0) 3 1=po at dc sc yn
 generalize xA l (bJ l 0)=a at dc
 generalize xB l (bJ l 0) 3=b at dc
 generalize bJ l 0=k1 at hN yn
 have it:=aeZ dc.ab i
 have iu:=aeZ dx.ab j
 have rt:=ahz dc.ca dc.cb i
 have ru:=ahz dx.ca dx.cb j
 have gc:=iw.of dc sc
 have gx:=iw.of dx sx
 obtain⟨g9,gm,bT,bP,bQ⟩:=iw.sh dc dx sc sx i j
 obtain⟨lS,hk9,hka,uH⟩:=dc.ends
 obtain⟨iB,hm9,hma,hmb⟩:=dx.ends
 have hE1:=ao0 gc it.1 it.2 ae
 have hE2:=ao0 gx iu.1 iu.2 ae
 have hW1:=asr (a,b) i 10 aj ⟨by have:=uo dc.ca;show rl a<=10;omega,by have:=uo dc.cb;show rl b<=10;omega⟩ hi
 have hW2:=asr (a2,b2) j 10 aj ⟨by have:=uo dx.ca;show rl a2<=10;omega,by have:=uo dx.cb;show rl b2<=10;omega⟩ hj
 have hxl:pq.length<=100:=by have h3:=dx.d3;rcases dx.kn with⟨_,h⟩ | ⟨_,_,_,_,_,h⟩<;>omega
 have xG:m.length<=100:=by
  have h3:=dx.d3
  rcases dx.kn with⟨h,_⟩ | ⟨_,_,_,_,h,_⟩
  ·rw [h,lL];omega
  ·rw [h,pJ];omega
 have hSh:=aFW (gr e m pq (kB (a2,b2) j)) (gr d k po (kB (a,b) i)) 10 aj bQ bP
 have hMv:=awx e m (nV (gI (gr d k po (kB (a,b) i)) (gr e m pq (kB (a2,b2) j)))) pq 10 aj (avt aj bT) hxl xG (fun q hq=>by have h:=(acu sx).okR (k:=1) aj aj aj q hq;exact⟨h.1.le aj,ba h.2.1 aj,h.2.2⟩)
 have main:=aIB l i j v k1 k2 k3 d e k m po pq (if v > 0 then pq.map (tL (nV (gI (gr d k po (kB (a,b) i)) (gr e m pq (kB (a2,b2) j))))) else pq) a b a2 b2 (kB (a,b) i) (kB (a2,b2) j) (gr d k po (kB (a,b) i)) (gr e m pq (kB (a2,b2) j)) lS hk9 iB hm9 hka uH hma hmb hN yn zy hW1 hW2 hE1 hE2 hSh hMv (fun h=>if_pos h) (fun h=>if_neg h)
 have s9:∀ {P:List aG},(∀ q∈P,smP q)->c19 P:=fun h=>⟨12,216,acu h,by decide,by decide⟩
 refine⟨d,k,po,a,b,e,m,_,a2,b2,_,_,_,⟨s9 sc,?_⟩,gc,?_,⟨it.1,it.2,rt⟩,⟨iu.1,iu.2,ru⟩,fun hm=>?_,main⟩
 ·split
  ·rw [ahN];exact g9
  ·exact s9 sx
 ·split
  ·rw [ahN];exact gm
  ·exact gx
 ·rw [if_pos (of_decide_eq_true hm),ahN,aIi dx (acu sx) iu.1 iu.2 ae,aHp]
open yV in
theorem akP :ax an 9 [] (bL true):=by
 have rX:LV.pure (.agg [ai 1,.list 3 ((bu 1 0 1).map ah),.list 12 ((oQ (⟨((0:Int):Rat),((0:Int):Rat),0⟩:V3) (⟨((2:Int):Rat),((2:Int):Rat),0⟩:V3)).map aY)])=true:=by simp [LV.pure,aN,a7 ar,a7 bF]
 have hq2:LV.pure (.agg [ai 1,.list 3 ((bu 1 0 1).map ah),.list 12 ((oQ (⟨((0:Int):Rat),((2:Int):Rat),0⟩:V3) (⟨((2:Int):Rat),((0:Int):Rat),0⟩:V3)).map aY)])=true:=by simp [LV.pure,aN,a7 ar,a7 bF]
 have kE:LV.pure (.agg [iL 0,iL 9,ah 0])=true:=by simp [LV.pure,aN,ar.pure]
 have sE:LV.pure (.agg [iL 2,iL 100,ah 0])=true:=by simp [LV.pure,aN,ar.pure]
 have hA1:=aw1
 obtain⟨x,r,hA2,hx⟩:=aw2
 have g1:=avU 0 0 2 2 aj aj aj aj
 have g2:=avU 0 2 2 0 aj aj aj aj
 have r0:rl 0<=100:=by decide +kernel
 have hM1:ax an 14 [.agg [ai 1,.list 3 ((bu 1 0 1).map ah),.list 12 ((oQ (⟨((0:Int):Rat),((0:Int):Rat),0⟩:V3) (⟨((2:Int):Rat),((2:Int):Rat),0⟩:V3)).map aY)],.agg [ai 1,.list 3 ((bu 1 0 1).map ah),.list 12 ((oQ (⟨((0:Int):Rat),((2:Int):Rat),0⟩:V3) (⟨((2:Int):Rat),((0:Int):Rat),0⟩:V3)).map aY)],.agg [iL 0,iL 9,ah 0]] (.bf [.list 4 [fy (([sG],[sG],3,0):ij)],iL 0]):=by
  have:=ade g1 g2 0 9 0 aj aj r0 (aih 0 9 0 aj aj gf r0)
  rw [x9 rfl,x9 rfl,hA1] at this;exact this
 have hM2:ax an 14 [.agg [ai 1,.list 3 ((bu 1 0 1).map ah),.list 12 ((oQ (⟨((0:Int):Rat),((0:Int):Rat),0⟩:V3) (⟨((2:Int):Rat),((2:Int):Rat),0⟩:V3)).map aY)],.agg [ai 1,.list 3 ((bu 1 0 1).map ah),.list 12 ((oQ (⟨((0:Int):Rat),((0:Int):Rat),0⟩:V3) (⟨((2:Int):Rat),((2:Int):Rat),0⟩:V3)).map aY)],.agg [iL 2,iL 100,ah 0]] (.bf [.list 4 ((x :: r).map fy),iL 0]):=by
  have:=ade g1 g1 2 100 0 aj aj r0 (aih 2 100 0 aj aj gf r0)
  rw [x9 rfl,hA2] at this;exact this
 refine aW Tryz.func9 ?_
 refine aZ ?_
 refine cp au (aiv 0 0 aj aj) ?_
 refine cp au (aiv 2 2 aj aj) ?_
 refine cp au (aqb (⟨((0:Int):Rat),((0:Int):Rat),0⟩:V3) (⟨((2:Int):Rat),((2:Int):Rat),0⟩:V3)) ?_
 refine cp au (aiv 0 2 aj aj) ?_
 refine cp au (aiv 2 0 aj aj) ?_
 refine cp au (aqb (⟨((0:Int):Rat),((2:Int):Rat),0⟩:V3) (⟨((2:Int):Rat),((0:Int):Rat),0⟩:V3)) ?_
 refine bM ?_
 refine ak rfl (show aF _ _ _ _ (.agg [iL 0,iL 9,ah 0]) from .build (zs:=[.v (.int .i64 0),.v (.int .i64 0),ah 0]) aeR Z35 ahV) ?_
 try refine aO ?_
 refine fG rfl (.cons (.pure rX) (.cons (.pure hq2) (.cons (.pure kE) .nil))) (hM1) ?_
 refine bC ?_
 refine ak rfl (show aF _ _ _ _ (.agg [iL 2,iL 100,ah 0]) from .build (zs:=[.v (.int .i64 0),.v (.int .i64 0),ah 0]) aeR Z35 (by simp only [apX];exact⟨⟨_,rfl,rfl,nK⟩,⟨_,rfl,rfl,nK⟩,fun _ h=>by cases h⟩)) ?_
 try refine aO ?_
 refine fG rfl (.cons (.pure rX) (.cons (.pure rX) (.cons (.pure sE) .nil))) (hM2) ?_
 refine bG ?_
 refine ak (aP (v:=true) rfl rfl ((rfl)) rfl) (.move _) ?_
 refine ak (aP (v:=true) rfl rfl ((rfl)) rfl) wV ?_
 refine ak (aP (v:=true) rfl rfl ((rfl)) rfl) (.bin rfl rfl rfl) ?_
 refine ak rfl (.ou rfl ((rfl))) ?_
 refine av ?_
 refine ak (aP (v:=true) rfl rfl ((rfl)) rfl) (.move _) ?_
 refine ak (aP (v:=true) rfl rfl ((rfl)) rfl) (.kQ (n:=0) (r:=(.agg [.list 6 (((([sG],[sG],3,0):ij)).1.map aE),.list 6 (((([sG],[sG],3,0):ij)).2.1.map aE),ai ((([sG],[sG],3,0):ij)).2.2.1,ai ((([sG],[sG],3,0):ij)).2.2.2])) rfl lI mB rfl aj rfl (zX _)) ?_
 refine ak (aP (v:=true) rfl rfl ((rfl)) rfl) jO ?_
 refine ak (aP (v:=true) rfl rfl ((rfl)) rfl) gg ?_
 refine ak (aP (v:=true) rfl rfl ((rfl)) rfl) (.bin rfl rfl rfl) ?_
 refine ak rfl (.ou rfl ((rfl))) ?_
 refine av ?_
 refine ak (aP (v:=true) rfl rfl ((rfl)) rfl) (.move _) ?_
 refine ak (aP (v:=true) rfl rfl ((rfl)) rfl) (.bin rfl rfl rfl) ?_
 refine ak rfl (.ou rfl ((rfl))) ?_
 refine av ?_
 refine ak (aP (v:=true) rfl rfl ((rfl)) rfl) (.move _) ?_
 refine ak (aP (v:=true) rfl rfl ((rfl)) rfl) wV ?_
 refine ak (aP (v:=true) rfl rfl ((rfl)) rfl) (.bin rfl rfl rfl) ?_
 refine ak rfl (.ou rfl ((rfl))) ?_
 refine av ?_
 refine ak (aP (v:=true) rfl rfl ((decide_eq_true adV)) rfl) (.move _) ?_
 refine ak (aP (v:=true) rfl rfl ((decide_eq_true adV)) rfl) (.kQ (n:=0) (r:=(.agg [.list 6 ((x).1.map aE),.list 6 ((x).2.1.map aE),ai (x).2.2.1,ai (x).2.2.2])) rfl lI mB rfl aj rfl (zX _)) ?_
 refine ak (aP (v:=true) rfl rfl ((decide_eq_true adV)) rfl) jO ?_
 refine ak (aP (v:=true) rfl rfl ((decide_eq_true adV)) rfl) gg ?_
 refine ak (aP (v:=true) rfl rfl ((decide_eq_true adV)) rfl) (.bin rfl rfl rfl) ?_
 refine ak rfl (.ou rfl ((decide_eq_true adV))) ?_
 refine aA ?_
 exact dT (x:=bL true) (by refine Eq.trans (b:=LV.v (Value.bool (((x.2.2.1:Nat):Int)==1))) rfl ?_;rw [hx];rfl) (.pure rfl)
theorem at8 (n d:Int):∃ M:Nat,0<M/\M<=8/\cH M 20 (rtV n d):=by
 have h1:=ta n (show (41:Int)≠0 by decide)
 have h2:=sT n (show (0:Int)<41 by decide)
 have h3:=ta d (show (8:Int)≠0 by decide)
 have h4:=sT d (show (0:Int)<8 by decide)
 refine⟨(d % 8+1).toNat,ae,ae,n % 41-20,?_,ae⟩
 unfold rtV
 have:(0:Rat)<((d % 8+1:Int):Rat):=sK.2 ae
 rw [yK ae,kf cj]
def tO (i j:Int):V3:=⟨rtV i j,rtV j i,0⟩
theorem iw.mv {d:Nat} {k:List Rat} {po:List aG} {a b:Rat} (h:iw d k po a b) (h9:c19 po) (i j:Int):iw d k (po.map (fg (tO i j))) a b:=by
 obtain⟨D,N,c,hD,hN⟩:=h9
 obtain⟨M,m0,m8,hM⟩:=at8 i j
 obtain⟨L,l0,l8,hL⟩:=at8 j i
 have hLM:L*M=M*L:=fA _ _
 have hML:M*L<=64:=mM m8 l8
 have b1:20*L<=160:=by omega
 have b2:20*M<=160:=by omega
 have hT:∀ k',k'<3->cH (M*L) 160 ((tO i j).at k'):=fun k' hk=>by
  match k',hk with
  | 0,_=>exact(hM.scale (E:=L)).mono b1
  | 1,_=>have:=(hL.scale (E:=M)).mono b2;rw [hLM] at this;exact this
  | 2,_=>exact ahC _ _
 refine⟨⟨h.dr.d1,h.dr.d3,h.dr.ab,h.dr.ca,h.dr.cb,?_⟩,⟨_,_,auJ c (mG m0 l0) hT,ba (mM hD hML) aq,ba (adu (mM hN hML) (Nat.mul_le_mul_right _ hN)) aq⟩,fun q hq=>?_⟩
 ·rw [dL];exact h.dr.kn
 ·obtain⟨y,hy,rfl⟩:=cQ.1 hq
  show y.p.z+0=0
  rw [h.z y hy];decide +kernel
theorem iw.ln {d:Nat} {k:List Rat} {po:List aG} {a b:Rat} (h:iw d k po a b):k.length<=100/\po.length<=100:=by
 have h3:=h.dr.d3
 rcases h.dr.kn with⟨e,hl⟩ | ⟨_,_,_,_,e,hl⟩
 ·rw [e,lL];omega
 ·rw [e,pJ];omega
theorem iw.pl {d:Nat} {k:List Rat} {po:List aG} {a b:Rat} (h:iw d k po a b):(ix d k po).length=1\/(ix d k po).length=2:=by
 rcases h.dr.kn with⟨rfl,hl⟩ | ⟨t,g1,g2,ht,rfl,hl⟩
 ·rw [x9 hl];exact .inl rfl
 ·rw [aaZ hl];exact .inr rfl
theorem iw.pp {d:Nat} {k:List Rat} {po:List aG} {a b:Rat} (h:iw d k po a b):∀ q∈ix d k po,0<q.po.length:=fun q hq=>by
 obtain⟨_,_,g⟩:=h.pk (Dp:=0) aj q hq
 have:=g.c.hl
 omega
theorem iw.meT {d e:Nat} {k m:List Rat} {po pq:List aG} {a b a' b':Rat} {T:V3} (h:iw d k po a b) (g:iw e m pq a' b') (h':iw d k (po.map (fg T)) a b) (g':iw e m (pq.map (fg T)) a' b') {dn w:Nat} {wd:Rat} (hd:dn<=23) :
  kF dn w wd (ix d k (po.map (fg T))) (ix e m (pq.map (fg T)))=kF dn w wd (ix d k po) (ix e m pq):=by
 obtain⟨D,N,c,_,_⟩:=h.c
 obtain⟨D',N',c',_,_⟩:=g.c
 have e1:=ays h.dr c T
 have e2:=ays g.dr c' T
 rw [e1,e2]
 exact aBg hd (fun p hp=>⟨h.pk ae p hp,h'.pk ae _ (by rw [e1];exact cQ.2 ⟨p,hp,rfl⟩)⟩) (fun p hp=>⟨g.pk ae p hp,g'.pk ae _ (by rw [e2];exact cQ.2 ⟨p,hp,rfl⟩)⟩)
theorem aGI:pcW 0=0:=by decide +kernel
theorem awo {d:Nat} {k:List Rat} {po:List aG} {a b:Rat} (h:iw d k po a b) (i j:Int):ax an 28 [.agg [ai d,.list 3 (k.map ah),.list 12 (po.map aY)],eG (nV (tO i j))] (.agg [ai d,.list 3 (k.map ah),.list 12 ((po.map (fg (tO i j))).map aY)]):=by
 obtain⟨D,N,c,hD,hN⟩:=h.c
 have hb:cJ 7 (tO i j):=⟨ba (ap2 i j) aj,ba (ap2 j i) aj,by show rl 0<=7;decide +kernel⟩
 have:=awx d k (nV (tO i j)) po 7 aj (avt aj hb) h.ln.2 h.ln.1 (c.okR (qJ hN) (qJ hD) aj)
 rwa [ahN] at this
namespace avY
theorem aO {p q:Prop} (k:q) (e:p=q:=by simp only [e1,e2,e3,e4,p1,p2,p3,q1,q2,q3,l1,t0,t1,r1,r2,r3,r4,Nat.zero_add,Nat.reduceMul,Nat.reduceAdd,b1,b2,b3,b4,b5,b6,i1,i2,i3,i4,i5,i6,Nat.reduceBEq,cN,List.length_map,aV ck,List.set_cons_zero,List.set_cons_succ,Nat.reduceEqDiff,reduceIte,if_true,if_false,eN,eY,aV bl,aV bF,aV ar,cU,eu,LV.kill,bX];exact rfl):p:=e.mpr k
end avY
open avY in
theorem ajb (l:List Sp) (hl:l.length<=1000) (hq:∀ s∈l,rl s.1<=1000/\rl s.2<=1000):ax an 29 [.list 6 (l.map aE),.list 6 (l.map aE)] (bL true):=by
 refine aW Tryz.func29 ?_
 refine iE ?_
 refine aH rfl ?_ ?_<;>intro ob qf
 ·first | exact absurd rfl qf | (exfalso;simp at qf;done) | (exfalso;simp at ob;done)
 ·refine bD ?_
  refine dV (fun(i:Nat) L=>((((St.mk L.slot (hp [])).put (some 0) (.list 6 (l.map aE))).put (some 1) (.list 6 (l.map aE))).put (some 5) (ai i))) (fun i=>i<=l.length) (fun i=>l.length-i) 0 (b8 _) ?_
  rintro i L1 hi
  refine bD ?_
  refine aH rfl ?_ ?_<;>intro qC lG
  ·have dR:i<l.length:=by omega
   obtain⟨o1,o2⟩:=hq (l.getD i default) (by rw [bp,b7 dR];exact qk _)
   refine bc ?_
   refine a9 10 aq ?_
   refine bo ?_
   refine cp au (aCb (l.getD i default) ae ae) ?_
   refine aQ ?_
   refine ff (b:=_) rfl (rfl) ?_
   refine bc ?_
   refine ak rfl cV ?_
   refine aQ ?_
   exact l5
  ·refine bC ?_
   exact n6
namespace asd
theorem aO {p q:Prop} (k:q) (e:p=q:=by simp only [e1,e2,e3,e4,p1,p2,p3,q1,q2,q3,l1,t0,t1,r1,r2,r3,r4,Nat.zero_add,Nat.reduceMul,Nat.reduceAdd,b1,b2,b3,b4,b5,b6,i1,i2,i3,i4,i5,i6,Nat.reduceBEq,cN,List.length_map,aV aay,aV ck,List.set_cons_zero,List.set_cons_succ,Nat.reduceEqDiff,reduceIte,if_true,if_false,eN,eY,aV bl,aV bF,aV ar,cU,eu,LV.kill,bX];exact rfl):p:=e.mpr k
end asd
open asd in
theorem aFC (cls:List ij) (hl:cls.length<=1000000) (hq:∀ c∈cls,ans c):ax an 16 [.list 4 (cls.map fy),.list 4 (cls.map fy)] (bL true):=by
 refine aW Tryz.func16 ?_
 refine iE ?_
 refine aH rfl ?_ ?_<;>intro ob qf
 ·first | exact absurd rfl qf | (exfalso;simp at qf;done) | (exfalso;simp at ob;done)
 ·refine bD ?_
  refine dV (fun(jj:Nat) L=>((((St.mk L.slot (hp [])).put (some 0) (.list 4 (cls.map fy))).put (some 1) (.list 4 (cls.map fy))).put (some 5) (ai jj))) (fun jj=>jj<=cls.length) (fun jj=>cls.length-jj) 0 (b8 _) ?_
  rintro jj L1 hi
  refine bD ?_
  refine aH rfl ?_ ?_<;>intro qC lG
  ·have jr:jj<cls.length:=by omega
   obtain⟨s,r,es,er,k1,k2,k3,k4,_,_⟩:=hq (cls.getD jj default) (by rw [bp,b7 jr];exact qk _)
   have ecj:cls.getD jj default=cls[jj]:=by rw [bp,b7 jr];rfl
   have hcj:(cls.map fy)[((jj:Nat):Int).toNat]?=some (.agg [.list 6 ([s].map aE),.list 6 ([r].map aE),ai (cls.getD jj default).2.2.1,ai (cls.getD jj default).2.2.2]):=by
    rw [Int.toNat_natCast,g8,b7 jr,<-ecj]
    show some (fy (cls.getD jj default))=_
    unfold fy
    rw [es,er]
   have hSA:=ajb [s] aM (fun q hq=>by rw [gS.1 hq];omega)
   have hSB:=ajb [r] aM (fun q hq=>by rw [gS.1 hq];omega)
   refine bc ?_
   refine a9 52 aq ?_
   refine aT ?_
   refine ak rfl aoV ?_
   refine aA ?_
   refine ak rfl aoV ?_
   refine aA ?_
   refine ak (aP (v:=false) rfl rfl ((bne_self_eq_false _)) rfl) (.move _) ?_
   refine ak (aP (v:=false) rfl rfl ((bne_self_eq_false _)) rfl) (.move _) ?_
   refine ak (aP (v:=false) rfl rfl ((bne_self_eq_false _)) rfl) (.kQ (n:=((jj:Nat):Int)) (r:=.agg [.list 6 ([s].map aE),.list 6 ([r].map aE),ai (cls.getD jj default).2.2.1,ai (cls.getD jj default).2.2.2]) rfl lI mB rfl ae hcj rfl) ?_
   refine ak (aP (v:=false) rfl rfl ((bne_self_eq_false _)) rfl) jO ?_
   refine ak (aP (v:=false) rfl rfl ((bne_self_eq_false _)) rfl) gg ?_
   refine ak (aP (v:=false) rfl rfl ((bne_self_eq_false _)) rfl) (.move _) ?_
   refine ak (aP (v:=false) rfl rfl ((bne_self_eq_false _)) rfl) (.move _) ?_
   refine ak (aP (v:=false) rfl rfl ((bne_self_eq_false _)) rfl) (.kQ (n:=((jj:Nat):Int)) (r:=.agg [.list 6 ([s].map aE),.list 6 ([r].map aE),ai (cls.getD jj default).2.2.1,ai (cls.getD jj default).2.2.2]) rfl lI mB rfl ae hcj rfl) ?_
   refine ak (aP (v:=false) rfl rfl ((bne_self_eq_false _)) rfl) jO ?_
   refine ak (aP (v:=false) rfl rfl ((bne_self_eq_false _)) rfl) gg ?_
   refine ak (aP (v:=false) rfl rfl ((bne_self_eq_false _)) rfl) (.bin rfl rfl rfl) ?_
   refine ak rfl (.ox rfl ((bne_self_eq_false _))) ?_
   refine av ?_
   refine ak (aP (v:=false) rfl rfl ((bne_self_eq_false _)) rfl) (.move _) ?_
   refine ak (aP (v:=false) rfl rfl ((bne_self_eq_false _)) rfl) (.move _) ?_
   refine ak (aP (v:=false) rfl rfl ((bne_self_eq_false _)) rfl) (.kQ (n:=((jj:Nat):Int)) (r:=.agg [.list 6 ([s].map aE),.list 6 ([r].map aE),ai (cls.getD jj default).2.2.1,ai (cls.getD jj default).2.2.2]) rfl lI mB rfl ae hcj rfl) ?_
   refine ak (aP (v:=false) rfl rfl ((bne_self_eq_false _)) rfl) jO ?_
   refine ak (aP (v:=false) rfl rfl ((bne_self_eq_false _)) rfl) gg ?_
   refine ak (aP (v:=false) rfl rfl ((bne_self_eq_false _)) rfl) (.move _) ?_
   refine ak (aP (v:=false) rfl rfl ((bne_self_eq_false _)) rfl) (.move _) ?_
   refine ak (aP (v:=false) rfl rfl ((bne_self_eq_false _)) rfl) (.kQ (n:=((jj:Nat):Int)) (r:=.agg [.list 6 ([s].map aE),.list 6 ([r].map aE),ai (cls.getD jj default).2.2.1,ai (cls.getD jj default).2.2.2]) rfl lI mB rfl ae hcj rfl) ?_
   refine ak (aP (v:=false) rfl rfl ((bne_self_eq_false _)) rfl) jO ?_
   refine ak (aP (v:=false) rfl rfl ((bne_self_eq_false _)) rfl) gg ?_
   refine fG (aP (v:=false) rfl rfl ((bne_self_eq_false _)) rfl) (.cons et (.cons et .nil)) (hSA) ?_
   refine ak (aP (v:=false) rfl rfl ((bne_self_eq_false _)) rfl) (.not rfl) ?_
   refine ak rfl (.ox rfl ((bne_self_eq_false _))) ?_
   refine av ?_
   refine ak (aP (v:=false) rfl rfl ((rfl)) rfl) (.move _) ?_
   refine ak (aP (v:=false) rfl rfl ((rfl)) rfl) (.move _) ?_
   refine ak (aP (v:=false) rfl rfl ((rfl)) rfl) (.kQ (n:=((jj:Nat):Int)) (r:=.agg [.list 6 ([s].map aE),.list 6 ([r].map aE),ai (cls.getD jj default).2.2.1,ai (cls.getD jj default).2.2.2]) rfl lI mB rfl ae hcj rfl) ?_
   refine ak (aP (v:=false) rfl rfl ((rfl)) rfl) jO ?_
   refine ak (aP (v:=false) rfl rfl ((rfl)) rfl) gg ?_
   refine ak (aP (v:=false) rfl rfl ((rfl)) rfl) (.move _) ?_
   refine ak (aP (v:=false) rfl rfl ((rfl)) rfl) (.move _) ?_
   refine ak (aP (v:=false) rfl rfl ((rfl)) rfl) (.kQ (n:=((jj:Nat):Int)) (r:=.agg [.list 6 ([s].map aE),.list 6 ([r].map aE),ai (cls.getD jj default).2.2.1,ai (cls.getD jj default).2.2.2]) rfl lI mB rfl ae hcj rfl) ?_
   refine ak (aP (v:=false) rfl rfl ((rfl)) rfl) jO ?_
   refine ak (aP (v:=false) rfl rfl ((rfl)) rfl) gg ?_
   refine fG (aP (v:=false) rfl rfl ((rfl)) rfl) (.cons et (.cons et .nil)) (hSB) ?_
   refine ak (aP (v:=false) rfl rfl ((rfl)) rfl) (.not rfl) ?_
   refine ak rfl (.ox rfl ((rfl))) ?_
   refine aT ?_
   refine ff (b:=_) rfl (rfl) ?_
   refine bc ?_
   refine ak rfl cV ?_
   refine aQ ?_
   exact jL (jj+1) ae
  ·refine bC ?_
   exact n6
namespace ayf
theorem aO {p q:Prop} (k:q) (e:p=q:=by simp only [e1,e2,e3,e4,p1,p2,p3,q1,q2,q3,l1,t0,t1,r1,r2,r3,r4,Nat.zero_add,Nat.reduceMul,Nat.reduceAdd,b1,b2,b3,b4,b5,b6,i1,i2,i3,i4,i5,i6,Nat.reduceBEq,fz0,afD,aea,eN,agm,aV aay,List.length_map,List.set_cons_zero,List.set_cons_succ,Nat.reduceEqDiff,reduceIte,if_true,if_false,eN,eY,aV bl,aV bF,aV ar,cU,eu,LV.kill,bX];exact rfl):p:=e.mpr k
end ayf
open ayf in
theorem aDD (l:List Int) (i j depth work:Int) (hl:l.length<=9223372036854775807/\∀ n∈l,-9223372036854775808<=n/\n<=9223372036854775807) (hi:-9223372036854775808<=i/\i<=9223372036854775807) (hj:-9223372036854775808<=j/\j<=9223372036854775807) (hdp:-9223372036854775808<=depth/\depth<=9223372036854775807) (hwk:-9223372036854775808<=work/\work<=9223372036854775807):ax an 7 [.list 1 (l.map fZ),iL i,iL j,iL depth,iL work] (bL true):=by
 have bH:=hl.1
 obtain⟨dn,kS⟩:∃ dn:Nat,depth % 7=(dn:Int):=⟨(depth % 7).toNat,ae⟩
 obtain⟨wn,hwn⟩:∃ wn:Nat,work % 40=(wn:Int):=⟨(work % 40).toNat,ae⟩
 have nz:dn<=6:=by omega
 have jb:wn<=39:=by omega
 have hPr:ax an 11 [iL depth,iL work,iL 0] (.agg [ai dn,ai wn,ah 0]):=by
  have:=aJY depth work 0 dn wn kS hwn
  rwa [aGI] at this
 have hpp:LV.pure (.agg [ai dn,ai wn,ah 0])=true:=by simp [LV.pure,aN,ar.pure]
 have hp4:LV.pure (.agg [iL 0,iL 40,ah 0])=true:=by simp [LV.pure,aN,ar.pure]
 have hmp:LV.pure (eG (nV (tO i j)))=true:=dS.pure _
 refine aW Tryz.func7 ?_
 refine bD ?_
 refine cp aR (aJu l bH) ?_
 refine aQ ?_
 refine aH rfl ?_ ?_<;>intro xU qN
 ·refine aT ?_
  refine cp am0 (akP) ?_
  refine bc ?_
  exact n6
 ·have hl5:l.length<=500:=by simpa using qN
  obtain⟨d,k,po,a,b,e,m,pf,aa,bb,tt,uu,mt,⟨g9,h9⟩,hG,hH,_,_,_,hTw⟩:=aIE l i j hl5 hi hj
  have hG2:=hG.mv g9 i j
  have hH2:=hH.mv h9 i j
  have aC7:=awo hG i j
  have aFl:=awo hH i j
  have r0:rl 0<=100:=by decide +kernel
  have yt:=aih dn wn 0 ae ae gf r0
  have hM:=ade hG hH dn wn 0 ae ae r0 yt
  have hM2:=ade hG2 hH2 dn wn 0 ae ae r0 yt
  rw [iw.meT hG hH hG2 hH2 ae] at hM2
  have hcK:=hG.cells hH (dn:=dn) (w:=wn) (wd:=0) ae
  have hLn:=aE3 (d:=dn) (w:=wn) (wd:=0) (lA:=ix d k po) (lB:=ix e m pf) ae ae (ba (ajf d k po) aj) (ba (ajf e m pf) aj)
  generalize (kF dn wn 0 (ix d k po) (ix e m pf)).2=cls at hM hM2 hcK hLn
  have hSC:=aFC cls ae hcK
  have kD:=aih 0 40 0 aj aj gf r0
  have hX:ax an 14 [.agg [ai d,.list 3 (k.map ah),.list 12 (po.map aY)],.agg [ai e,.list 3 (m.map ah),.list 12 (pf.map aY)],(.agg [iL 0,iL 40,ah 0])] (.bf [.list 4 ((kF 0 40 0 (ix d k po) (ix e m pf)).2.map fy),iL 0]):=ade hG hH 0 40 0 aj aj r0 kD
  have hY:ax an 14 [.agg [ai e,.list 3 (m.map ah),.list 12 (pf.map aY)],.agg [ai d,.list 3 (k.map ah),.list 12 (po.map aY)],(.agg [iL 0,iL 40,ah 0])] (.bf [.list 4 ((kF 0 40 0 (ix e m pf) (ix d k po)).2.map fy),iL 0]):=ade hH hG 0 40 0 aj aj r0 kD
  have hxK:=hG.cells hH (dn:=0) (w:=40) (wd:=0) aj
  obtain⟨sA,htn⟩:=aCD hG.pl hH.pl hG.pp hH.pp
  generalize (kF 0 40 0 (ix d k po) (ix e m pf)).2=xs at hX hxK sA htn
  generalize (kF 0 40 0 (ix e m pf) (ix d k po)).2=ys at hY sA htn
  have gh:LV.pure (.agg [ai d,.list 3 (k.map ah),.list 12 (po.map aY)])=true:=by simp [LV.pure,aN,a7 ar,a7 bF]
  have hcq:LV.pure (.agg [ai e,.list 3 (m.map ah),.list 12 (pf.map aY)])=true:=by simp [LV.pure,aN,a7 ar,a7 bF]
  have zP:LV.pure (.agg [ai d,.list 3 (k.map ah),.list 12 ((po.map (fg (tO i j))).map aY)])=true:=by simp [LV.pure,aN,a7 ar,a7 bF,-kU]
  have aG3:LV.pure (.agg [ai e,.list 3 (m.map ah),.list 12 ((pf.map (fg (tO i j))).map aY)])=true:=by simp [LV.pure,aN,a7 ar,a7 bF,-kU]
  refine aZ ?_
  refine cp ig (hTw) ?_
  refine pU ?_
  refine cp am0 (axk) ?_
  refine av ?_
  refine bS rfl al3 ?_
  refine aC ?_
  refine cp au (ark i j hi hj) ?_
  refine aT ?_
  refine cp au (ark j i hj hi) ?_
  refine rG (ajK rfl rfl) ?_
  refine av ?_
  refine bS rfl (.store (y:=eG (⟨⟨1,0,0⟩,⟨0,1,0⟩,⟨0,0,1⟩,⟨0,0,0⟩⟩:M3)) (y':=eG (nV (tO i j))) rfl rfl rfl rfl rfl (dS.aw _) (aj6 (⟨⟨1,0,0⟩,⟨0,1,0⟩,⟨0,0,1⟩,⟨0,0,0⟩⟩:M3) _) (by show bE _ _ (LV.aw (a5 _)) (LV.isAgg (a5 _));rw [bl.aw,bl.isAgg];exact ju) ⟨LV.fp (bl.pure _),LV.eW (bl.pure _)⟩) ?_
  refine aC ?_
  refine cp ig (hPr) ?_
  refine aC ?_
  refine ak rfl abq ?_
  refine ak rfl abq ?_
  refine av ?_
  refine fG rfl (.cons (.pure gh) (.cons (.pure hcq) (.cons (.pure hpp) .nil))) hM ?_
  refine bo ?_
  refine a9 13 aq ?_
  refine ak rfl abq ?_
  refine ak rfl (.gj rfl rfl rfl rfl (dS.aw (nV (tO i j))) (dZ (dS.aw (nV (tO i j))) rfl) wb) ?_
  refine fG rfl (.cons (.pure gh) (.cons (.pure hmp) .nil)) aC7 ?_
  refine ak rfl abq ?_
  refine ak rfl (.gj rfl rfl rfl rfl (dS.aw (nV (tO i j))) (dZ (dS.aw (nV (tO i j))) rfl) wb) ?_
  refine fG rfl (.cons (.pure hcq) (.cons (.pure hmp) .nil)) aFl ?_
  refine av ?_
  refine fG rfl (.cons (.pure zP) (.cons (.pure aG3) (.cons (.pure hpp) .nil))) hM2 ?_
  refine dH ?_
  refine ak (aP (v:=false) rfl rfl ((rfl)) rfl) (.move _) ?_
  refine ak (aP (v:=false) rfl rfl ((rfl)) rfl) (.bin rfl rfl rfl) ?_
  refine ak rfl (.ox rfl ((rfl))) ?_
  refine av ?_
  refine ak (aP (v:=false) rfl rfl ((rfl)) rfl) (.move _) ?_
  refine ak (aP (v:=false) rfl rfl ((rfl)) rfl) (.move _) ?_
  refine fG (aP (v:=false) rfl rfl ((rfl)) rfl) (.cons (.pure (fc aay 4 cls)) (.cons (.pure (fc aay 4 cls)) .nil)) hSC ?_
  refine ak (aP (v:=false) rfl rfl ((rfl)) rfl) (.not rfl) ?_
  refine ak rfl (.ox rfl ((rfl))) ?_
  refine aT ?_
  refine ff (b:=_) rfl (rfl) ?_
  refine aA ?_
  refine ak rfl abq ?_
  refine ak rfl abq ?_
  refine ak rfl (show aF _ _ _ _ (.agg [iL 0,iL 40,ah 0]) from .build (zs:=[.v (.int .i64 0),.v (.int .i64 0),ah 0]) aeR Z35 ahV) ?_
  try refine aO ?_
  refine fG rfl (.cons (.pure gh) (.cons (.pure hcq) (.cons (.pure hp4) .nil))) hX ?_
  refine bD ?_
  refine ak rfl abq ?_
  refine ak rfl abq ?_
  refine ak rfl (show aF _ _ _ _ (.agg [iL 0,iL 40,ah 0]) from .build (zs:=[.v (.int .i64 0),.v (.int .i64 0),ah 0]) aeR Z35 ahV) ?_
  try refine aO ?_
  refine fG rfl (.cons (.pure hcq) (.cons (.pure gh) (.cons (.pure hp4) .nil))) hY ?_
  refine dH ?_
  refine ak (aP (v:=false) rfl rfl ((rfl)) rfl) (.move _) ?_
  refine ak (aP (v:=false) rfl rfl ((rfl)) rfl) (.bin rfl rfl rfl) ?_
  refine ak rfl (.ox rfl ((rfl))) ?_
  refine av ?_
  refine ak (aP (v:=false) rfl rfl ((rfl)) rfl) (.move _) ?_
  refine ak (aP (v:=false) rfl rfl ((rfl)) rfl) wV ?_
  refine ak (aP (v:=false) rfl rfl ((rfl)) rfl) (.move _) ?_
  refine ak (aP (v:=false) rfl rfl ((rfl)) rfl) wV ?_
  refine ak (aP (v:=false) rfl rfl ((rfl)) rfl) (.bin rfl rfl rfl) ?_
  refine ak rfl (.ox rfl ((rfl))) ?_
  refine aT ?_
  refine ff (b:=_) rfl (by rw [sA];exact bne_self_eq_false _) ?_
  refine aQ ?_
  refine a9 40 aq ?_
  refine aA ?_
  refine ez 112 rfl ?_ ?_<;>intro ahT aId
  ·refine aoJ ?_
   refine cp am0 (akP) ?_
   refine bc ?_
   exact n6
  ·obtain⟨c,rfl⟩:∃ c,xs=[c]:=by
    match xs,(show xs.length=1 by have:=aId;omega) with
    | [c],_=>exact⟨c,rfl⟩
   obtain rfl:=htn c rfl
   obtain⟨s,r,es,er,k1,k2,k3,k4,_,_⟩:=hxK c (gS.2 rfl)
   obtain⟨cA,cB,kd,kk⟩:=c
   obtain rfl:cA=[s]:=es
   obtain rfl:cB=[r]:=er
   have hSA:=ajb [s] aM (fun q hq=>by rw [gS.1 hq];omega)
   have hSB:=ajb [r] aM (fun q hq=>by rw [gS.1 hq];omega)
   refine av ?_
   refine ak (aP (v:=false) rfl rfl (ahT) rfl) (.kQ (n:=0) (r:=(.agg [.list 6 ([s].map aE),.list 6 ([r].map aE),ai kd,ai kk])) rfl lI mB rfl aj rfl (zX (([s],[r],kd,kk):ij))) ?_
   refine aQ ?_
   refine ak (aP (v:=false) rfl rfl (ahT) rfl) (.kQ (n:=0) (r:=(.agg [.list 6 ([r].map aE),.list 6 ([s].map aE),ai kd,ai kk])) rfl lI mB rfl aj rfl (zX (([r],[s],kd,kk):ij))) ?_
   refine aA ?_
   refine ak (aP (v:=true) rfl rfl ((beq_self_eq_true _)) rfl) (.move _) ?_
   refine ak (aP (v:=true) rfl rfl ((beq_self_eq_true _)) rfl) (.kQ (n:=0) (r:=(.agg [.list 6 ([s].map aE),.list 6 ([r].map aE),ai kd,ai kk])) rfl lI mB rfl aj rfl (zX (([s],[r],kd,kk):ij))) ?_
   refine ak (aP (v:=true) rfl rfl ((beq_self_eq_true _)) rfl) jO ?_
   refine ak (aP (v:=true) rfl rfl ((beq_self_eq_true _)) rfl) gg ?_
   refine ak (aP (v:=true) rfl rfl ((beq_self_eq_true _)) rfl) (.move _) ?_
   refine ak (aP (v:=true) rfl rfl ((beq_self_eq_true _)) rfl) (.kQ (n:=0) (r:=(.agg [.list 6 ([r].map aE),.list 6 ([s].map aE),ai kd,ai kk])) rfl lI mB rfl aj rfl (zX (([r],[s],kd,kk):ij))) ?_
   refine ak (aP (v:=true) rfl rfl ((beq_self_eq_true _)) rfl) jO ?_
   refine ak (aP (v:=true) rfl rfl ((beq_self_eq_true _)) rfl) gg ?_
   refine fG (aP (v:=true) rfl rfl ((beq_self_eq_true _)) rfl) (.cons et (.cons et .nil)) (hSA) ?_
   refine ak (aP (v:=false) rfl rfl (ahT) rfl) (.ou rfl ((beq_self_eq_true _))) ?_
   refine av ?_
   refine ak (aP (v:=true) rfl rfl ((rfl)) rfl) (.move _) ?_
   refine ak (aP (v:=true) rfl rfl ((rfl)) rfl) (.kQ (n:=0) (r:=(.agg [.list 6 ([s].map aE),.list 6 ([r].map aE),ai kd,ai kk])) rfl lI mB rfl aj rfl (zX (([s],[r],kd,kk):ij))) ?_
   refine ak (aP (v:=true) rfl rfl ((rfl)) rfl) jO ?_
   refine ak (aP (v:=true) rfl rfl ((rfl)) rfl) gg ?_
   refine ak (aP (v:=true) rfl rfl ((rfl)) rfl) (.move _) ?_
   refine ak (aP (v:=true) rfl rfl ((rfl)) rfl) (.kQ (n:=0) (r:=(.agg [.list 6 ([r].map aE),.list 6 ([s].map aE),ai kd,ai kk])) rfl lI mB rfl aj rfl (zX (([r],[s],kd,kk):ij))) ?_
   refine ak (aP (v:=true) rfl rfl ((rfl)) rfl) jO ?_
   refine ak (aP (v:=true) rfl rfl ((rfl)) rfl) gg ?_
   refine fG (aP (v:=true) rfl rfl ((rfl)) rfl) (.cons et (.cons et .nil)) (hSB) ?_
   refine ak (aP (v:=false) rfl rfl (ahT) rfl) (.ou rfl ((rfl))) ?_
   refine aT ?_
   refine fG (aP (v:=true) rfl rfl ((rfl)) rfl) .nil (akP) ?_
   refine ak rfl (.ou rfl ((rfl))) ?_
   refine aA ?_
   exact n6
end Go.Proofs.YtckppbhafancnaaGreat
end
