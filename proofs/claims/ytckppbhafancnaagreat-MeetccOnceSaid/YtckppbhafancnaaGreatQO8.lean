/- Texts J5, J6, J7, J12, J8, A12, J9, J13 of this proof, joined. -/
import Derived.Test.YtckppbhafancnaaGreatQO7
set_option linter.unusedVariables false
set_option linter.unusedSimpArgs false
open And renaming intro->je
open Bool renaming and_eq_true->jq
open Go.Proofs.Tryz renaming prog->al,underlying25->dE,underlying26->vX,underlying43->oW,underlying49->od
open Int renaming emod_lt_of_pos->zS,emod_nonneg->aag
open List renaming append_assoc->xh,append_nil->mV,forall_mem_cons->aj5,getD_eq_getElem?_getD->bz,getElem?_eq_getElem->cq,getElem?_map->iV,getElem_mem->p6,length_cons->qJ,length_map->fo,map_map->oe,mem_cons->fu,mem_cons_self->ao3,mem_map->da,mem_singleton->iM,not_mem_nil->jn,replicate->ay,take_add_one->zb,take_of_length_le->de
open Nat renaming add_le_add->aeX,le_refl->bp,le_trans->a9,lt_of_le_of_lt->ug,lt_of_lt_of_le->yw,mul_comm->fy,mul_le_mul->nz,mul_le_mul_left->jX,zero_le->b8
open Rat renaming div_mul_cancel->kP,intCast_mul->r8,le_of_lt->gR,le_refl->gg,le_trans->fe,mul_div_cancel->vo,mul_nonneg->ix,mul_zero->wH
section
set_option linter.unusedVariables false
set_option linter.unusedSimpArgs false
set_option maxHeartbeats 8000000
set_option maxRecDepth 100000
attribute [local irreducible] Go.Lg.opsL Go.Lg.cP Go.Lg.px Go.Lg.ss
namespace Go.Proofs.YtckppbhafancnaaGreat
open Go.Lg
def xN (l:List Int) (k m:Nat):Nat:=yD l (bK l k) m
def xK (l:List Int) (k n m:Nat):List Rat:=knX l (cD l k n) (bK l k) m
def xJ (l:List Int) (k n m:Nat):Nat:=(zj l (cD l k n) (bK l k) m).2.2
def xE (l:List Int) (k n m:Nat):Nat:=dqK l (xJ l k n m) (cD l k n+1+xN l k m)
theorem aq8 (l:List Int) (k:Nat) {n m:Nat} (hl:l.length<=500) (hk:k<=500) (hn:0<n) (hn6:n<=6) (hm:m<=2):kOK (xK l k n m) (cD l k n)/\(xK l k n m).length=2*(cD l k n+1)+xN l k m/\xJ l k n m<=500/\∀ x∈xK l k n m,rl x<=64:=by
 obtain⟨jS,xo,hd3⟩:=akK l k hn
 obtain⟨hN1,hN2⟩:=ahr l (bK l k) m
 obtain⟨hT,hT1⟩:=awQ l (bK l k)
 have eW:rl 1=1:=rfl
 obtain⟨fL,t,j',e,hil,su,hrt,bM⟩:=aGo l (d:=cD l k n) (n:=yD l (bK l k) m) (T:=mA l (bK l k)) jS ae hT (bK l (bK l (bK l k)))
 have yj:=kC t 1
 have eK:xK l k n m=kx (cD l k n) (mA l (bK l k)) fL (t+1):=by
  unfold xK knX zj kx
  rw [e,xh]
 have fq:kOK (xK l k n m) (cD l k n):=by rw [eK];exact at2 jS ae ae ae bM su
 refine⟨fq,?_,?_,fq.sz⟩
 ·rw [eK,an8,hil];rfl
 ·have k1:=nJ (l:=l) hl hk
  have k2:=nJ (l:=l) hl k1
  have k3:=nJ (l:=l) hl k2
  have gen:∀ (c:Nat) (K:List Rat) (t:Rat) (j:Nat),j<=500->(oH l (cD l k n) c K t j).2.2<=500:=by
   intro c
   induction c with
   | zero=>intro K t j hj;exact hj
   | succ c ih =>
    intro K t j hj
    rw [oH]
    split
    ·exact ih _ _ _ (nJ hl (nJ hl (ae6 hl hj)))
    ·exact ih _ _ _ (ae6 hl hj)
  exact gen _ _ _ _ k3
def dpF (l:List Int) (k:Nat):aK:=⟨⟨(xt l k).x,(xt l k).y,0⟩,dwV l (uN l k)⟩
def z6 (l:List Int):Nat->Nat->List aK
 | _,0=>[]
 | k,c+1=>dpF l k :: z6 l (dpK l k) c
theorem aqI (l:List Int):∀ k c,(z6 l k c).length=c
 | _,0=>rfl
 | k,c+1=>by simp [z6,aqI l]
def xF (l:List Int) (k n m:Nat):List aK:=z6 l (xJ l k n m) (cD l k n+1+xN l k m)
theorem atV (l:List Int) (k n m:Nat):(xF l k n m).length=cD l k n+1+xN l k m:=aqI _ _ _
def smP (q:aK):Prop:=(∀ j,cH 12 72 (q.p.at j))/\cH 1 3 q.w/\0<q.w/\q.p.z=0
theorem auR (l:List Int) (k:Nat):cH 12 72 (nV l k).1:=by
 have h1:=oT (l:=l) (k:=k) (n:=13) ak
 have h2:=oT (l:=l) (k:=bK l (bK l k)) (n:=4) ak
 unfold nV;split
 ·show cH 12 72 (((eA l k 13-6:Int):Rat)/((1+eA l (bK l (bK l k)) 4:Int):Rat))
  generalize eA l k 13=u at *
  generalize eA l (bK l (bK l k)) 4=v at *
  have hv:v=0\/v=1\/v=2\/v=3:=by omega
  rcases hv with rfl | rfl | rfl | rfl
  ·refine⟨(u-6)*12,?_,ae⟩
   rw [r8,show ((1+0:Int):Rat)=1 by decide +kernel,show (((12:Nat):Int):Rat)=12 by decide +kernel,show ((12:Int):Rat)=12 by decide +kernel]
   generalize ((u-6:Int):Rat)=x
   grind
  ·refine⟨(u-6)*6,?_,ae⟩
   rw [r8,show ((1+1:Int):Rat)=2 by decide +kernel,show (((12:Nat):Int):Rat)=12 by decide +kernel,show ((6:Int):Rat)=6 by decide +kernel]
   generalize ((u-6:Int):Rat)=x
   grind
  ·refine⟨(u-6)*4,?_,ae⟩
   rw [r8,show ((1+2:Int):Rat)=3 by decide +kernel,show (((12:Nat):Int):Rat)=12 by decide +kernel,show ((4:Int):Rat)=4 by decide +kernel]
   generalize ((u-6:Int):Rat)=x
   grind
  ·refine⟨(u-6)*3,?_,ae⟩
   rw [r8,show ((1+3:Int):Rat)=4 by decide +kernel,show (((12:Nat):Int):Rat)=12 by decide +kernel,show ((3:Int):Rat)=3 by decide +kernel]
   generalize ((u-6:Int):Rat)=x
   grind
 ·exact((acC (N:=6) (show (eA l k 13-6).natAbs<=6 by omega)).scale (E:=12)).mono ak
theorem aIm (l:List Int) (k:Nat):cH 1 3 (dwV l k):=by
 have:=ajU l k
 exact acC ae
theorem akx (D N:Nat):cH D N 0:=⟨0,by rw [Rat.zero_mul];rfl,b8 _⟩
theorem akE (l:List Int):∀ k c,∀ q∈z6 l k c,smP q
 | _,0,q,h=>by simp [z6] at h
 | k,c+1,q,h=>by
  simp only [z6,fu] at h
  rcases h with rfl | h
  ·refine⟨fun j=>?_,aIm _ _,aGU _ _,rfl⟩
   match j with
   | 0=>exact auR _ _
   | 1=>exact auR _ _
   | j+2=>exact akx _ _
  ·exact akE l _ c q h
theorem acf {po:List aK} (h:∀ q∈po,smP q):jV po 12 216:=by
 refine⟨by decide,fun k x hx=>?_,fun x hx=>?_,fun q hq=>(h q hq).2.2.1⟩
 ·obtain⟨q,hq,rfl⟩:=da.1 hx
  exact(h q hq).2.1.al4 ((h q hq).1 k)
 ·obtain⟨q,hq,rfl⟩:=da.1 hx
  exact((h q hq).2.1.scale (E:=12)).mono ak
theorem aBD (l:List Int) (k:Nat):cH 2 4 (mA l k):=by
 have h:=oT (l:=l) (k:=k) (n:=4) ak
 exact(acC (N:=2) (show (eA l k 4-2).natAbs<=2 by omega)).scale (E:=2)
theorem aFG (l:List Int) (j:Nat):cH 2 6 (kH l j):=by
 have h1:=oT (l:=l) (k:=j) (n:=3) ak
 have h2:=oT (l:=l) (k:=bK l j) (n:=2) ak
 unfold kH
 generalize eA l j 3=u at *
 generalize eA l (bK l j) 2=v at *
 have hv:v=0\/v=1:=by omega
 rcases hv with rfl | rfl
 ·refine⟨(1+u)*2,?_,ae⟩
  rw [r8,show ((1+0:Int):Rat)=1 by decide +kernel,show (((2:Nat):Int):Rat)=2 by decide +kernel,show ((2:Int):Rat)=2 by decide +kernel]
  generalize ((1+u:Int):Rat)=x
  grind
 ·refine⟨1+u,?_,ae⟩
  rw [show ((1+1:Int):Rat)=2 by decide +kernel,show (((2:Nat):Int):Rat)=2 by decide +kernel]
  generalize ((1+u:Int):Rat)=x
  grind
theorem avQ:cH 2 2 1:=(acC (z:=1) (N:=1) ak).scale (E:=2)
def xA (l:List Int) (k:Nat):Rat:=mA l (bK l k)
def xB (l:List Int) (k n:Nat):Rat:=(zj l (cD l k n) (bK l k) 1).2.1+1
theorem awb (l:List Int) (k n:Nat) (hn:0<n) (h3:n<=3) (po:List aK) (hl:po.length=cD l k n+1+xN l k 1):nK (cD l k n) (xK l k n 1) po (xA l k) (xB l k n):=by
 obtain⟨d1,d2,_⟩:=akK l k hn
 have hN:=(ahr l (bK l k) 1).2
 have ca:=aBD l (bK l k)
 have nD:∀ x:Rat,cH 2 10 x->cH 2 20 (x+1):=fun x h=>(h.ahq avQ).mono ak
 unfold xK xB xA knX zj
 unfold xN at hl
 rcases(show yD l (bK l k) 1=0\/yD l (bK l k) 1=1 by omega) with e | e
 ·rw [e] at hl ⊢
  rw [oH]
  exact⟨d1,ae,by grind,ca.mono ak,nD _ (ca.mono ak),.inl ⟨rfl,ae⟩⟩
 ·rw [e] at hl ⊢
  have hb:rZ l (cD l k n) (ay (cD l k n+1) (mA l (bK l k))) (mA l (bK l k)) (bK l (bK l (bK l k))):=.inl aT
  rw [oH,if_pos hb,oH]
  have hF:=(ac2 l (dZ l (cD l k n) (ay (cD l k n+1) (mA l (bK l k))) (bK l (bK l (bK l k))))).1
  have hc:=aFG l (dZ l (cD l k n) (ay (cD l k n+1) (mA l (bK l k))) (bK l (bK l (bK l k))))
  generalize kH l _=f at *
  have ct:cH 2 10 (mA l (bK l k)+f):=ca.ahq hc
  refine⟨d1,ae,by grind,ca.mono ak,nD _ ct,.inr ⟨mA l (bK l k)+f,by grind,by grind,ct.mono ak,?_,ae⟩⟩
  unfold bR kq
  simp
open ak7 in
theorem acP (l:List Int) (k:Nat) (hl:l.length<=500) (hk:k<=500):nc al 77 ⟨2,[jv l k],true⟩ [.aB 0 2 0 0,bL true] (aW (dpF l k)) ⟨2,[jv l (dpK l k)],true⟩:=by
 have k1:=aqm (l:=l) hl hk
 have hb:=oT (l:=l) (k:=uN l k) (n:=3) ak
 have hd:=ajU l (uN l k)
 refine xn Tryz.func77 ?_
 refine bn ?_
 refine lE 0 rfl rfl rfl (dv l _) (.cons .ptr .nil) .ptr (aFd l k ae ae) rfl (dv l _) (bo.pure _) ?_
 refine bI ?_
 refine aF rfl ?_ ?_<;>intro pa h8
 ·refine av ?_
  refine ao rfl qc ?_
  refine ba ?_
  refine aaM ?_
  refine jL 0 1 _ _ an rfl rfl ?_ ?_
  ·refine av ?_
   refine aJ ?_
   refine aZ 1 _ an rfl ?_
   refine av ?_
   refine aJ ?_
   refine aZ 2 _ an rfl ?_
   refine lE 0 rfl rfl rfl (dv l _) (.cons .ptr (.cons (.cE (.pure rfl)) .nil)) .ptr (rf l (uN l k) 3 ae ae ae ae) rfl (dv l _) rfl ?_
   refine aJ ?_
   refine eT 3 rfl rfl an (.pure (.bin rfl rfl (ajs ak))) gz eU ?_
   refine eT 4 rfl rfl an (.pure (.bin rfl rfl (sf ae ae))) gz eU ?_
   refine aZ 5 _ an rfl ?_
   refine cp aQ (rF (1+(eA l (uN l k) 3).tmod 3) ae ae) ?_
   refine aJ ?_
   refine aZ 6 _ an rfl ?_
   refine rO (aaW (p:=⟨(xt l k).x,(xt l k).y,0⟩) rfl rfl) ?_
   refine aJ ?_
   refine aZ 7 _ an rfl ?_
   refine av ?_
   refine aJ ?_
   refine fx an ?_
   refine aP ?_
   exact ahc
  ·refine av ?_
   refine aJ ?_
   refine jL 0 2 _ _ an rfl rfl ?_ ?_
   ·refine av ?_
    refine aJ ?_
    refine aZ 2 _ an rfl ?_
    refine lE 0 rfl rfl rfl (dv l _) (.cons .ptr (.cons (.cE (.pure rfl)) .nil)) .ptr (rf l (uN l k) 3 ae ae ae ae) rfl (dv l _) rfl ?_
    refine aJ ?_
    refine eT 3 rfl rfl an (.pure (.bin rfl rfl (ajs ak))) gz eU ?_
    refine eT 4 rfl rfl an (.pure (.bin rfl rfl (sf ae ae))) gz eU ?_
    refine aZ 5 _ an rfl ?_
    refine cp aQ (rF (1+(eA l (uN l k) 3).tmod 3) ae ae) ?_
    refine aJ ?_
    refine aZ 6 _ an rfl ?_
    refine rO (aaW (p:=⟨(xt l k).x,(xt l k).y,0⟩) rfl rfl) ?_
    refine aJ ?_
    refine aZ 7 _ an rfl ?_
    refine av ?_
    refine aJ ?_
    refine fx an ?_
    refine aP ?_
    exact ahc
   ·refine lE 0 rfl rfl rfl (dv l _) (.cons .ptr (.cons (.cE (.pure rfl)) .nil)) .ptr (rf l (uN l k) 3 ae ae ae ae) rfl (dv l _) rfl ?_
    refine aJ ?_
    refine eT 3 rfl rfl an (.pure (.bin rfl rfl (ajs ak))) gz eU ?_
    refine eT 4 rfl rfl an (.pure (.bin rfl rfl (sf ae ae))) gz eU ?_
    refine jL 0 5 _ _ an rfl rfl ?_ ?_
    ·refine av ?_
     refine aJ ?_
     refine aZ 5 _ an rfl ?_
     refine cp aQ (rF (1+(eA l (uN l k) 3).tmod 3) ae ae) ?_
     refine aJ ?_
     refine aZ 6 _ an rfl ?_
     refine rO (aaW (p:=⟨(xt l k).x,(xt l k).y,0⟩) rfl rfl) ?_
     refine aJ ?_
     refine aZ 7 _ an rfl ?_
     refine av ?_
     refine aJ ?_
     refine fx an ?_
     refine aP ?_
     exact ahc
    ·refine cp aQ (rF (1+(eA l (uN l k) 3).tmod 3) ae ae) ?_
     refine aJ ?_
     refine aZ 0 _ an rfl ?_
     refine av ?_
     refine aJ ?_
     refine aZ 6 _ an rfl ?_
     refine rO (aaW (p:=⟨(xt l k).x,(xt l k).y,0⟩) rfl rfl) ?_
     refine aJ ?_
     refine aZ 7 _ an rfl ?_
     refine av ?_
     refine aJ ?_
     refine fx an ?_
     refine aP ?_
     exact ahc
 ·first | exact absurd pa ak | cases pa | exact absurd rfl h8
namespace aqB
theorem aM {p q:Prop} (k:q) (e:p=q:=by simp only [e1,e2,e3,e4,p1,p2,p3,q1,q2,q3,l1,t0,t1,r1,r2,r3,r4,Nat.zero_add,Nat.reduceMul,Nat.reduceAdd,b1,b2,b3,b4,b5,b6,i1,i2,i3,i4,i5,i6,Nat.reduceBEq,l1,adg,ir,List.length_map,mG,mB,jB,List.length_cons,List.length_nil,List.length_map,List.set_cons_zero,List.set_cons_succ,Nat.reduceEqDiff,reduceIte,if_true,if_false,eN,fb,aV bH,aV ar,cY,et,LV.kill,b7,af7];exact rfl):p:=e.mpr k
end aqB
open aqB in
theorem auw (l:List Int) (k:Nat) (hl:l.length<=500) (n:Nat) (hn:0<n) (hn6:n<=6) (m:Nat) (hm:m<=2) (hk:k<=500):nc al 32 ⟨2,[jv l k],true⟩ [.aB 0 2 0 0,ai n,ai m,bL true] (.agg [ai (cD l k n),.list 3 ((xK l k n m).map ah),.list 12 ((xF l k n m).map aW)]) ⟨2,[jv l (xE l k n m)],true⟩:=by
 have k1:=nJ (l:=l) hl hk
 have k2:=nJ (l:=l) hl k1
 obtain⟨jS,xo,hd3⟩:=akK l k hn
 have hb:=oT (l:=l) (k:=k) (n:=(n:Int)) ae
 have gD:1+eA l k (n:Int)=(((cD l k n):Nat):Int):=hd3.symm
 have hA:dL .add .i64 1 (eA l k (n:Int))=some (.int .i64 (((cD l k n):Nat):Int)):=by rw [<-gD];exact sf ae ae
 obtain⟨fq,ir,k3,aJU⟩:=aq8 l k (n:=n) (m:=m) hl hk hn hn6 hm
 obtain⟨hN1,hN2⟩:=ahr l (bK l k) m
 have hxN:xN l k m<=2:=by unfold xN;omega
 have hkp:=fh ar 3 (xK l k n m)
 refine xn Tryz.func32 ?_
 refine bE ?_
 refine lE 0 rfl rfl rfl (dv l _) (.cons .ptr (.cons (.cE (.pure rfl)) .nil)) .ptr (rf l k n ae ae ae ae) rfl (dv l _) rfl ?_
 refine ao rfl (.bin rfl rfl (hA)) ?_
 refine bD ?_
 refine lE 0 rfl rfl rfl (dv l _) (.cons .ptr (.cons (.cE (.pure rfl)) (.cons (.cE (.pure rfl)) .nil))) .ptr (aHs l (bK l k) ae (cD l k n) ae ae m hm ae) rfl (dv l _) hkp ?_
 refine bD ?_
 refine kY ((az.cell 9 rfl (fun Z μ w cs h=>afX 39 12 _ _ Z μ w cs h)).trans (az.wG _ 39 12 rfl)) ?_
 refine tV (fun(c j:Nat) (o:List aK) L=>((((((St.mk L.slot (hp [(0,⟨2,[jv l j],true⟩),(8,⟨3,[.agg [.v (.int .i64 0),.v (.slice none 0 0),.v (.slice none 0 0)]],true⟩),(9,⟨3,[.agg [ai (cD l k n),.list 3 ((xK l k n m).map ah),.ref 39 12 0 o.length]],true⟩),(39,⟨12,o.map aW,true⟩)])).put (some 0) (.aB 0 2 0 0)).put (some 3) (bL true)).put (some 8) (.aB 8 3 0 0)).put (some 9) (.aB 9 3 0 0)).put (some 10) (ai o.length))) (fun c j o=>j<=500/\o.length+c=(cD l k n)+1+xN l k m/\o++z6 l j c=xF l k n m/\dqK l j c=xE l k n m) (fun c j o=>c) ((cD l k n)+1+xN l k m) (xJ l k n m) ([]) ⟨k3,by simp,rfl,rfl⟩ ?_
 rintro c j o L1 ⟨hj,ho,hV,hK⟩
 refine bE ?_
 refine ao rfl wg ?_
 refine ao rfl wg ?_
 refine aL ?_
 refine aF rfl ?_ ?_<;>intro adP h30
 ·obtain⟨e,rfl⟩:∃ e,c=e+1:=⟨c-1,ae⟩
  refine aA ?_
  refine gY (fun L=>∃  (L1:St),(True)/\L=((((((St.mk L1.slot (hp [(0,⟨2,[jv l (dpK l j)],true⟩),(8,⟨3,[.agg [.v (.int .i64 0),.v (.slice none 0 0),.v (.slice none 0 0)]],true⟩),(9,⟨3,[.agg [ai (cD l k n),.list 3 ((xK l k n m).map ah),.ref 39 12 0 (o.length+1)]],true⟩),(38,⟨12,[dpF l j].map aW,true⟩),(39,⟨12,(o++[dpF l j]).map aW,true⟩)])).put (some 0) (.aB 0 2 0 0)).put (some 3) (bL true)).put (some 8) (.aB 8 3 0 0)).put (some 9) (.aB 9 3 0 0)).put (some 10) (ai o.length))) ?_ ?_
  ·refine aaM ?_
   refine eT 3 rfl rfl an (.pure (.move _)) gz eU ?_
   refine jL 0 2 _ _ an rfl rfl ?_ ?_
   ·refine av ?_
    refine aJ ?_
    refine jL 1 2 _ _ an rfl rfl ?_ ?_
    ·refine av ?_
     refine aJ ?_
     refine aZ 2 _ an rfl ?_
     refine av ?_
     refine aJ ?_
     refine aZ 4 _ an rfl ?_
     refine lE 0 rfl rfl rfl (dv l _) (.cons .ptr (.cons (.cE (.pure rfl)) .nil)) .ptr (acP l j ae ae) rfl (dv l _) (bH.pure _) ?_
     refine aJ ?_
     refine aZ 5 _ an rfl ?_
     refine av ?_
     refine aJ ?_
     refine aZ 6 _ an rfl ?_
     refine bU rfl yN ?_
     refine aJ ?_
     refine aZ 7 _ an rfl ?_
     refine av ?_
     refine aJ ?_
     refine aZ 8 _ an rfl ?_
     refine av ?_
     refine aJ ?_
     refine fx an ?_
     refine av ?_
     exact ti
    ·refine av ?_
     refine aJ ?_
     refine jL 1 4 _ _ an rfl rfl ?_ ?_
     ·refine av ?_
      refine aJ ?_
      refine aZ 4 _ an rfl ?_
      refine lE 0 rfl rfl rfl (dv l _) (.cons .ptr (.cons (.cE (.pure rfl)) .nil)) .ptr (acP l j ae ae) rfl (dv l _) (bH.pure _) ?_
      refine aJ ?_
      refine aZ 5 _ an rfl ?_
      refine av ?_
      refine aJ ?_
      refine aZ 6 _ an rfl ?_
      refine bU rfl yN ?_
      refine aJ ?_
      refine aZ 7 _ an rfl ?_
      refine av ?_
      refine aJ ?_
      refine aZ 8 _ an rfl ?_
      refine av ?_
      refine aJ ?_
      refine fx an ?_
      refine av ?_
      exact ti
     ·refine lE 0 rfl rfl rfl (dv l _) (.cons .ptr (.cons (.cE (.pure rfl)) .nil)) .ptr (acP l j ae ae) rfl (dv l _) (bH.pure _) ?_
      refine aJ ?_
      refine jL 1 5 _ _ an rfl rfl ?_ ?_
      ·refine av ?_
       refine aJ ?_
       refine aZ 5 _ an rfl ?_
       refine av ?_
       refine aJ ?_
       refine aZ 6 _ an rfl ?_
       refine bU rfl yN ?_
       refine aJ ?_
       refine aZ 7 _ an rfl ?_
       refine av ?_
       refine aJ ?_
       refine aZ 8 _ an rfl ?_
       refine av ?_
       refine aJ ?_
       refine fx an ?_
       refine av ?_
       exact ti
      ·refine av ?_
       refine aJ ?_
       refine aZ 1 _ an rfl ?_
       refine av ?_
       refine aJ ?_
       refine aZ 6 _ an rfl ?_
       refine bU rfl yN ?_
       refine aJ ?_
       refine aZ 7 _ an rfl ?_
       refine av ?_
       refine aJ ?_
       refine aZ 8 _ an rfl ?_
       refine av ?_
       refine aJ ?_
       refine fx an ?_
       refine av ?_
       exact ti
   ·refine av ?_
    refine aJ ?_
    refine jL 0 4 _ _ an rfl rfl ?_ ?_
    ·refine av ?_
     refine aJ ?_
     refine jL 1 4 _ _ an rfl rfl ?_ ?_
     ·refine av ?_
      refine aJ ?_
      refine aZ 4 _ an rfl ?_
      refine lE 0 rfl rfl rfl (dv l _) (.cons .ptr (.cons (.cE (.pure rfl)) .nil)) .ptr (acP l j ae ae) rfl (dv l _) (bH.pure _) ?_
      refine aJ ?_
      refine aZ 5 _ an rfl ?_
      refine av ?_
      refine aJ ?_
      refine aZ 6 _ an rfl ?_
      refine bU rfl yN ?_
      refine aJ ?_
      refine aZ 7 _ an rfl ?_
      refine av ?_
      refine aJ ?_
      refine aZ 8 _ an rfl ?_
      refine av ?_
      refine aJ ?_
      refine fx an ?_
      refine av ?_
      exact ti
     ·refine lE 0 rfl rfl rfl (dv l _) (.cons .ptr (.cons (.cE (.pure rfl)) .nil)) .ptr (acP l j ae ae) rfl (dv l _) (bH.pure _) ?_
      refine aJ ?_
      refine jL 1 5 _ _ an rfl rfl ?_ ?_
      ·refine av ?_
       refine aJ ?_
       refine aZ 5 _ an rfl ?_
       refine av ?_
       refine aJ ?_
       refine aZ 6 _ an rfl ?_
       refine bU rfl yN ?_
       refine aJ ?_
       refine aZ 7 _ an rfl ?_
       refine av ?_
       refine aJ ?_
       refine aZ 8 _ an rfl ?_
       refine av ?_
       refine aJ ?_
       refine fx an ?_
       refine av ?_
       exact ti
      ·refine av ?_
       refine aJ ?_
       refine aZ 1 _ an rfl ?_
       refine av ?_
       refine aJ ?_
       refine aZ 6 _ an rfl ?_
       refine bU rfl yN ?_
       refine aJ ?_
       refine aZ 7 _ an rfl ?_
       refine av ?_
       refine aJ ?_
       refine aZ 8 _ an rfl ?_
       refine av ?_
       refine aJ ?_
       refine fx an ?_
       refine av ?_
       exact ti
    ·refine lE 0 rfl rfl rfl (dv l _) (.cons .ptr (.cons (.cE (.pure rfl)) .nil)) .ptr (acP l j ae ae) rfl (dv l _) (bH.pure _) ?_
     refine aJ ?_
     refine jL 0 5 _ _ an rfl rfl ?_ ?_
     ·refine av ?_
      refine aJ ?_
      refine jL 1 5 _ _ an rfl rfl ?_ ?_
      ·refine av ?_
       refine aJ ?_
       refine aZ 5 _ an rfl ?_
       refine av ?_
       refine aJ ?_
       refine aZ 6 _ an rfl ?_
       refine bU rfl yN ?_
       refine aJ ?_
       refine aZ 7 _ an rfl ?_
       refine av ?_
       refine aJ ?_
       refine aZ 8 _ an rfl ?_
       refine av ?_
       refine aJ ?_
       refine fx an ?_
       refine av ?_
       exact ti
      ·refine av ?_
       refine aJ ?_
       refine aZ 1 _ an rfl ?_
       refine av ?_
       refine aJ ?_
       refine aZ 6 _ an rfl ?_
       refine bU rfl yN ?_
       refine aJ ?_
       refine aZ 7 _ an rfl ?_
       refine av ?_
       refine aJ ?_
       refine aZ 8 _ an rfl ?_
       refine av ?_
       refine aJ ?_
       refine fx an ?_
       refine av ?_
       exact ti
     ·refine av ?_
      refine aJ ?_
      refine aZ 0 _ an rfl ?_
      refine av ?_
      refine aJ ?_
      refine aZ 1 _ an rfl ?_
      refine av ?_
      refine aJ ?_
      refine aZ 6 _ an rfl ?_
      refine bU rfl yN ?_
      refine aJ ?_
      refine aZ 7 _ an rfl ?_
      refine av ?_
      refine aJ ?_
      refine aZ 8 _ an rfl ?_
      refine av ?_
      refine aJ ?_
      refine fx an ?_
      refine av ?_
      exact ti
  ·rintro _ ⟨LR6,-,rfl⟩
   refine aP ?_
   refine cy (az.kill _ 38) ?_
   refine av ?_
   refine ao rfl cM ?_
   refine aL ?_
   exact tD e (dpK l j) (o++[dpF l j]) ⟨aw7 hl hj,by simp;omega,by rw [xh];exact hV,hK⟩
 ·obtain rfl:c=0:=by omega
  rw [z6,mV] at hV
  rw [dqK] at hK
  refine bF ?_
  rw [<-hV,<-hK]
  exact aIg [39] rfl rfl rfl rfl rfl kt (.agg (.cons (.pure rfl) (.cons (.pure hkp) (.cons (fC bH rfl rfl rfl) .nil)))) rfl rfl (dv l _)
theorem azW {α β:Type} [Inhabited α] (f:α->β) (l:List α) (d:α) {i:Nat} (h:i<l.length):(l.map f).take i++[f (l.getD i d)]=(l.map f).take (i+1):=by
 rw [zb,iV,bz,cq h];rfl
open gQ in
theorem aHE (m:M3) (p:V3) (R:Nat) (hR:R<=210000000) (hm:sZ R m) (hp:cB R p):ax al 234 [eJ m,a6 p] (a6 (m3t m p)):=by
 obtain⟨jM,eO,p7,n6⟩:=hm
 refine aS Tryz.func234 (ht:=(fun r=>LV.df r _ (bo.pure _))) ?_
 refine bn ?_
 refine a8 16 an ?_
 refine aP ?_
 refine ao rfl (.fU rfl rfl rfl rfl (eo.aw m) (af5 m) ju) ?_
 refine av ?_
 refine cp au (alv m.a p R ae jM hp) ?_
 refine aP ?_
 refine ao rfl (.fU rfl rfl rfl rfl (eo.aw m) (afm m) ju) ?_
 refine av ?_
 refine cp au (alv m.b p R ae eO hp) ?_
 refine aP ?_
 refine ao rfl (.fU rfl rfl rfl rfl (eo.aw m) (aiv m) ju) ?_
 refine av ?_
 refine cp au (alv m.c p R ae p7 hp) ?_
 refine ba ?_
 exact tj
open gQ in
theorem aHP (m:M3) (p:V3) (R:Nat) (hR:R<=210000000) (hm:sZ R m) (hp:cB R p) (hR2:R<=1000000):ax al 144 [eJ m,a6 p] (a6 (m3p m p)):=by
 have n6:=hm.2.2.2
 have ht:=awe hm hp
 have hmp:LV.pure (eJ m)=true:=eo.pure m
 refine aS Tryz.func144 (ht:=(fun r=>LV.df r _ (bo.pure _))) ?_
 refine bn ?_
 refine a8 6 an ?_
 refine ao rfl aiK ?_
 refine av ?_
 refine cp au (aHE m p R hR hm hp) ?_
 refine av ?_
 refine ao rfl (.fU rfl rfl rfl rfl (eo.aw m) (aqi m) ju) ?_
 refine cp au (aGe (m3t m p) m.t (6*R+4) ae (ht.le ae) (n6.le ae)) ?_
 refine aA ?_
 exact tj
namespace ap2
theorem aM {p q:Prop} (k:q) (e:p=q:=by simp only [e1,e2,e3,e4,p1,p2,p3,q1,q2,q3,l1,t0,t1,r1,r2,r3,r4,Nat.zero_add,Nat.reduceMul,Nat.reduceAdd,b1,b2,b3,b4,b5,b6,i1,i2,i3,i4,i5,i6,Nat.reduceBEq,gL,egr,afR,aV bH,List.length_map,cN,mG,mB,jB,List.length_cons,List.length_nil,List.nil_append,List.map_nil,List.take_nil,List.append_nil,List.set_cons_zero,List.set_cons_succ,Nat.reduceEqDiff,reduceIte,if_true,if_false,eN,fb,aV bo,aV bH,aV ar,cY,et,LV.kill,b7];exact rfl):p:=e.mpr k
end ap2
open ap2 in
theorem aBg (m:M3) (po:List aK) (R:Nat) (hR:R<=1000000) (hm:sZ R m) (hl:po.length<=100) (fq:∀ q∈po,rC R q):ax al 74 [.list 12 (po.map aW),eJ m] (.list 12 ((po.map (ta m)).map aW)):=by
 have hmp:LV.pure (eJ m)=true:=eo.pure m
 refine aS Tryz.func74 (ht:=(fun g=>LV.df g _ (fh bH 12 _))) ?_
 have gL:True:=trivial
 have egr:True:=trivial
 refine oV ?_
 refine kY (az.own (t:=5) 95 12 rfl rfl) ?_
 refine dU (fun(i:Nat) L=>(((((St.mk L.slot (hp [(3,⟨36,[eJ m],true⟩),(95,⟨12,((po.map (ta m)).take i).map aW,true⟩)])).put (some 0) (.list 12 (po.map aW))).put (some 3) (.aB 3 36 0 0)).put (some 5) (.ref 95 12 0 i)).put (some 6) (ai i))) (fun i=>i<=po.length) (fun i=>po.length-i) 0 (b8 _) ?_
 rintro i L1 hi
 refine bE ?_
 refine aF rfl ?_ ?_<;>intro nE qN
 ·have dR:i<po.length:=by omega
  have hq:=fq _ (rX dR)
  have gL:(((po.map (ta m)).take i).map aW).take i=((po.map (ta m)).take i).map aW:=de bw
  have egr:=azW (ta m) po default dR
  refine aA ?_
  refine a8 15 an ?_
  refine av ?_
  refine ao rfl aiK ?_
  refine ba ?_
  refine cp au (aHP m (po.getD i default).p R ae hm hq.1 hR) ?_
  refine ba ?_
  refine rO (aaW rfl rfl) ?_
  refine av ?_
  refine bU rfl (.iw (d:=95) (news:=[aW (ta m (po.getD i default))]) rfl rfl rfl rfl bw (.inl rfl) ak vX vX Z42 tW cs B42 (.inl ⟨27,0,_,rfl,by decide,rfl,rfl,by simp,rfl,by simp [aN,bH.pure]⟩) bw bw ak) ?_
  refine aA ?_
  refine cy (az.kill _ 27) ?_
  refine av ?_
  refine ao rfl cM ?_
  refine aL ?_
  exact lR
 ·obtain rfl:i=po.length:=by omega
  rw [(de ma:(po.map (ta m)).take po.length=po.map (ta m))]
  refine bF ?_
  exact ow [95] rfl rfl (fC bH rfl rfl aT)
def sX (T:V3):M3:=⟨⟨1,0,0⟩,⟨0,1,0⟩,⟨0,0,1⟩,T⟩
theorem aFT {R:Nat} {T:V3} (h1:1<=R) (h:cB R T):sZ R (sX T):=by
 have e0:rl 0=1:=rfl
 have e1:rl 1=1:=rfl
 exact⟨⟨by show rl 1<=_;omega,by show rl 0<=_;omega,by show rl 0<=_;omega⟩,⟨by show rl 0<=_;omega,by show rl 1<=_;omega,by show rl 0<=_;omega⟩,⟨by show rl 0<=_;omega,by show rl 0<=_;omega,by show rl 1<=_;omega⟩,h⟩
open gQ in
theorem aIc :ax al 73 [iL 2] (a6 ⟨0,0,1⟩):=by
 have sE:ax al 13 [iL 1] (ah 1):=rF 1 ak ak
 refine aS Tryz.func73 (ht:=(fun r=>LV.df r _ (bo.pure _))) ?_
 refine dG ?_
 refine cp aQ (sE) ?_
 refine bD ?_
 exact tj
open gQ in
theorem aHU :ax al 26 [] (eJ (⟨⟨1,0,0⟩,⟨0,1,0⟩,⟨0,0,1⟩,⟨0,0,0⟩⟩:M3)):=by
 refine aS Tryz.func26 (ht:=(fun r=>LV.df r _ (eo.pure _))) ?_
 refine aY ?_
 refine cp aQ (aAf) ?_
 refine cp aQ (azA) ?_
 refine cp aQ (aIc) ?_
 refine ao rfl (alc rfl rfl rfl) ?_
 refine ao rfl (amn (a:=⟨1,0,0⟩) (b:=⟨0,1,0⟩) (c:=⟨0,0,1⟩) rfl) ?_
 refine bU rfl (.stE (e:=eJ) (l:=[⟨⟨0,0,0⟩,⟨0,0,0⟩,⟨0,0,0⟩,⟨0,0,0⟩⟩]) (a:=(⟨⟨1,0,0⟩,⟨0,1,0⟩,⟨0,0,1⟩,⟨0,0,0⟩⟩:M3)) rfl rfl rfl aT) ?_
 refine aL ?_
 exact ij [] rfl rfl rfl (eo.aw _) (dS (eo.aw _) rfl) ym (.pure (eo.pure _))
open als in
theorem aEZ (p q:V3) (R:Nat) (hR:R<=100000000) (hp:cB R p) (hq:cB R q):ax al 34 [a6 p,a6 q] (eJ (sX (gi q p))):=by
 refine aS Tryz.func34 (ht:=(fun r=>LV.df r _ (eo.pure _))) ?_
 refine bE ?_
 refine cp am0 (aHU) ?_
 refine av ?_
 refine bU rfl (.stE (e:=eJ) (l:=[⟨⟨0,0,0⟩,⟨0,0,0⟩,⟨0,0,0⟩,⟨0,0,0⟩⟩]) (a:=(⟨⟨1,0,0⟩,⟨0,1,0⟩,⟨0,0,1⟩,⟨0,0,0⟩⟩:M3)) rfl rfl rfl aT) ?_
 refine aD ?_
 refine cp au (aAV q p R ae hq hp) ?_
 refine av ?_
 refine bU rfl (.store (y:=eJ (⟨⟨1,0,0⟩,⟨0,1,0⟩,⟨0,0,1⟩,⟨0,0,0⟩⟩:M3)) (y':=eJ (sX (gi q p))) rfl rfl rfl rfl rfl (eo.aw _) (aoS (⟨⟨1,0,0⟩,⟨0,1,0⟩,⟨0,0,1⟩,⟨0,0,0⟩⟩:M3) _) (by show bC _ _ (LV.aw (a6 _)) (LV.isAgg (a6 _));rw [bo.aw,bo.isAgg];exact ju) ⟨LV.fk (bo.pure _),LV.eP (bo.pure _)⟩) ?_
 refine aA ?_
 refine ao rfl (.fU rfl rfl rfl rfl (eo.aw (sX (gi q p))) (dS (eo.aw (sX (gi q p))) rfl) ym) ?_
 refine bU rfl (.stE (e:=eJ) (l:=[⟨⟨0,0,0⟩,⟨0,0,0⟩,⟨0,0,0⟩,⟨0,0,0⟩⟩]) (a:=(sX (gi q p))) rfl rfl rfl aT) ?_
 refine aL ?_
 exact ij [] rfl rfl rfl (eo.aw _) (dS (eo.aw _) rfl) ym (.pure (eo.pure _))
namespace auf
theorem aM {p q:Prop} (k:q) (e:p=q:=by simp only [e1,e2,e3,e4,p1,p2,p3,q1,q2,q3,l1,t0,t1,r1,r2,r3,r4,Nat.zero_add,Nat.reduceMul,Nat.reduceAdd,b1,b2,b3,b4,b5,b6,i1,i2,i3,i4,i5,i6,Nat.reduceBEq,afR,aV ar,aV bH,cN,mG,mB,jB,List.length_cons,List.length_nil,List.nil_append,List.map_nil,List.take_nil,List.append_nil,List.set_cons_zero,List.set_cons_succ,Nat.reduceEqDiff,reduceIte,if_true,if_false,eN,fb,aV bo,aV bH,aV ar,cY,et,LV.kill,b7];exact rfl):p:=e.mpr k
end auf
open auf in
theorem aGN (d:Nat) (kV:List Rat) (m:M3) (po:List aK) (R:Nat) (hR:R<=1000000) (hm:sZ R m) (hl:po.length<=100) (hkv:kV.length<=100) (fq:∀ q∈po,rC R q):ax al 28 [.agg [ai d,.list 3 (kV.map ah),.list 12 (po.map aW)],eJ m] (.agg [ai d,.list 3 (kV.map ah),.list 12 ((po.map (ta m)).map aW)]):=by
 have hmp:LV.pure (eJ m)=true:=eo.pure m
 have gJ:LV.pure (.agg [ai d,.list 3 (kV.map ah),.list 12 (po.map aW)])=true:=by simp [LV.pure,aN,a7 ar,a7 bH]
 have tX:=a7 ar kV
 have hpo:=a7 bH po
 refine aS Tryz.func28 (ht:=(fun g=>LV.df g _ ahL)) ?_
 refine bn ?_
 refine alb ((az.cm (t:=3) (b:=3) rfl rfl (eo.aw m) rfl hmp).trans (az.cm (t:=2) (b:=2) rfl rfl cs rfl gJ)) ?_
 refine eT 0 rfl rfl an (.pure nk) gz eU ?_
 refine eT 1 rfl rfl an (.pure iB) gz eU ?_
 refine eT 3 rfl rfl an (.pure nk) gz eU ?_
 refine eT 4 rfl rfl an (.pure (.sV rfl tX rfl rfl)) gz eU ?_
 refine eT 6 rfl rfl an (.pure nk) gz eU ?_
 refine eT 7 rfl rfl an (.pure (.sV rfl hpo rfl rfl)) gz eU ?_
 refine eT 8 rfl rfl an (.pure (.sV rfl hmp (eo.aw m) rfl)) (fun b=>LV.lV b _ hmp) eU ?_
 refine aZ 2 _ an rfl ?_
 refine av ?_
 refine aJ ?_
 refine aZ 5 _ an rfl ?_
 refine bU rfl (.iw (d:=7) (news:=kV.map ah) rfl rfl rfl rfl aT (.inl rfl) ak dE dE lU cZ rfl mj (.inr (.inl rfl)) bw bw ak) ?_
 refine aJ ?_
 refine aZ 9 _ an rfl ?_
 refine aM ?_
 refine iP rfl (.cons (.pure (fh bH 12 po)) (.cons (.pure hmp) .nil)) (aBg m po R hR hm hl fq) ?_
 refine aJ ?_
 refine aZ 10 _ an rfl ?_
 refine av ?_
 refine aJ ?_
 refine aZ 11 _ an rfl ?_
 refine av ?_
 refine aJ ?_
 refine fx an ?_
 refine aP ?_
 exact ij [7] rfl rfl rfl cs (dS cs rfl) kt (.agg (.cons (.pure rfl) (.cons (fC ar rfl rfl aT) (.cons (.pure (fh bH 12 _)) .nil))))
def ey (d:Nat) (k:List Rat) (s:Rat):Nat:=if k.length=2*d+2 then d else if s<k.getD (d+1) 0 then d else d+1
def eY (d:Nat) (k:List Rat) (po:List aK) (s:Rat):V3:=uH k d (ey d k s) po s
theorem nK.iv {d:Nat} {k:List Rat} {po:List aK} {a b s:Rat} (h:nK d k po a b) (h1:a<=s) (h2:s<=b) (hr:rl s<=1000):ivK d k (ey d k s) s/\(∀ i j,i<=ey d k s->ey d k s<j->j<=ey d k s+d->k.getD i 0≠k.getD j 0)/\po.length+d+1=k.length:=by
 have hd:=h.d1
 have h3:=h.d3
 have ra:=tH h.ca
 have rb:=tH h.cb
 have cL:=h.ab
 rcases h.kn with⟨rfl,hl⟩ | ⟨t,g1,g2,ht,rfl,hl⟩
 ·have hk:=lj d a b
  have e:ey d (bq d a b) s=d:=by unfold ey;rw [if_pos ae]
  rw [e]
  refine⟨⟨ae,ae,ae,fun x hx=>a9 (acX (R:=1) ra rb x hx) ak,hr,by rw [im _ _ _ _ ae,if_pos ae];exact h1,by rw [hk,im _ _ _ _ ae,if_neg ae];exact h2,bp _,ae,by rw [im _ _ _ _ ae,if_pos ae];exact h1,fun i j1 j2=>by omega⟩,fun i j j1 j2 j3=>?_,ae⟩
  rw [im _ _ _ _ ae,im _ _ _ _ ae,if_pos ae,if_neg ae];grind
 ·have hk:=pH d a t b
  have rt:=tH ht
  have km:∀ x∈bR d a t b,rl x<=100:=fun x hx=>a9 (adz ae ae ae x hx) ak
  have e1:(bR d a t b).getD 0 0=a:=by rw [eH _ _ _ _ _ ae,if_pos ae]
  have e2:(bR d a t b).getD (d+1) 0=t:=by rw [eH _ _ _ _ _ ae,if_neg ae,if_pos ae]
  have e3:(bR d a t b).getD ((bR d a t b).length-1) 0=b:=by rw [hk,eH _ _ _ _ _ ae,if_neg ae,if_neg ae]
  have e4:(bR d a t b).getD d 0=a:=by rw [eH _ _ _ _ _ ae,if_pos ae]
  unfold ey
  rw [if_neg ae,e2]
  by_cases c:s<t
  ·rw [if_pos c]
   refine⟨⟨ae,ae,ae,km,hr,by rw [e1];exact h1,by rw [e3];exact h2,bp _,ae,by rw [e4];exact h1,fun i j1 j2=>by rw [show i=d+1 by omega,e2];exact c⟩,fun i j j1 j2 j3=>?_,ae⟩
   rw [eH _ _ _ _ _ ae,eH _ _ _ _ _ ae,if_pos ae,if_neg ae]
   split<;>grind
  ·rw [if_neg c]
   refine⟨⟨ae,ae,ae,km,hr,by rw [e1];exact h1,by rw [e3];exact h2,ae,ae,by rw [e2];grind,fun i j1 j2=>by omega⟩,fun i j j1 j2 j3=>?_,ae⟩
   rw [eH _ _ _ _ _ ae,eH _ _ _ _ (j) ae,if_neg (show ¬j<d+1 by omega),if_neg (show ¬j<d+2 by omega)]
   split
   ·grind
   ·split<;>grind
theorem nK.pp {d:Nat} {k:List Rat} {po:List aK} {a b s:Rat} {D N:Nat} (h:nK d k po a b) (c:jV po D N) (h1:a<=s) (h2:s<=b):(∃ q∈ny d k po,oG (q.a,q.b) s/\s7 q s=eY d k po s)/\0<cO k d (ey d k s) (aO po) (ay d s):=by
 have hwp:∀ x∈aO po,0<x:=fun x hx=>by obtain⟨z,hz,rfl⟩:=da.1 hx;exact c.p z hz
 rcases h.kn with⟨rfl,hl⟩ | ⟨t,g1,g2,ht,rfl,hl⟩
 ·have hk:=lj d a b
  have e:ey d (bq d a b) s=d:=by unfold ey;rw [if_pos ae]
  unfold eY
  rw [abu hl,e]
  refine⟨⟨⟨d,a,b,po⟩,iM.2 rfl,⟨h1,h2⟩,(aqK h.d1 h.d3 h.ab hl).symm⟩,?_⟩
  have ho:=yP h.ab h1 h2
  rw [af0 h.d1 h.d3 h.ab (by rw [ni,hl]),mn (by rw [ni];omega)]
  exact ac1 cG ho.1 cG _ _ fun i hi=>hwp _ (dK (by rw [ni] at *;omega))
 ·have hk:=pH d a t b
  have hC:(po.map db).length=d+2:=by rw [fo,hl]
  have hw:∀ q∈po.map db,0<q.w:=fun q hq=>by obtain⟨z,hz,rfl⟩:=da.1 hq;exact c.p z hz
  have e2:(bR d a t b).getD (d+1) 0=t:=by rw [eH _ _ _ _ _ ae,if_neg ae,if_pos ae]
  unfold eY
  rw [aeV hl]
  by_cases g:s<t
  ·have e:ey d (bR d a t b) s=d:=by unfold ey;rw [if_neg ae,e2,if_pos g]
   rw [e]
   refine⟨⟨⟨d,a,t,(kR d a t b (po.map db)).map eB⟩,ao3,⟨h1,gR g⟩,ar0 h.d1 h.d3 g1 h.ab hl (aiu g1 g2 hC hw)⟩,?_⟩
   exact aew hwp (by rw [ni];omega) (bp _) fun r j j1 j2 j3=>akh g1 g2 (fun r hr=>by rw [aaZ hr];exact⟨h1,gR g⟩) j1 j2 j3
  ·have e:ey d (bR d a t b) s=d+1:=by unfold ey;rw [if_neg ae,e2,if_neg g]
   have g:t<=s:=by grind
   rw [e]
   refine⟨⟨⟨d,t,b,(kX d a t b (po.map db)).map eB⟩,List.mem_cons_of_mem _ ao3,⟨g,h2⟩,arS h.d1 h.d3 g1 g2 hl (ahh g1 g2 hC hw)⟩,?_⟩
   exact aew hwp (by rw [ni];omega) ae fun r j j1 j2 j3=>awj g1 g2 (fun r hr=>by rw [aaZ hr];exact⟨g,h2⟩) j1 j2 j3
theorem aB4 {a b:Rat} (ca:cH 2 20 a) (cb:cH 2 20 b) (n:Int):∃ m,0<m/\cH (2*m) 720 (ia (a,b) n)/\∀ x,cH 2 20 x->cH (2*m) 720 x:=by
 have hd:=aii n
 have h1:=aag n (show ji n+1≠0 by omega)
 have h2:=zS n (show (0:Int)<ji n+1 by omega)
 have hp:cH (ji n).toNat 12 (nU n):=by
  refine⟨n % (ji n+1),?_,ae⟩
  unfold nU
  rw [Int.toNat_of_nonneg ae]
  exact kP (by have:(0:Rat)<((ji n:Int):Rat):=Rat.intCast_pos.2 ae;grind)
 have hs:∀ x,cH 2 20 x->cH (2*(ji n).toNat) 240 x:=fun x hx=>(hx.scale (E:=(ji n).toNat)).mono ae
 refine⟨(ji n).toNat,ae,?_,fun x hx=>(hs x hx).mono ak⟩
 have hm:=hp.al4 (cb.asI ca)
 rw [fy (ji n).toNat 2] at hm
 exact(hs a ca).ahq hm
theorem abO {a b:Rat} (h:a<b) (n:Int):a<=ia (a,b) n/\ia (a,b) n<=b:=by
 have hp:=aE7 n
 have m1:=ix hp.1 (show 0<=b-a by grind)
 have m2:=ix (show 0<=1-nU n by grind) (show 0<=b-a by grind)
 show a<=a+nU n*(b-a)/\a+nU n*(b-a)<=b
 generalize nU n=p at *
 constructor<;>grind
theorem ahi {a b:Rat} (ca:cH 2 20 a) (cb:cH 2 20 b) (n:Int):rl (ia (a,b) n)<=10:=by
 have h1:=tH ca
 have h2:=tH cb
 have h3:=anA n
 have m1:=jm b a
 have m2:=cX (nU n) (b-a)
 have m3:=kC a (nU n*(b-a))
 show rl (a+nU n*(b-a))<=_
 omega
theorem nK.pt {d:Nat} {k:List Rat} {po:List aK} {a b:Rat} {D N:Nat} (h:nK d k po a b) (c:jV po D N) (n:Int):∃ M,0<M/\M<=N*40 ^ 3*1440 ^ 3/\∀ j,j<3->cH M (N*40 ^ 3*1440 ^ 3) ((eY d k po (ia (a,b) n)).at j):=by
 have su:=abO h.ab n
 obtain⟨⟨q,hq,zT,he⟩,_⟩:=h.pp c su.1 su.2
 obtain⟨E,e0,e1,hP⟩:=h.pcs c
 have hp:=hP q hq
 obtain⟨m,m0,m1,m2⟩:=aB4 h.ca h.cb n
 obtain⟨F,f0,f1,f2⟩:=anj ae m1 (m2 _ hp.ca) (m2 _ hp.cb) zT.1 zT.2 hp.ab
 have ho:=yP hp.ab zT.1 zT.2
 obtain⟨M,g0,g1,g2⟩:=aGD hp.c hp.l f2 f0 ho.1 ho.2
 have hle:N*E ^ d*F ^ d<=N*40 ^ 3*1440 ^ 3:=nz (jX _ (alB e1 ak h.d3)) (alB f1 ak h.d3)
 refine⟨M,g0,a9 g1 hle,fun j hj=>?_⟩
 rw [<-he]
 exact(g2 j hj).mono hle
structure kU (d:Nat) (k:List Rat) (po:List aK) (a b:Rat):Prop where
 dr:nK d k po a b
 c:∃ D N,jV po D N/\D<=2 ^ 200/\N<=2 ^ 200
 z:∀ q∈po,q.p.z=0
def c19 (po:List aK):Prop:=∃ D N,jV po D N/\D<=2 ^ 190/\N<=2 ^ 190
theorem c19.c {po:List aK}:c19 po->∃ D N,jV po D N/\D<=2 ^ 200/\N<=2 ^ 200:=fun⟨D,N,h,a,b⟩=>⟨D,N,h,a9 a an,a9 b an⟩
theorem kU.of {d:Nat} {k:List Rat} {po:List aK} {a b:Rat} (h:nK d k po a b) (hs:∀ q∈po,smP q):kU d k po a b:=⟨h,⟨12,216,acf hs,by decide,by decide⟩,fun q hq=>(hs q hq).2.2.2⟩
theorem aGM (p q:V3) (k:Nat):(gi p q).at k=p.at k-q.at k:=by
 match k with
 | 0=>rfl
 | 1=>rfl
 | k+2=>rfl
theorem az3 (p q:V3) (k:Nat):(sC p q).at k=p.at k+q.at k:=by
 match k with
 | 0=>rfl
 | 1=>rfl
 | k+2=>rfl
theorem aBx {k:List Rat} {d pc:Nat} {v:List Rat} {t:Rat} (hv:pc+1<=v.length) (hp:d<=pc) (hs:∀ i j,i<=pc->pc<j->j<=pc+d->k.getD i 0≠k.getD j 0) (h0:∀ x∈v,x=0):cO k d pc v (ay d t)=0:=by
 rw [<-adJ hv hp hs]
 refine anR _ _ fun i hi=>?_
 rw [h0 _ (dK ae),wH]
theorem avG {d:Nat} {k:List Rat} {po:List aK} {a b s:Rat} (h:nK d k po a b) (hz:∀ q∈po,q.p.z=0) (h1:a<=s) (h2:s<=b) (hr:rl s<=1000):(eY d k po s).z=0:=by
 obtain⟨hi,hs,hl⟩:=h.iv h1 h2 hr
 have rS:=hi.p2
 have e:cO k d (ey d k s) (bc po 2) (ay d s)=0:=aBx (by rw [nS];omega) hi.p1 hs fun x hx=>by
  obtain⟨q,hq,rfl⟩:=da.1 hx
  show q.w*q.p.z=0
  rw [hz q hq,wH]
 show 1/_*cO k d (ey d k s) (bc po 2) (ay d s)=0
 rw [e,wH]
theorem aHh {d:Nat} {k:List Rat} {po:List aK} {a b s:Rat} {D N:Nat} {T:V3} (h:nK d k po a b) (c:jV po D N) (h1:a<=s) (h2:s<=b) (hr:rl s<=1000):eY d k (po.map (xx T)) s=sC (eY d k po s) T:=by
 obtain⟨hi,hs,hl⟩:=h.iv h1 h2 hr
 have rS:=hi.p2
 have hW:=(h.pp c h1 h2).2
 have ew:aO (po.map (xx T))=aO po:=by unfold aO;rw [oe];rfl
 have g:∀ j,cO k d (ey d k s) (bc (po.map (xx T)) j) (ay d s)=cO k d (ey d k s) (bc po j) (ay d s)+T.at j*cO k d (ey d k s) (aO po) (ay d s):=fun j=>by
  rw [<-adJ (by rw [nS,fo];omega) hi.p1 hs,<-adJ (by rw [nS];omega) hi.p1 hs,<-adJ (v:=aO po) (by rw [ni];omega) hi.p1 hs,<-aoC,<-ag9]
  refine wP _ _ _ fun i nw=>?_
  have hx:ey d k s-d+i<po.length:=by have:=hi.p1;omega
  rw [zR (by rw [fo];exact hx),zR hx,abl hx]
  have em:(po.map (xx T)).getD (ey d k s-d+i) default=xx T (po.getD (ey d k s-d+i) default):=by
   rw [bz,iV,cq hx,bz,cq hx];rfl
  rw [em]
  show _*((po.getD (ey d k s-d+i) default).w*(sC (po.getD (ey d k s-d+i) default).p T).at j)=_
  rw [az3]
  grind
 unfold eY uH
 rw [ew,g 0,g 1,g 2]
 have eW:1/cO k d (ey d k s) (aO po) (ay d s)*cO k d (ey d k s) (aO po) (ay d s)=1:=kP cG
 have q:∀ n t:Rat,1/cO k d (ey d k s) (aO po) (ay d s)*(n+t*cO k d (ey d k s) (aO po) (ay d s))=1/cO k d (ey d k s) (aO po) (ay d s)*n+t:=fun n t=>by
  generalize 1/cO k d (ey d k s) (aO po) (ay d s)=r at *
  generalize cO k d (ey d k s) (aO po) (ay d s)=w at *
  have:r*(n+t*w)=r*n+t*(r*w):=by grind
  rw [this,eW,Rat.mul_one]
 unfold jY sC
 simp only [q]
 rfl
theorem kU.sh {d e:Nat} {k m:List Rat} {po pq:List aK} {a b a' b':Rat} (hc:nK d k po a b) (hx:nK e m pq a' b') (sc:∀ q∈po,smP q) (sx:∀ q∈pq,smP q) (i j:Int) :
  c19 (pq.map (xx (gi (eY d k po (ia (a,b) i)) (eY e m pq (ia (a',b') j)))))/\kU e m (pq.map (xx (gi (eY d k po (ia (a,b) i)) (eY e m pq (ia (a',b') j))))) a' b'/\cB 10 (gi (eY d k po (ia (a,b) i)) (eY e m pq (ia (a',b') j)))/\cB 10 (eY d k po (ia (a,b) i))/\cB 10 (eY e m pq (ia (a',b') j)):=by
 obtain⟨M,m0,m1,m2⟩:=hc.pt (acf sc) i
 obtain⟨L,l0,l1,l2⟩:=hx.pt (acf sx) j
 obtain⟨B,hB⟩:∃ B,216*40 ^ 3*1440 ^ 3=B:=⟨_,rfl⟩
 rw [hB] at m1 m2 l1 l2
 have hT:∀ k',k'<3->cH (M*L) (B*L+B*M) ((gi (eY d k po (ia (a,b) i)) (eY e m pq (ia (a',b') j))).at k'):=fun k' hk=>by
  rw [aGM]
  have h2:=(l2 k' hk).scale (E:=M)
  rw [fy L M] at h2
  exact((m2 k' hk).scale (E:=L)).asI h2
 have p1:M*L<=B*B:=nz m1 l1
 have p2:B*L+B*M<=B*B+B*B:=aeX (jX _ l1) (jX _ m1)
 have hML:0<M*L:=Nat.mul_pos m0 l0
 have hsm:B*B+B*B<4294967296 ^ 10:=by rw [<-hB];decide +kernel
 have dq:∀ (x:V3) (D' N':Nat),0<D'->D'<=B*B->N'<=B*B+B*B->(∀ k',k'<3->cH D' N' (x.at k'))->cB 10 x:=fun x D' N' h0 h1 h2 h=>⟨(h 0 ak).rl h0 ae ae ak,(h 1 ak).rl h0 ae ae ak,(h 2 ak).rl h0 ae ae ak⟩
 have hBB:B<=B*B:=Nat.le_mul_of_pos_left _ ae
 have h9:c19 (pq.map (xx (gi (eY d k po (ia (a,b) i)) (eY e m pq (ia (a',b') j))))):=⟨_,_,aFg (acf sx) hML hT,a9 (jX _ p1) (by rw [<-hB];decide +kernel),a9 (aeX (jX _ p1) (jX _ p2)) (by rw [<-hB];decide +kernel)⟩
 refine⟨h9,⟨⟨hx.d1,hx.d3,hx.ab,hx.ca,hx.cb,?_⟩,h9.c,fun q hq=>?_⟩,dq _ _ _ hML p1 p2 hT,dq _ _ _ m0 ae ae m2,dq _ _ _ l0 ae ae l2⟩
 ·rw [fo];exact hx.kn
 ·obtain⟨y,hy,rfl⟩:=da.1 hq
  have hi:=abO hc.ab i
  have hj:=abO hx.ab j
  have z1:=avG hc (fun q hq=>(sc q hq).2.2.2) hi.1 hi.2 (a9 (ahi hc.ca hc.cb i) ak)
  have z2:=avG hx (fun q hq=>(sx q hq).2.2.2) hj.1 hj.2 (a9 (ahi hx.ca hx.cb j) ak)
  show y.p.z+((eY d k po (ia (a,b) i)).z-(eY e m pq (ia (a',b') j)).z)=0
  rw [z1,z2,(sx y hy).2.2.2];decide +kernel
theorem akU (T:V3):ta (sX T)=xx T:=by
 funext q
 show (⟨⟨0+1*q.p.x+0*q.p.y+0*q.p.z+T.x,0+0*q.p.x+1*q.p.y+0*q.p.z+T.y,0+0*q.p.x+0*q.p.y+1*q.p.z+T.z⟩,q.w⟩:aK)=⟨⟨q.p.x+T.x,q.p.y+T.y,q.p.z+T.z⟩,q.w⟩
 congr 2<;>grind
theorem aGR {D W:Nat} {wd:Rat} {lk:lT} {I:fX->Prop} {Q:kM->Prop} (hH:∀ x,I x->x.2.1<D->I (pX x)/\I (qI x)) (hC:∀ x v,I x->v=(false,0,0)\/v=lk (x.1.take 1) (x.1.drop 1)->Q (m9 1 x v)) {s:RunT} (h0:∀ x∈s.1,I x) (h:∀ c∈s.2.2,Q c):∀ c∈(zy D W 1 wd lk s).2.2,Q c:=by
 have:=akw (D:=D) (W:=W) (na:=1) (wd:=wd) (lk:=lk) (fun s=>(∀ x∈s.1,I x)/\∀ c∈s.2.2,Q c) (fun x st n cs hI0=>by
  obtain⟨hA,hI⟩:=hI0
  have iU:=hA x aT
  have dC:∀ y∈st,I y:=fun y hy=>hA y (by simp [hy])
  have hq:∀ v,v=(false,0,0)\/v=lk (x.1.take 1) (x.1.drop 1)->∀ c∈cs++[m9 1 x v],Q c:=fun v hv c hc=>by
   rcases List.mem_append.1 hc with g | g
   ·exact hI c g
   ·rw [iM.1 g];exact hC x v iU hv
  rw [oF]
  split
  ·exact⟨dC,hq _ (.inl rfl)⟩
  ·split
   ·exact⟨dC,hI⟩
   ·split
    ·exact⟨dC,hq _ (.inr rfl)⟩
    ·rename_i lb
     have bM:x.2.1<D:=by
      rcases Nat.lt_or_ge x.2.1 D with g | g
      ·exact g
      ·exact absurd (axJ (x:=x) (wd:=wd) g) lb
     have hh:=hH x iU bM
     refine⟨fun y hy=>?_,hI⟩
     simp only [fu] at hy
     rcases hy with rfl | rfl | hy
     ·exact hh.1
     ·exact hh.2
     ·exact dC y hy) (gU D s.1) (bp _) ⟨h0,h⟩ (amf D W 1 wd lk s)
 exact this.1.2
section
variable {d w:Nat} {wd:Rat} {lk:dJ->dJ->lT} {dm:dJ->Sp} {Q:kM->Prop}
theorem awk {c:dJ}:∀ (l:List dJ) {s:pK},(∀ e∈l,∀ s:pK,(∀ x∈s.2,Q x)->∀ x∈(xz d w wd lk dm c e s).2,Q x)->(∀ x∈s.2,Q x)->∀ x∈(tA d w wd lk dm c l s).2,Q x
 | [],_,_,h=>h
 | e :: l,s,hp,h=>awk l (s:=xz d w wd lk dm c e s) (fun e he=>hp e (by simp [he])) (hp e aT s h)
theorem auL {m:List dJ}:∀ (l:List dJ) {s:pK},(∀ c∈l,∀ e∈m,∀ s:pK,(∀ x∈s.2,Q x)->∀ x∈(xz d w wd lk dm c e s).2,Q x)->(∀ x∈s.2,Q x)->∀ x∈(uc d w wd lk dm l m s).2,Q x
 | [],_,_,h=>h
 | c :: l,s,hp,h=>auL l (s:=tA d w wd lk dm c m s) (fun c hc=>hp c (by simp [hc])) (awk m (hp c aT) h)
theorem awy (hd:d<=10) (hW:w<=4096) {c:dJ}:∀ (l:List dJ) {s:pK} {n:Nat},s.1<=4096->s.2.length<=n->(tA d w wd lk dm c l s).1<=4096/\(tA d w wd lk dm c l s).2.length<=n+2048*l.length
 | [],s,n,h1,h2=>⟨h1,h2⟩
 | e :: l,s,n,h1,h2=>by
  obtain⟨g1,g2⟩:=auO (wd:=wd) (lk:=lk) (dm:=dm) (c:=c) (e:=e) hd hW h1 h2
  obtain⟨k1,k2⟩:=awy hd hW (c:=c) l (s:=xz d w wd lk dm c e s) (n:=n+2048) g1 g2
  refine⟨k1,a9 k2 ?_⟩
  simp only [qJ];omega
theorem aug (hd:d<=10) (hW:w<=4096) {m:List dJ} (hm:m.length<=10):∀ (l:List dJ) {s:pK} {n:Nat},s.1<=4096->s.2.length<=n->(uc d w wd lk dm l m s).1<=4096/\(uc d w wd lk dm l m s).2.length<=n+20480*l.length
 | [],s,n,h1,h2=>⟨h1,h2⟩
 | c :: l,s,n,h1,h2=>by
  obtain⟨g1,g2⟩:=awy (wd:=wd) (lk:=lk) (dm:=dm) hd hW (c:=c) m h1 h2
  obtain⟨k1,k2⟩:=aug hd hW hm l (s:=tA d w wd lk dm c m s) (n:=n+20480) g1 ae
  refine⟨k1,a9 k2 ?_⟩
  simp only [qJ];omega
end
theorem auS {d w:Nat} {wd:Rat} {lA lB:List jC} {Q:kM->Prop} (h:∀ p∈lA,∀ q∈lB,∀ x v,xk d p.a p.b q.a q.b x->v=(false,0,0)\/v=u4 p q (x.1.take 1) (x.1.drop 1)->Q (m9 1 x v)):∀ c∈(uX d w wd lA lB).2,Q c:=by
 refine auL _ (fun c hc e he s hs=>?_) (fun x hx=>by cases hx)
 obtain⟨p,hp,rfl⟩:=da.1 hc
 obtain⟨q,hq,rfl⟩:=da.1 he
 refine aGR (I:=xk d (jJ (lN p)).a (jJ (lN p)).b (jJ (lN q)).a (jJ (lN q)).b) (fun x=>aqW) (fun x v hx hv=>?_) (fun x hx=>?_) hs
 ·rw [acp,acp] at hx
  have hv:v=(false,0,0)\/v=u4 (jJ (lN p)) (jJ (lN q)) (x.1.take 1) (x.1.drop 1):=hv
  rw [acp,acp] at hv
  exact h p hp q hq x v hx hv
 ·rw [iM.1 hx]
  exact awv ..
theorem aEa {d w:Nat} {wd:Rat} {lA lB:List jC} (hd:d<=10) (hw:w<=4096) (hA:lA.length<=10) (hB:lB.length<=10):(uX d w wd lA lB).2.length<=204800:=by
 have:=(aug (wd:=wd) (lk:=fun c e=>u4 (jJ c) (jJ e)) (dm:=fun c=>((jJ c).a,(jJ c).b)) hd hw (m:=lB.map lN) (by rw [fo];exact hB) (lA.map lN) (s:=(0,[])) (n:=0) (b8 _) (bp _)).2
 rw [fo] at this
 unfold uX
 omega
def avK (c:kM):Prop:=∃ s r:Sp,c.1=[s]/\c.2.1=[r]/\rl s.1<=100/\rl s.2<=100/\rl r.1<=100/\rl r.2<=100/\s.1<s.2/\r.1<r.2
theorem aGm {d:Nat} {a b a' b':Rat} (hd:d<=24) (cL:a<b) (aI5:a'<b') (h1:rl a<=30) (h2:rl b<=30) (h3:rl a'<=30) (h4:rl b'<=30) {x:fX} {v:Bool × Nat × Nat} (h:xk d a b a' b' x):avK (m9 1 x v):=by
 obtain⟨s,r,i,j,e,f,rM,hle,hs,hr⟩:=h
 have g1:=hs.rl ae
 have g2:=hr.rl ae
 refine⟨bY a b s,bY a' b' r,by unfold m9;rw [e];rfl,by unfold m9;rw [e];rfl,?_,?_,?_,?_,yG cL hs.2.2.2.1,yG aI5 hr.2.2.2.1⟩
 ·have:=rW h1 h2 g1.1;show rl (a+(b-a)*s.1)<=_;omega
 ·have:=rW h1 h2 g1.2;show rl (a+(b-a)*s.2)<=_;omega
 ·have:=rW h3 h4 g2.1;show rl (a'+(b'-a')*r.1)<=_;omega
 ·have:=rW h3 h4 g2.2;show rl (a'+(b'-a')*r.2)<=_;omega
theorem jV.b4 {C:List Q4} {D N k:Nat} (c:jV (C.map eB) D N) (hw:∀ q∈C,0<q.w) (hN:N<4294967296 ^ k) (hD:D<4294967296 ^ k) (hk:1<=k):∀ q∈C,qE k q:=fun q hq=>by
 obtain⟨n0,n1,n2,n3⟩:=ae9 hw
 exact⟨(c.n 0 _ (by rw [n0];exact da.2 ⟨q,hq,rfl⟩)).rl c.D0 hN hD hk,(c.n 1 _ (by rw [n1];exact da.2 ⟨q,hq,rfl⟩)).rl c.D0 hN hD hk,(c.n 2 _ (by rw [n2];exact da.2 ⟨q,hq,rfl⟩)).rl c.D0 hN hD hk,(c.w _ (by rw [n3];exact da.2 ⟨q,hq,rfl⟩)).rl c.D0 hN hD hk⟩
theorem af4 {po:List aK} {D N k:Nat} (c:jV po D N) (hN:N<4294967296 ^ k) (hD:D<4294967296 ^ k) (hk:1<=k):∀ q∈po.map db,qE k q:=fun q hq=>by
 obtain⟨z,hz,rfl⟩:=da.1 hq
 exact⟨(c.n 0 _ (da.2 ⟨z,hz,rfl⟩)).rl c.D0 hN hD hk,(c.n 1 _ (da.2 ⟨z,hz,rfl⟩)).rl c.D0 hN hD hk,(c.n 2 _ (da.2 ⟨z,hz,rfl⟩)).rl c.D0 hN hD hk,(c.w _ (da.2 ⟨z,hz,rfl⟩)).rl c.D0 hN hD hk⟩
theorem pS {n:Nat} (h:n<=2 ^ 200):n<4294967296 ^ 7:=ug h an
theorem acZ {n E d:Nat} (h:n<=2 ^ 200) (hE:E<=40) (hd:d<=3):n*E ^ d<4294967296 ^ 7:=ug (nz h (alB hE ak hd)) an
theorem agE {d:Nat} {k:List Rat} {po:List aK} {a b s:Rat} (h:kU d k po a b) (h1:a<=s) (h2:s<=b) (hr:rl s<=1000):ax al 19 [.agg [ai d,.list 3 (k.map ah),.list 12 (po.map aW)],ah s] (.bf [a6 (eY d k po s),iL 0]):=by
 obtain⟨hi,hs,hl⟩:=h.dr.iv h1 h2 hr
 obtain⟨D,N,c,hD,hN⟩:=h.c
 exact aIp d k _ s hi po 7 ak hl (c.okR (pS hN) (pS hD) ak) hs
theorem aiR (d:Nat) (k:List Rat) (po:List aK):(ny d k po).length<=2:=by unfold ny;split<;>simp
theorem aAP {q:aK} (h:0<q.w):eB (db q)=q:=by
 obtain⟨⟨x,y,z⟩,w⟩:=q
 have h:(0:Rat)<w:=h
 have e:∀ x:Rat,w*x/w=x:=fun x=>by rw [Rat.mul_comm,vo cG]
 show (⟨⟨w*x/w,w*y/w,w*z/w⟩,w⟩:aK)=_
 rw [e,e,e]
theorem aJf {d:Nat} {a b:Rat} {C:List Q4} (cL:a<b) (hC:C.length=d+1):agp d a b C a b=C:=by
 unfold agp
 refine List.ext_getElem (by simp [hC]) fun i g1 g2=>?_
 have hi:i<d+1:=by simpa using g1
 have e:∀ f:Q4->Rat,blo d a b (C.map f) (ay (d-i) a++ay i b)=f C[i]:=fun f=>by
  rw [<-ax3 ae,aEE cL (by rw [fo];exact hC) ae,bz,iV,cq g2];rfl
 simp only [List.getElem_map,List.getElem_range,pol,e]
theorem aEi (d:Nat) (a b:Rat) (po:List aK) (h1:1<=d) (h6:d<=6) (cL:a<b) (ha:rl a<=64) (hb:rl b<=64) (hl:po.length=d+1) (hpo:∀ q∈po,rC 7 q) (hQ:∀ q∈po.map db,qE 7 q):ax al 39 [.agg [ai d,.list 3 ((bq d a b).map ah),.list 12 (po.map aW)]] (.list 3 [dP (d,bq d a b,po)]):=by
 have hk:=ayN h1 h6 cL ha hb
 have ir:=lj d a b
 have km:=acX (d:=d) ha hb
 have hC:(po.map db).length=d+1:=by rw [fo,hl]
 have hw:∀ q∈po.map db,0<q.w:=fun q hq=>by obtain⟨z,hz,rfl⟩:=da.1 hq;exact(hpo z hz).2.2
 have e:(po.map db).map eB=po:=by
  rw [oe]
  exact(List.map_congr_left fun q hq=>aAP (hpo q hq).2.2).trans (List.map_id _)
 have main:=apK d (bq d a b) [a,b] po (fun _=>po.map db) 1 rfl ak ae ae km (aIX cL) (asL d (bq d a b) po hk ae) (apR d (bq d a b) po 7 ak ak ae ae (fun x hx=>a9 (km x hx) ak) ae hpo)
  (fun i hi=>by
   obtain rfl:i=0:=by omega
   have:=aHX d a b a b (po.map db) 7 h1 h6 gg cL gg ha hb ha hb hC ak ak hQ
   rw [aJf cL hC] at this
   exact this)
  (fun i hi=>by
   obtain rfl:i=0:=by omega
   exact ako d (bq d a b) _ 7 ak ae ae (fun x hx=>a9 (km x hx) ak) ae fun q hq=>⟨hQ q hq,hw q hq⟩)
 have e2:((List.range 1).map fun i=>((d,bq d ([a,b].getD i 0) ([a,b].getD (i+1) 0),((fun _=>po.map db) i).map eB):dJ))=[(d,bq d a b,po)]:=by
  show [((d,bq d a b,(po.map db).map eB):dJ)]=_
  rw [e]
 rw [e2] at main
 exact main
theorem asf {d:Nat} {k:List Rat} {po:List aK} {a b:Rat} (h:kU d k po a b):ax al 39 [.agg [ai d,.list 3 (k.map ah),.list 12 (po.map aW)]] (.list 3 (((ny d k po).map lN).map dP)):=by
 obtain⟨D,N,c,hD,hN⟩:=h.c
 have hd:=h.dr.d1
 have h3:=h.dr.d3
 have ra:=tH h.dr.ca
 have rb:=tH h.dr.cb
 rcases h.dr.kn with⟨rfl,hl⟩ | ⟨t,g1,g2,ht,rfl,hl⟩
 ·rw [abu hl]
  exact aEi d a b po hd ae h.dr.ab ae ae hl (c.okR (pS hN) (pS hD) ak) (af4 c (pS hN) (pS hD) ak)
 ·rw [aeV hl]
  have rt:=tH ht
  have hC:(po.map db).length=d+2:=by rw [fo,hl]
  have hw:∀ q∈po.map db,0<q.w:=fun q hq=>by obtain⟨z,hz,rfl⟩:=da.1 hq;exact c.p z hz
  obtain⟨E,e0,e1,e2⟩:=anj ak ht h.dr.ca h.dr.cb (gR g1) (gR g2) h.dr.ab
  have wA:=aiu g1 g2 hC hw
  have wZ:=ahh g1 g2 hC hw
  have bA:=(arG g1 g2 hl c e0 e2).b4 wA (acZ hN e1 h3) (acZ hD e1 h3) ak
  have bZ:=(asd g1 g2 hl c e0 e2).b4 wZ (acZ hN e1 h3) (acZ hD e1 h3) ak
  exact aGV d a t b po 7 7 hd ae g1 g2 ae ae ae hl ak ak (c.okR (pS hN) (pS hD) ak) (fun q hq=>⟨a9 (af4 c (pS hN) (pS hD) ak q hq).1 ak,a9 (af4 c (pS hN) (pS hD) ak q hq).2.1 ak,a9 (af4 c (pS hN) (pS hD) ak q hq).2.2.1 ak,a9 (af4 c (pS hN) (pS hD) ak q hq).2.2.2 ak⟩) (aCG hd ae g1 g2 ae ae ae) (aBj g1 g2) ak (fun q hq=>⟨bA q hq,wA q hq⟩) (fun q hq=>⟨bZ q hq,wZ q hq⟩) (by simp [kR];omega) (by simp [kX];omega)
theorem kU.pk {d:Nat} {k:List Rat} {po:List aK} {a b:Rat} (h:kU d k po a b) {Dp:Nat} (hDp:Dp<=24):∀ q∈ny d k po,∃ D N,yX q Dp D N:=fun q hq=>by
 obtain⟨D,N,c,hD,hN⟩:=h.c
 obtain⟨E,e0,e1,hP⟩:=h.dr.pcs c
 have hp:=hP q hq
 have h7:(4294967296:Nat) ^ 7<=4294967296 ^ 80:=Nat.pow_le_pow_right ak ak
 have ra:=tH hp.ca
 have rb:=tH hp.cb
 obtain⟨qd,qa,qb,qp⟩:=q
 obtain rfl:qd=d:=hp.dd
 exact⟨_,_,aEf h.dr.d1 h.dr.d3 hp.ab (by show rl qa<=30;exact a9 ra ak) (by show rl qb<=30;exact a9 rb ak) hp.l hp.c (yw (acZ hN e1 h.dr.d3) h7) (yw (acZ hD e1 h.dr.d3) h7) hDp⟩
theorem ake {d e:Nat} {k m:List Rat} {po pq:List aK} {a b a' b':Rat} (h:kU d k po a b) (g:kU e m pq a' b') (dn w:Nat) (wd:Rat) (hd:dn<=10) (hw:w<=4096) (hwd:rl wd<=100) (hVa:ax al 37 [.agg [ai dn,ai w,ah wd]] (bL true)) :
  ax al 14 [.agg [ai d,.list 3 (k.map ah),.list 12 (po.map aW)],.agg [ai e,.list 3 (m.map ah),.list 12 (pq.map aW)],.agg [ai dn,ai w,ah wd]] (.bf [.list 4 ((uX dn w wd (ny d k po) (ny e m pq)).2.map fO),iL 0]):=by
 have h3:=h.dr.d3
 have g3:=g.dr.d3
 have hl:po.length<=d+2:=by rcases h.dr.kn with⟨_,e⟩ | ⟨_,_,_,_,_,e⟩<;>omega
 have gl:pq.length<=e+2:=by rcases g.dr.kn with⟨_,e⟩ | ⟨_,_,_,_,_,e⟩<;>omega
 have l1:=aiR d k po
 have l2:=aiR e m pq
 exact aIx d e k m po pq ae ae h.z g.z _ _ ae ae dn w wd hd hw hwd hVa (asf h) (asf g) (h.pk ae) (g.pk ae)
theorem kU.cells {d e:Nat} {k m:List Rat} {po pq:List aK} {a b a' b':Rat} (h:kU d k po a b) (g:kU e m pq a' b') {dn w:Nat} {wd:Rat} (hd:dn<=24):∀ c∈(uX dn w wd (ny d k po) (ny e m pq)).2,avK c:=auS fun p hp q hq x v hx _=>by
 obtain⟨_,_,kp⟩:=h.pk hd p hp
 obtain⟨_,_,kq⟩:=g.pk hd q hq
 exact aGm hd kp.ab kq.ab kp.ra kp.rb kq.ra kq.rb hx
theorem ahX {d:Nat} {a t b:Rat} (h1:1<=d) (h3:d<=3) (cj:a<t) (dp:t<b) {v:List Rat} (hv:v.length=d+2):cO (bR d a t b) d d v (ay d t)=cO (bR d a t b) d (d+1) v (ay d t):=by
 have h:=aqE (s:=t) h1 h3 cj dp hv
 rw [adB dp rfl,show (1:Rat)-0=1 by decide +kernel,afJ] at h
 rw [<-h,if_pos rfl,List.replicate_zero,mV,Nat.sub_zero]
theorem nK.all {d:Nat} {k:List Rat} {po:List aK} {a b s:Rat} {D N:Nat} (h:nK d k po a b) (c:jV po D N):∀ q∈ny d k po,oG (q.a,q.b) s->s7 q s=eY d k po s:=fun q hq hs=>by
 rcases h.kn with⟨rfl,hl⟩ | ⟨t,g1,g2,ht,rfl,hl⟩
 ·have hk:=lj d a b
  have e:ey d (bq d a b) s=d:=by unfold ey;rw [if_pos ae]
  rw [abu hl] at hq
  rw [iM.1 hq]
  unfold eY
  rw [e]
  exact(aqK h.d1 h.d3 h.ab hl).symm
 ·have hk:=pH d a t b
  have hC:(po.map db).length=d+2:=by rw [fo,hl]
  have hw:∀ q∈po.map db,0<q.w:=fun q hq=>by obtain⟨z,hz,rfl⟩:=da.1 hq;exact c.p z hz
  have e2:(bR d a t b).getD (d+1) 0=t:=by rw [eH _ _ _ _ _ ae,if_neg ae,if_pos ae]
  have hA:s7 ⟨d,a,t,(kR d a t b (po.map db)).map eB⟩ s=uH (bR d a t b) d d po s:=ar0 h.d1 h.d3 g1 h.ab hl (aiu g1 g2 hC hw)
  have hZ:s7 ⟨d,t,b,(kX d a t b (po.map db)).map eB⟩ s=uH (bR d a t b) d (d+1) po s:=arS h.d1 h.d3 g1 g2 hl (ahh g1 g2 hC hw)
  rw [aeV hl] at hq
  simp only [fu,jn,or_false] at hq
  unfold eY
  rcases hq with rfl | rfl
  ·rw [hA]
   have wQ:s<=t:=hs.2
   by_cases g:s<t
   ·have e:ey d (bR d a t b) s=d:=by unfold ey;rw [if_neg ae,e2,if_pos g]
    rw [e]
   ·obtain rfl:s=t:=by grind
    have e:ey d (bR d a s b) s=d+1:=by unfold ey;rw [if_neg ae,e2,if_neg g]
    rw [e]
    unfold uH
    rw [ahX h.d1 h.d3 g1 g2 (by rw [ni,hl]),ahX h.d1 h.d3 g1 g2 (by rw [nS,hl]),ahX h.d1 h.d3 g1 g2 (by rw [nS,hl]),ahX h.d1 h.d3 g1 g2 (by rw [nS,hl])]
  ·have ku:t<=s:=hs.1
   have e:ey d (bR d a t b) s=d+1:=by unfold ey;rw [if_neg ae,e2,if_neg cG]
   rw [hZ,e]
theorem aoT {q:jC} {R:Nat} (hc:qq q.po q.d R) (cL:q.a<q.b) {σ:Sp} (h0:0<=σ.1) (hl:σ.1<σ.2) (h1:σ.2<=1) (t:Rat) :
  jd (gZ q (bY q.a q.b σ)) ((t-(bY q.a q.b σ).1)/((bY q.a q.b σ).2-(bY q.a q.b σ).1))=s7 q t:=by
 have bM:(bY q.a q.b σ).1<(bY q.a q.b σ).2:=yG cL hl
 have eC:gZ q (bY q.a q.b σ)=nd q.po σ.1 σ.2:=by
  unfold gZ
  rw [show ((bY q.a q.b σ).1-q.a)/(q.b-q.a)=σ.1 from adT cL σ.1,show ((bY q.a q.b σ).2-q.a)/(q.b-q.a)=σ.2 from adT cL σ.2]
 rw [eC,aI1 hc h0 cG cG h1]
 unfold s7
 congr 1
 have hW:q.b-q.a≠0:=by grind
 have hD:(bY q.a q.b σ).2-(bY q.a q.b σ).1=(q.b-q.a)*(σ.2-σ.1):=by
  show q.a+(q.b-q.a)*σ.2-(q.a+(q.b-q.a)*σ.1)=_
  grind
 have hD0:(bY q.a q.b σ).2-(bY q.a q.b σ).1≠0:=by grind
 have e1:(t-(bY q.a q.b σ).1)/((bY q.a q.b σ).2-(bY q.a q.b σ).1)*((bY q.a q.b σ).2-(bY q.a q.b σ).1)=t-(bY q.a q.b σ).1:=kP hD0
 have e2:(t-q.a)/(q.b-q.a)*(q.b-q.a)=t-q.a:=kP hW
 have e3:(bY q.a q.b σ).1=q.a+(q.b-q.a)*σ.1:=rfl
 have e4:(σ.1+(t-(bY q.a q.b σ).1)/((bY q.a q.b σ).2-(bY q.a q.b σ).1)*(σ.2-σ.1))*(q.b-q.a)=(t-q.a)/(q.b-q.a)*(q.b-q.a):=by
  rw [e2]
  rw [hD] at e1
  rw [hD,e3]
  rw [e3] at e1
  generalize (t-(q.a+(q.b-q.a)*σ.1))/((q.b-q.a)*(σ.2-σ.1))=z at *
  grind
 have e5:=congrArg (·/(q.b-q.a)) e4
 simp only [vo hW] at e5
 exact e5
theorem ava {p q:jC} {Dp D N D' N':Nat} (hp:yX p Dp D N) (hq:yX q Dp D' N') (hDp:Dp<=23) {σ τ:Sp} (hs:mh Dp σ) (ht:mh Dp τ) (h0:(u4 p q [bY p.a p.b σ] [bY q.a q.b τ]).2.1≠0) :
  (∀ t u t' u',oG (bY p.a p.b σ) t->oG (bY q.a q.b τ) u->oG (bY p.a p.b σ) t'->oG (bY q.a q.b τ) u'->s7 p t=s7 q u->s7 p t'=s7 q u'->t=t'/\u=u') /\
  ((u4 p q [bY p.a p.b σ] [bY q.a q.b τ]).2.1=3->∀ t u,oG (bY p.a p.b σ) t->oG (bY q.a q.b τ) u->s7 p t=s7 q u->t≠(bY p.a p.b σ).1/\t≠(bY p.a p.b σ).2/\u≠(bY q.a q.b τ).1/\u≠(bY q.a q.b τ).2):=by
 have h1:=ahV hp hDp hs
 have h2:=ahV hq hDp ht
 have bM:(bY p.a p.b σ).1<(bY p.a p.b σ).2:=yG hp.ab hs.2.2.2.1
 have zV:(bY q.a q.b τ).1<(bY q.a q.b τ).2:=yG hq.ab ht.2.2.2.1
 have pe:=fun t=>aoT hp.c hp.ab hs.2.2.1 hs.2.2.2.1 hs.2.2.2.2 t
 have qe:=fun t=>aoT hq.c hq.ab ht.2.2.1 ht.2.2.2.1 ht.2.2.2.2 t
 have eK:(u4 p q [bY p.a p.b σ] [bY q.a q.b τ]).2.1=0\/(u4 p q [bY p.a p.b σ] [bY q.a q.b τ]).2.1=nI (tk ((bY p.a p.b σ).2-(bY p.a p.b σ).1) (gZ p (bY p.a p.b σ))) (tk ((bY q.a q.b τ).2-(bY q.a q.b τ).1) (gZ q (bY q.a q.b τ))) (lkU p (bY p.a p.b σ)) (lkU q (bY q.a q.b τ)) ((gZ p (bY p.a p.b σ)).map aK.p) ((gZ q (bY q.a q.b τ)).map aK.p):=by
  show (yp _ _ _).2.1=0\/(yp _ _ _).2.1=_
  unfold yp
  split
  ·exact .inr rfl
  ·exact .inl rfl
 have eK:=eK.resolve_left h0
 rw [eK] at h0 ⊢
 generalize bY p.a p.b σ=S at *
 generalize bY q.a q.b τ=T at *
 have pw:0<S.2-S.1:=by grind
 have qw:0<T.2-T.1:=by grind
 refine⟨fun t u t' u' a1 a2 a3 a4 g1 g2=>?_,fun hk t u a1 a2 g=>?_⟩
 ·rw [<-pe,<-qe] at g1 g2
  have hh:=ayp h1.cv h2.cv pw qw h0 (yP bM a1.1 a1.2) (yP bM a3.1 a3.2) (yP zV a2.1 a2.2) (yP zV a4.1 a4.2) g1 g2
  have cn:∀ w x y z:Rat,0<w->(x-z)/w=(y-z)/w->x=y:=fun w x y z hw e=>by
   have n9:(x-z)/w*w=x-z:=kP cG
   have sY:(y-z)/w*w=y-z:=kP cG
   rw [e,sY] at n9
   grind
  exact⟨cn _ _ _ _ pw hh.1,cn _ _ _ _ qw hh.2⟩
 ·rw [<-pe,<-qe] at g
  have hh:=aGd h1.cv.c h2.cv.c hk (yP bM a1.1 a1.2) (yP zV a2.1 a2.2) g
  refine⟨fun e=>hh.1 (adB bM e),fun e=>hh.2.1 (acr bM e),fun e=>hh.2.2.1 (adB zV e),fun e=>hh.2.2.2 (acr zV e)⟩
structure aI9 (d:Nat) (k:List Rat) (po:List aK) (a b:Rat) (e:Nat) (m:List Rat) (pq:List aK) (a' b':Rat) (s r:Sp) (K:Nat):Prop where
 r1:rl s.1<=100
 r2:rl s.2<=100
 r3:rl r.1<=100
 r4:rl r.2<=100
 l1:s.1<s.2
 l2:r.1<r.2
 i1:a<=s.1
 i2:s.2<=b
 i3:a'<=r.1
 i4:r.2<=b'
 once:K≠1->∀ t u t' u',oG s t->oG r u->oG s t'->oG r u'->eY d k po t=eY e m pq u->eY d k po t'=eY e m pq u'->t=t'/\u=u'
 ends:K=3->∀ t u,oG s t->oG r u->eY d k po t=eY e m pq u->t≠s.1/\t≠s.2/\u≠r.1/\u≠r.2
theorem nK.dom {d:Nat} {k:List Rat} {po:List aK} {a b:Rat} (h:nK d k po a b):∀ q∈ny d k po,a<=q.a/\q.b<=b:=fun q hq=>by
 rcases h.kn with⟨rfl,hl⟩ | ⟨t,g1,g2,ht,rfl,hl⟩
 ·rw [abu hl] at hq
  rw [iM.1 hq]
  exact⟨gg,gg⟩
 ·rw [aeV hl] at hq
  simp only [fu,jn,or_false] at hq
  rcases hq with rfl | rfl
  ·exact⟨gg,gR g2⟩
  ·exact⟨gR g1,gg⟩
theorem kU.once {d e:Nat} {k m:List Rat} {po pq:List aK} {a b a' b':Rat} (h:kU d k po a b) (g:kU e m pq a' b') {dn w:Nat} {wd:Rat} (hd:dn<=23):∀ c∈(uX dn w wd (ny d k po) (ny e m pq)).2,∃ s r,c.1=[s]/\c.2.1=[r]/\aI9 d k po a b e m pq a' b' s r c.2.2.1:=auS fun p hp q hq x v hx hv=>by
 obtain⟨D,N,c,_,_⟩:=h.c
 obtain⟨D',N',c',_,_⟩:=g.c
 obtain⟨_,_,kp⟩:=h.pk (show dn<=24 by omega) p hp
 obtain⟨_,_,kq⟩:=g.pk (show dn<=24 by omega) q hq
 obtain⟨σ,τ,i,j,ex,f,rM,hle,hs,hr⟩:=hx
 have up:∀ {n:Nat} {s:Sp},n<=dn->mh n s->mh dn s:=fun hn h=>⟨h.1.le hn,h.2.1.le hn,h.2.2⟩
 have hs:=up hle hs
 have hr:=up hle hr
 have g1:=hs.rl ae
 have g2:=hr.rl ae
 have ip:=h.dr.dom p hp
 have iq:=g.dr.dom q hq
 have n9:=ade kp.ab hs.2.2.1 (show σ.1<=1 by have:=hs.2.2.2;grind)
 have sY:=ade kp.ab (show 0<=σ.2 by have:=hs.2.2;grind) hs.2.2.2.2
 have q3':=ade kq.ab hr.2.2.1 (show τ.1<=1 by have:=hr.2.2.2;grind)
 have q4':=ade kq.ab (show 0<=τ.2 by have:=hr.2.2;grind) hr.2.2.2.2
 have eh:∀ t,oG (bY p.a p.b σ) t->s7 p t=eY d k po t:=fun t ht=>h.dr.all c p hp ⟨fe n9.1 ht.1,fe ht.2 sY.2⟩
 have eg:∀ t,oG (bY q.a q.b τ) t->s7 q t=eY e m pq t:=fun t ht=>g.dr.all c' q hq ⟨fe q3'.1 ht.1,fe ht.2 q4'.2⟩
 have hK:(m9 1 x v).2.2.1≠1->v.2.1≠0/\(m9 1 x v).2.2.1=v.2.1/\v=u4 p q [bY p.a p.b σ] [bY q.a q.b τ]:=fun hk=>by
  have mH:kT v≠1:=hk
  unfold kT at mH
  by_cases z:v.2.1=0
  ·rw [if_pos z] at mH;exact absurd rfl mH
  ·refine⟨z,?_,?_⟩
   ·show kT v=v.2.1
    unfold kT;rw [if_neg z]
   ·rcases hv with e0 | e0
    ·rw [e0] at z;exact absurd rfl z
    ·rw [e0,ex];rfl
 refine⟨bY p.a p.b σ,bY q.a q.b τ,by unfold m9;rw [ex];rfl,by unfold m9;rw [ex];rfl,?_⟩
 refine⟨?_,?_,?_,?_,yG kp.ab hs.2.2.2.1,yG kq.ab hr.2.2.2.1,fe ip.1 n9.1,fe sY.2 ip.2,fe iq.1 q3'.1,fe q4'.2 iq.2,fun hk=>?_,fun hk=>?_⟩
 ·have:=rW kp.ra kp.rb g1.1;show rl (p.a+(p.b-p.a)*σ.1)<=_;omega
 ·have:=rW kp.ra kp.rb g1.2;show rl (p.a+(p.b-p.a)*σ.2)<=_;omega
 ·have:=rW kq.ra kq.rb g2.1;show rl (q.a+(q.b-q.a)*τ.1)<=_;omega
 ·have:=rW kq.ra kq.rb g2.2;show rl (q.a+(q.b-q.a)*τ.2)<=_;omega
 ·obtain⟨z,_,ev⟩:=hK hk
  rw [ev] at z
  have main:=(ava kp kq hd hs hr z).1
  exact fun t u t' u' a1 a2 a3 a4 k1 k2=>main t u t' u' a1 a2 a3 a4 (by rw [eh t a1,eg u a2,k1]) (by rw [eh t' a3,eg u' a4,k2])
 ·obtain⟨z,z2,ev⟩:=hK (by rw [hk];decide)
  have z3:v.2.1=3:=z2.symm.trans hk
  rw [ev] at z z3
  have main:=(ava kp kq hd hs hr z).2 z3
  exact fun t u a1 a2 k1=>main t u a1 a2 (by rw [eh t a1,eg u a2,k1])
theorem aF4 {x y z u v:LV} (h1:x.pure=true) (h2:y.pure=true) (h3:z.pure=true) (h4:u.pure=true) (h5:v.pure=true):∀ g,(LV.bf [x,y,z,u,v]).bV g=.bf [x,y,z,u,v]:=fun g=>by
 simp only [LV.bV,du,LV.df g x h1,LV.df g y h2,LV.df g z h3,LV.df g u h4,LV.df g v h5]
theorem aJk {P:Program} {L:St} {a1 a2 a3 a4 t:Nat} {T1 T2 T3 T4:TypeId} {b1 b2 b3 b4 s1 s2 s3 s4:Nat} {x1 x2 x3 x4 x5:LV} {m1 m2 m3 m4:Bool} {n1 n2 n3 n4:Nat} {g1 g2 g3 g4:Bool}
  (h1:L.slot a1=.aB b1 s1 0 0) (k1:L.heap b1=some ⟨s1,[x1],m1⟩) (z1:x1.aw=s1) (c1:x1.at 0 n1 g1=some x1) (y1:bC P T1 n1 g1) (w1:x1.pure=true)
  (h2:L.slot a2=.aB b2 s2 0 0) (k2:L.heap b2=some ⟨s2,[x2],m2⟩) (z2:x2.aw=s2) (c2:x2.at 0 n2 g2=some x2) (y2:bC P T2 n2 g2) (w2:x2.pure=true)
  (h3:L.slot a3=.aB b3 s3 0 0) (k3:L.heap b3=some ⟨s3,[x3],m3⟩) (z3:x3.aw=s3) (c3:x3.at 0 n3 g3=some x3) (y3:bC P T3 n3 g3) (w3:x3.pure=true)
  (h4:L.slot a4=.aB b4 s4 0 0) (k4:L.heap b4=some ⟨s4,[x4],m4⟩) (z4:x4.aw=s4) (c4:x4.at 0 n4 g4=some x4) (y4:bC P T4 n4 g4) (w4:x4.pure=true)
  (h5:L.slot t=x5) (w5:x5.pure=true):pn P [.cell a1 T1,.cell a2 T2,.cell a3 T3,.cell a4 T4,.tmp t] L (.bf [x1,x2,x3,x4,x5]) [] :=
 ⟨[x1,x2,x3,x4,x5],[x1,x2,x3,x4,x5],(L.b9 []).heap,[],.cons ⟨b1,s1,0,0,_,x1,n1,g1,h1,k1,rfl,rfl,z1,c1,y1⟩ (.cons ⟨b2,s2,0,0,_,x2,n2,g2,h2,k2,rfl,rfl,z2,c2,y2⟩ (.cons ⟨b3,s3,0,0,_,x3,n3,g3,h3,k3,rfl,rfl,z3,c3,y3⟩ (.cons ⟨b4,s4,0,0,_,x4,n4,g4,h4,k4,rfl,rfl,z4,c4,y4⟩ (.cons h5 .nil)))),sw [] rfl,.cons (.cE (.pure w1)) (.cons (.cE (.pure w2)) (.cons (.cE (.pure w3)) (.cons (.cE (.pure w4)) (.cons (.cE (.pure w5)) .nil)))),List.nodup_nil,rfl,fun k b h=>by simp at h,rfl⟩
namespace atY
theorem aM {p q:Prop} (k:q) (e:p=q:=by simp only [e1,e2,e3,e4,p1,p2,p3,q1,q2,q3,l1,t0,t1,r1,r2,r3,r4,Nat.zero_add,Nat.reduceMul,Nat.reduceAdd,b1,b2,b3,b4,b5,b6,i1,i2,i3,i4,i5,i6,Nat.reduceBEq,h0,h1,ub,List.length_map,cN,List.set_cons_zero,List.set_cons_succ,Nat.reduceEqDiff,reduceIte,if_true,if_false,eN,fb,aV bo,aV bH,aV ar,cY,et,LV.kill,b7];exact rfl):p:=e.mpr k
end atY
open atY in
theorem auQ (d:Nat) (k:List Rat) (po:List aK) (a b:Rat) (ir:0<k.length) (hk9:k.length<=1000) (h0:k.getD 0 0=a) (h1:k.getD (k.length-1) 0=b):ax al 33 [.agg [ai d,.list 3 (k.map ah),.list 12 (po.map aW)]] (aH (a,b)):=by
 have gJ:LV.pure (.agg [ai d,.list 3 (k.map ah),.list 12 (po.map aW)])=true:=by simp [LV.pure,aN,a7 ar,a7 bH]
 have ub:((k.length:Nat):Int).toNat-1=k.length-1:=by omega
 refine aS Tryz.func33 (ht:=(fun g=>LV.df g _ (cg.pure _))) ?_
 refine aY ?_
 refine a8 13 an ?_
 refine bE ?_
 refine ao rfl kL ?_
 refine aY ?_
 exact tO
namespace auU
theorem aM {p q:Prop} (k:q) (e:p=q:=by simp only [e1,e2,e3,e4,p1,p2,p3,q1,q2,q3,l1,t0,t1,r1,r2,r3,r4,Nat.zero_add,Nat.reduceMul,Nat.reduceAdd,b1,b2,b3,b4,b5,b6,i1,i2,i3,i4,i5,i6,Nat.reduceBEq,z7,afj,afR,af7,List.set_cons_zero,List.set_cons_succ,Nat.reduceEqDiff,reduceIte,if_true,if_false,eN,fb,aV bo,aV bH,aV ar,cY,et,LV.kill,b7];exact rfl):p:=e.mpr k
end auU
open auU in
theorem aHA (l:List Int) (i j v:Int) (k1 k2 k3:Nat) (d e:Nat) (k m:List Rat) (po pq pf:List aK) (a b a' b' t u:Rat) (P Q:V3) (ir:0<k.length) (hk9:k.length<=1000) (w7:0<m.length) (hm9:m.length<=1000) (ha:k.getD 0 0=a) (hb:k.getD (k.length-1) 0=b) (ha':m.getD 0 0=a') (pA:m.getD (m.length-1) 0=b') (hNx:nc al 31 ⟨2,[jv l 0],true⟩ [.aB 0 2 0 0,iL 5] (iL v) ⟨2,[jv l k1],true⟩) (xQ:nc al 32 ⟨2,[jv l k1],true⟩ [.aB 0 2 0 0,iL 3,iL 1,bL true] (.agg [ai d,.list 3 (k.map ah),.list 12 (po.map aW)]) ⟨2,[jv l k2],true⟩) (y8:nc al 32 ⟨2,[jv l k2],true⟩ [.aB 0 2 0 0,iL 3,iL 1,bL true] (.agg [ai e,.list 3 (m.map ah),.list 12 (pq.map aW)]) ⟨2,[jv l k3],true⟩) (hW1:ax al 18 [aH (a,b),iL i] (ah t)) (hW2:ax al 18 [aH (a',b'),iL j] (ah u)) (hE1:ax al 19 [.agg [ai d,.list 3 (k.map ah),.list 12 (po.map aW)],ah t] (.bf [a6 P,iL 0])) (zZ:ax al 19 [.agg [ai e,.list 3 (m.map ah),.list 12 (pq.map aW)],ah u] (.bf [a6 Q,iL 0])) (hSh:ax al 34 [a6 Q,a6 P] (eJ (sX (gi P Q)))) (hMv:ax al 28 [.agg [ai e,.list 3 (m.map ah),.list 12 (pq.map aW)],eJ (sX (gi P Q))] (.agg [ai e,.list 3 (m.map ah),.list 12 ((pq.map (ta (sX (gi P Q)))).map aW)])) (hV1:v > 0->pf=(pq.map (ta (sX (gi P Q))))) (hV2:¬v > 0->pf=pq):ax al 10 [.list 1 (l.map fR),iL i,iL j] (.bf [.agg [ai d,.list 3 (k.map ah),.list 12 (po.map aW)],.agg [ai e,.list 3 (m.map ah),.list 12 (pf.map aW)],ah t,ah u,bL (decide (v > 0))]):=by
 have gJ:LV.pure (.agg [ai d,.list 3 (k.map ah),.list 12 (po.map aW)])=true:=by simp [LV.pure,aN,a7 ar,a7 bH,-oe]
 have hcq:LV.pure (.agg [ai e,.list 3 (m.map ah),.list 12 (pq.map aW)])=true:=by simp [LV.pure,aN,a7 ar,a7 bH,-oe]
 have vV:LV.pure (.agg [ai e,.list 3 (m.map ah),.list 12 (pf.map aW)])=true:=by simp [LV.pure,aN,a7 ar,a7 bH,-oe]
 have hcm:LV.pure (.agg [ai e,.list 3 (m.map ah),.list 12 ((pq.map (ta (sX (gi P Q)))).map aW)])=true:=by simp [LV.pure,aN,a7 ar,a7 bH,-oe]
 refine aS Tryz.func10 (ht:=(aF4 ahL ahL (ar.pure _) (ar.pure _) rfl)) ?_
 refine bF ?_
 refine aaV [] rfl rfl (.cons fF .nil) (aA5 l) (dv l 0) rfl ?_
 refine aD ?_
 refine lE 1000353 rfl rfl rfl (dv l _) (.cons .ptr (.cons (.cE (.pure rfl)) .nil)) .ptr hNx rfl (dv l _) rfl ?_
 refine aY ?_
 refine lE 1000353 rfl rfl rfl (dv l _) (.cons .ptr (.cons (.cE (.pure rfl)) (.cons (.cE (.pure rfl)) (.cons (.cE (.pure rfl)) .nil)))) .ptr xQ rfl (dv l _) gJ ?_
 refine av ?_
 refine lE 1000353 rfl rfl rfl (dv l _) (.cons .ptr (.cons (.cE (.pure rfl)) (.cons (.cE (.pure rfl)) (.cons (.cE (.pure rfl)) .nil)))) .ptr y8 rfl (dv l _) hcq ?_
 refine aY ?_
 refine a8 10 an ?_
 refine av ?_
 refine cp aQ (auQ d k po a b ir hk9 ha hb) ?_
 refine av ?_
 refine cp au (hW1) ?_
 refine av ?_
 refine cp aQ (auQ e m pq a' b' w7 hm9 ha' pA) ?_
 refine av ?_
 refine cp au (hW2) ?_
 refine bF ?_
 refine aF rfl ?_ ?_<;>intro ahK h38
 ·obtain rfl:=hV1 h38
  refine aA ?_
  refine cp au (hE1) ?_
  refine bF ?_
  refine cp au (zZ) ?_
  refine bn ?_
  refine a8 5 an ?_
  refine aL ?_
  refine cp au (hSh) ?_
  refine iP rfl (.cons (.pure hcq) (.cons (.pure (eo.pure _)) .nil)) hMv ?_
  refine aA ?_
  refine alb ((((az.cm (t:=13) (b:=13) rfl rfl cs rfl gJ).trans (az.cm (t:=14) (b:=14) rfl rfl (by rw [LV.lV _ _ vV];exact cs) (by rw [LV.lV _ _ vV];rfl) (by rw [LV.lV _ _ vV];exact vV))).trans (az.cm (t:=15) (b:=15) rfl rfl (by simp only [cY];exact ar.aw _) (by simp only [cY];exact ar.isAgg _) (by simp only [cY];exact ar.pure _))).trans (az.cm (t:=16) (b:=16) rfl rfl (by simp only [cY];exact ar.aw _) (by simp only [cY];exact ar.isAgg _) (by simp only [cY];exact ar.pure _))) ?_
  refine aM ?_
  refine eT 0 rfl rfl an (.pure (.sV rfl gJ rfl rfl)) (fun b=>LV.lV b _ gJ) eU ?_
  refine eT 1 rfl rfl an (.pure (.sV rfl vV rfl rfl)) (fun b=>LV.lV b _ vV) eU ?_
  refine eT 2 rfl rfl an (.pure (.sV rfl (ar.pure _) (ar.aw _) (ar.isAgg _))) (fun b=>cY _ b) eU ?_
  refine eT 3 rfl rfl an (.pure (.sV rfl (ar.pure _) (ar.aw _) (ar.isAgg _))) (fun b=>cY _ b) eU ?_
  refine eT 4 rfl rfl an (.pure (.move _)) gz eU ?_
  refine aZ 5 _ an rfl ?_
  refine av ?_
  refine aJ ?_
  refine aZ 6 _ an rfl ?_
  refine av ?_
  refine aJ ?_
  refine aZ 7 _ an rfl ?_
  refine av ?_
  refine aJ ?_
  refine aZ 8 _ an rfl ?_
  refine av ?_
  refine aJ ?_
  refine aZ 9 _ an rfl ?_
  refine av ?_
  refine aJ ?_
  refine fx an ?_
  refine aP ?_
  exact arJ
 ·obtain rfl:=hV2 h38
  refine aL ?_
  refine alb ((((az.cm (t:=13) (b:=13) rfl rfl cs rfl gJ).trans (az.cm (t:=14) (b:=14) rfl rfl (by rw [LV.lV _ _ vV];exact cs) (by rw [LV.lV _ _ vV];rfl) (by rw [LV.lV _ _ vV];exact vV))).trans (az.cm (t:=15) (b:=15) rfl rfl (by simp only [cY];exact ar.aw _) (by simp only [cY];exact ar.isAgg _) (by simp only [cY];exact ar.pure _))).trans (az.cm (t:=16) (b:=16) rfl rfl (by simp only [cY];exact ar.aw _) (by simp only [cY];exact ar.isAgg _) (by simp only [cY];exact ar.pure _))) ?_
  refine aM ?_
  refine eT 0 rfl rfl an (.pure (.sV rfl gJ rfl rfl)) (fun b=>LV.lV b _ gJ) eU ?_
  refine eT 1 rfl rfl an (.pure (.sV rfl vV rfl rfl)) (fun b=>LV.lV b _ vV) eU ?_
  refine eT 2 rfl rfl an (.pure (.sV rfl (ar.pure _) (ar.aw _) (ar.isAgg _))) (fun b=>cY _ b) eU ?_
  refine eT 3 rfl rfl an (.pure (.sV rfl (ar.pure _) (ar.aw _) (ar.isAgg _))) (fun b=>cY _ b) eU ?_
  refine eT 4 rfl rfl an (.pure (.move _)) gz eU ?_
  refine aZ 5 _ an rfl ?_
  refine av ?_
  refine aJ ?_
  refine aZ 6 _ an rfl ?_
  refine av ?_
  refine aJ ?_
  refine aZ 7 _ an rfl ?_
  refine av ?_
  refine aJ ?_
  refine aZ 8 _ an rfl ?_
  refine av ?_
  refine aJ ?_
  refine aZ 9 _ an rfl ?_
  refine av ?_
  refine aJ ?_
  refine fx an ?_
  refine aP ?_
  exact arJ
theorem azf {α β:Type} [Inhabited α] (f:α->β) (l:List α) (d:α) {i:Nat} (h:i<l.length):(l.map f).take i++[f (l.getD i d)]=(l.map f).take (i+1):=by
 rw [zb,iV,bz,cq h];rfl
namespace aop
theorem aM {p q:Prop} (k:q) (e:p=q:=by simp only [e1,e2,e3,e4,p1,p2,p3,q1,q2,q3,l1,t0,t1,r1,r2,r3,r4,Nat.zero_add,Nat.reduceMul,Nat.reduceAdd,b1,b2,b3,b4,b5,b6,i1,i2,i3,i4,i5,i6,Nat.reduceBEq,gL,iA,List.length_map,mG,mB,jB,List.length_cons,List.length_nil,List.nil_append,List.map_nil,List.take_nil,List.append_nil,aV ar,List.set_cons_zero,List.set_cons_succ,Nat.reduceEqDiff,reduceIte,if_true,if_false,eN,fb,aV bo,aV bH,aV ar,cY,et,LV.kill,b7];exact rfl):p:=e.mpr k
end aop
open aop in
theorem aFE (l:List Int) (hl:l.length<=1000) (hb:∀ x∈l,-1000<=x/\x<=1000):ax al 68 [.list 1 (l.map fR)] (.list 3 ((l.map fun x:Int=>(x:Rat)).map ah)):=by
 refine aS Tryz.func68 ?_
 have gL:True:=trivial
 have iA:True:=trivial
 refine jw ?_
 refine kY (az.own (t:=3) 18 3 rfl rfl) ?_
 refine dU (fun(k:Nat) L=>((((St.mk L.slot (hp [(18,⟨3,((l.map fun x:Int=>(x:Rat)).take k).map ah,true⟩)])).put (some 0) (.list 1 (l.map fR))).put (some 3) (.ref 18 3 0 k)).put (some 4) (ai k))) (fun k=>k<=l.length) (fun k=>l.length-k) 0 (b8 _) ?_
 rintro k L1 hk
 refine bE ?_
 refine aF rfl ?_ ?_<;>intro pa h8
 ·have mJ:k<l.length:=by omega
  have ll:=hb (l.getD k 0) (by rw [bz,cq mJ];exact p6 mJ)
  have iA:=azf (fun x:Int=>(x:Rat)) l 0 mJ
  have gL:(((l.map fun x:Int=>(x:Rat)).take k).map ah).take k=((l.map fun x:Int=>(x:Rat)).take k).map ah:=de z9
  have hlr:(l.map fun x:Int=>(x:Rat)).length=l.length:=fo ..
  refine bI ?_
  refine cp aQ (rF (l.getD k 0) ae ae) ?_
  refine av ?_
  refine bU rfl (.iw (d:=18) (news:=[ah ((l.getD k 0):Rat)]) rfl rfl rfl rfl bw (.inl rfl) ak dE dE lU cZ rfl mj (.inl ⟨17,0,_,rfl,by decide,rfl,rfl,by simp,rfl,by simp [aN,ar.pure]⟩) bw bw ak) ?_
  refine aA ?_
  refine cy (az.kill _ 17) ?_
  refine av ?_
  refine ao rfl cM ?_
  refine aL ?_
  exact iD (k+1) ae
 ·obtain rfl:k=l.length:=by omega
  have hE:(l.map fun x:Int=>(x:Rat)).take l.length=(l.map fun x:Int=>(x:Rat)):=de (by rw [fo];exact bp _)
  simp only [hE]
  refine bF ?_
  exact ow [18] rfl rfl (fC (l:=(l.map fun x:Int=>(x:Rat))) ar rfl rfl (by rw [fo]))
open gQ in
theorem at6 (p:V3):ax al 69 [a6 p,iL 1] (aW ⟨p,1⟩):=by
 have sE:ax al 13 [iL 1] (ah 1):=rF 1 ak ak
 refine aS Tryz.func69 (ht:=(fun g=>LV.df g _ (bH.pure _))) ?_
 refine aY ?_
 refine a8 4 an ?_
 refine aP ?_
 refine cp aQ (sE) ?_
 refine rO (aaW (p:=p) (r:=1) rfl rfl) ?_
 refine aA ?_
 exact ij [] rfl rfl rfl cs (dS cs rfl) tW (.pure pu)
def og (a b:V3):List aK:=[⟨a,1⟩,⟨b,1⟩]
open yx in
theorem ah9 (x y:Int) (hx:-1000<=x/\x<=1000) (hy:-1000<=y/\y<=1000):ax al 30 [iL x,iL y] (a6 ⟨(x:Rat),(y:Rat),0⟩):=by
 refine aS Tryz.func30 (ht:=(fun r=>LV.df r _ (bo.pure _))) ?_
 refine bn ?_
 refine cp aQ (rF x ae ae) ?_
 refine av ?_
 refine cp aQ (rF y ae ae) ?_
 refine rO (anZ rfl rfl) ?_
 refine aA ?_
 exact tj
namespace apv
theorem aM {p q:Prop} (k:q) (e:p=q:=by simp only [e1,e2,e3,e4,p1,p2,p3,q1,q2,q3,l1,t0,t1,r1,r2,r3,r4,Nat.zero_add,Nat.reduceMul,Nat.reduceAdd,b1,b2,b3,b4,b5,b6,i1,i2,i3,i4,i5,i6,Nat.reduceBEq,eN,z7,afj,List.getD_cons_zero,List.getD_cons_succ,List.set_cons_zero,List.set_cons_succ,Nat.reduceEqDiff,reduceIte,if_true,if_false,eN,fb,aV bo,aV bH,aV ar,cY,et,LV.kill,b7];exact rfl):p:=e.mpr k
end apv
open apv in
theorem apL (a b:V3):ax al 24 [a6 a,a6 b] (.agg [ai 1,.list 3 ((bq 1 0 1).map ah),.list 12 ((og a b).map aW)]):=by
 have tX:=fh ar 3 (bq 1 0 1)
 have hI4:ax al 68 [.list 1 (([0,0,1,1]:List Int).map fR)] (.list 3 ((bq 1 0 1).map ah)):=by
  have:=aFE [0,0,1,1] ak ak
  rwa [show (([0,0,1,1]:List Int).map fun x:Int=>(x:Rat))=bq 1 0 1 from by decide +kernel] at this
 refine aS Tryz.func24 (ht:=(fun g=>LV.df g _ (by simp [LV.pure,aN,a7 ar,a7 bH]))) ?_
 refine bn ?_
 refine a8 8 an ?_
 refine fG rfl rfl (.asr (a:=0) (b:=0) (c:=1) (f:=1) oS Tryz.underlying123 (show dj _ _ (fR 0) from Z2) T2 rfl rfl rfl rfl ak ak) ?_
 refine aM ?_
 refine ahQ [5] rfl rfl (.cons (fC (l:=[0,0,1,1]) oS rfl rfl rfl) .nil) (hI4) ?_
 refine av ?_
 refine iP rfl (.cons (.pure (bo.pure a)) (.cons (.pure rfl) .nil)) (at6 a) ?_
 refine av ?_
 refine iP rfl (.cons (.pure (bo.pure b)) (.cons (.pure rfl) .nil)) (at6 b) ?_
 refine fG rfl rfl (.au8 (a:=⟨a,1⟩) (b:=⟨b,1⟩) (z:=⟨⟨0,0,0⟩,0⟩) bH vX (show dj _ _ (aW ⟨⟨0,0,0⟩,0⟩) from Z42) tW rfl rfl ak ak) ?_
 refine ba ?_
 exact ij [11] rfl rfl rfl cs (dS cs rfl) kt (.agg (.cons (.pure rfl) (.cons (.pure tX) (.cons (fC (l:=og a b) bH rfl rfl rfl) .nil))))
theorem aEy {x:Rat} (h:0<=x):cT x>=0:=by
 unfold cT
 split
 ·decide
 ·rw [if_neg cG];decide
def pcW (n:Int):Rat:=if n % 3=2 then((1:Int):Rat)/((1+n % 5:Int):Rat) else 0
open ajy in
theorem aly (d w:Nat) (wd:Rat) (hd:d<=24) (hw:w<=4096) (h0:0<=wd) (hr:rl wd<=100):ax al 37 [.agg [ai d,ai w,ah wd]] (bL true):=by
 have hVa:=aBr wd ae
 have hSg:=xX wd ae
 have hp:LV.pure (.agg [ai d,ai w,ah wd])=true:=by simp [LV.pure,aN,ar.pure]
 refine aS Tryz.func37 ?_
 refine bF ?_
 refine ao (bg (v:=true) rfl rfl ((decide_eq_true ae)) rfl) nk ?_
 refine ao (bg (v:=true) rfl rfl ((decide_eq_true ae)) rfl) iB ?_
 refine ao (bg (v:=true) rfl rfl ((decide_eq_true ae)) rfl) (.bin rfl rfl rfl) ?_
 refine ao rfl (.qh rfl ((decide_eq_true ae))) ?_
 refine av ?_
 refine ao (bg (v:=true) rfl rfl ((decide_eq_true ae)) rfl) nk ?_
 refine ao (bg (v:=true) rfl rfl ((decide_eq_true ae)) rfl) iB ?_
 refine ao (bg (v:=true) rfl rfl ((decide_eq_true ae)) rfl) (.bin rfl rfl rfl) ?_
 refine ao rfl (.qh rfl ((decide_eq_true ae))) ?_
 refine av ?_
 refine ao (bg (v:=true) rfl rfl ((decide_eq_true ae)) rfl) nk ?_
 refine ao (bg (v:=true) rfl rfl ((decide_eq_true ae)) rfl) iB ?_
 refine ao (bg (v:=true) rfl rfl ((decide_eq_true ae)) rfl) (.bin rfl rfl rfl) ?_
 refine ao rfl (.qh rfl ((decide_eq_true ae))) ?_
 refine av ?_
 refine ao (bg (v:=true) rfl rfl ((decide_eq_true ae)) rfl) nk ?_
 refine ao (bg (v:=true) rfl rfl ((decide_eq_true ae)) rfl) iB ?_
 refine iP (bg (v:=true) rfl rfl ((decide_eq_true ae)) rfl) (.cons fF .nil) (hVa) ?_
 refine ao rfl (.qh rfl ((decide_eq_true ae))) ?_
 refine av ?_
 refine ao (bg (v:=true) rfl rfl ((rfl)) rfl) nk ?_
 refine ao (bg (v:=true) rfl rfl ((rfl)) rfl) iB ?_
 refine iP (bg (v:=true) rfl rfl ((rfl)) rfl) (.cons fF .nil) (hSg) ?_
 refine ao (bg (v:=true) rfl rfl ((rfl)) rfl) (.bin rfl rfl rfl) ?_
 refine ao rfl (.qh rfl ((rfl))) ?_
 refine aA ?_
 refine dT (x:=bL (decide (cT wd>=0))) rfl ?_
 rw [show decide (cT wd>=0)=true from decide_eq_true (aEy h0)]
 exact .pure rfl
open gQ in
theorem aIW (depth work width:Int) (dn wn:Nat) (lb:depth % 7=(dn:Int)) (hwn:work % 40=(wn:Int)):ax al 11 [iL depth,iL work,iL width] (.agg [ai dn,ai wn,ah (pcW width)]):=by
 have hM1:ax al 12 [iL depth,iL 7] (ai dn):=by
  have:=abM depth 7 ak ak
  rwa [lb] at this
 have hM2:ax al 12 [iL work,iL 40] (ai wn):=by
  have:=abM work 40 ak ak
  rwa [hwn] at this
 have h5a:=aag width (show (5:Int)≠0 by decide)
 have h5b:=zS width (show (0:Int)<5 by decide)
 refine aS Tryz.func11 (ht:=(fun g=>LV.df g _ (by simp [LV.pure,aN,ar.pure]))) ?_
 refine bn ?_
 refine cp au (hM1) ?_
 refine av ?_
 refine cp au (hM2) ?_
 refine ao rfl (show aE _ _ _ _ (.agg [ai dn,ai wn,ah 0]) from .build (zs:=[.v (.int .i64 0),.v (.int .i64 0),ah 0]) (by simpa [lay,LV.aw,cU,ad2,ar.aw,ar.isAgg] using ajj) Z35 (by simp only [aj5];exact⟨⟨_,rfl,rfl,mE⟩,⟨_,rfl,rfl,mE⟩,fun _ h=>by cases h⟩)) ?_
 refine bn ?_
 refine cp au (abM width 3 ak ak) ?_
 refine aL ?_
 refine aF rfl ?_ ?_<;>intro pR mT
 ·have hV:pcW width=((1:Int):Rat)/((1+width % 5:Int):Rat):=if_pos (by simpa using mT)
  refine aP ?_
  refine cp au (abM width 5 ak ak) ?_
  refine ao rfl z8 ?_
  refine cp au (acw 1 (1+width % 5) ae ae ae ae ae) ?_
  refine bD ?_
  rw [hV]
  exact ij [] rfl rfl rfl cs (dS cs rfl) T35 (.pure (by simp [LV.pure,aN,ar.pure]))
 ·have hV:pcW width=0:=if_neg (by simpa using mT)
  refine bE ?_
  rw [hV]
  exact ij [] rfl rfl rfl cs (dS cs rfl) T35 (.pure (by simp [LV.pure,aN,ar.pure]))
theorem aGq (a b:V3):sC a (gi b a)=b:=by
 show (⟨_,_,_⟩:V3)=_
 simp only [gi]
 congr 1<;>grind
theorem nK.ends {d:Nat} {k:List Rat} {po:List aK} {a b:Rat} (h:nK d k po a b):0<k.length/\k.length<=1000/\k.getD 0 0=a/\k.getD (k.length-1) 0=b:=by
 have h3:=h.d3
 rcases h.kn with⟨rfl,hl⟩ | ⟨t,g1,g2,ht,rfl,hl⟩
 ·have hk:=lj d a b
  exact⟨ae,ae,by rw [im _ _ _ _ ae,if_pos ae],by rw [hk,im _ _ _ _ ae,if_neg ae]⟩
 ·have hk:=pH d a t b
  exact⟨ae,ae,by rw [eH _ _ _ _ _ ae,if_pos ae],by rw [hk,eH _ _ _ _ _ ae,if_neg ae,if_neg ae]⟩
theorem avf (x y z w:Int) (hx:x.natAbs<=6) (hy:y.natAbs<=6) (hz:z.natAbs<=6) (hw:w.natAbs<=6):kU 1 (bq 1 0 1) (og ⟨(x:Rat),(y:Rat),0⟩ ⟨(z:Rat),(w:Rat),0⟩) 0 1:=by
 have g:∀ u v:Int,u.natAbs<=6->v.natAbs<=6->smP ⟨⟨(u:Rat),(v:Rat),0⟩,1⟩:=fun u v hu hv=>by
  refine⟨fun j=>?_,acC (z:=1) ak,(by show (0:Rat)<1;decide +kernel),rfl⟩
  match j with
  | 0=>exact((acC hu).scale (E:=12)).mono ak
  | 1=>exact((acC hv).scale (E:=12)).mono ak
  | j+2=>exact akx _ _
 refine kU.of ⟨by decide,by decide,by decide +kernel,akx _ _,avQ.mono ak,.inl ⟨rfl,rfl⟩⟩ fun q hq=>?_
 unfold og at hq
 simp only [fu,jn,or_false] at hq
 rcases hq with rfl | rfl
 ·exact g _ _ hx hy
 ·exact g _ _ hz hw
theorem aw1:(uX 0 9 0 [(⟨1,0,1,og (⟨((0:Int):Rat),((0:Int):Rat),0⟩:V3) (⟨((2:Int):Rat),((2:Int):Rat),0⟩:V3)⟩:jC)] [(⟨1,0,1,og (⟨((0:Int):Rat),((2:Int):Rat),0⟩:V3) (⟨((2:Int):Rat),((0:Int):Rat),0⟩:V3)⟩:jC)]).2=[(([rV],[rV],3,0):kM)]:=by decide +kernel
theorem aw2:∃ x r,(uX 2 100 0 [(⟨1,0,1,og (⟨((0:Int):Rat),((0:Int):Rat),0⟩:V3) (⟨((2:Int):Rat),((2:Int):Rat),0⟩:V3)⟩:jC)] [(⟨1,0,1,og (⟨((0:Int):Rat),((0:Int):Rat),0⟩:V3) (⟨((2:Int):Rat),((2:Int):Rat),0⟩:V3)⟩:jC)]).2=x :: r/\x.2.2.1=1:=by
 have h:0<((uX 2 100 0 [(⟨1,0,1,og (⟨((0:Int):Rat),((0:Int):Rat),0⟩:V3) (⟨((2:Int):Rat),((2:Int):Rat),0⟩:V3)⟩:jC)] [(⟨1,0,1,og (⟨((0:Int):Rat),((0:Int):Rat),0⟩:V3) (⟨((2:Int):Rat),((2:Int):Rat),0⟩:V3)⟩:jC)]).2).length/\(((uX 2 100 0 [(⟨1,0,1,og (⟨((0:Int):Rat),((0:Int):Rat),0⟩:V3) (⟨((2:Int):Rat),((2:Int):Rat),0⟩:V3)⟩:jC)] [(⟨1,0,1,og (⟨((0:Int):Rat),((0:Int):Rat),0⟩:V3) (⟨((2:Int):Rat),((2:Int):Rat),0⟩:V3)⟩:jC)]).2).getD 0 default).2.2.1=1:=by decide +kernel
 generalize (uX 2 100 0 [(⟨1,0,1,og (⟨((0:Int):Rat),((0:Int):Rat),0⟩:V3) (⟨((2:Int):Rat),((2:Int):Rat),0⟩:V3)⟩:jC)] [(⟨1,0,1,og (⟨((0:Int):Rat),((0:Int):Rat),0⟩:V3) (⟨((2:Int):Rat),((2:Int):Rat),0⟩:V3)⟩:jC)]).2=l at h
 match l,h with
 | x :: r,h=>exact⟨x,r,rfl,h.2⟩
theorem aHD (l:List Int) (i j:Int) (x7:l.length<=500) (hi:-9223372036854775808<=i/\i<=9223372036854775807) (hj:-9223372036854775808<=j/\j<=9223372036854775807):∃ (d:Nat) (k:List Rat) (po:List aK) (a b:Rat) (e:Nat) (m:List Rat) (pf:List aK) (a2 b2 tt uu:Rat) (mt:Bool),
  (c19 po/\c19 pf)/\kU d k po a b/\kU e m pf a2 b2/\(a<=tt/\tt<=b/\rl tt<=10)/\(a2<=uu/\uu<=b2/\rl uu<=10)/\(mt=true->eY d k po tt=eY e m pf uu) /\
  ax al 10 [.list 1 (l.map fR),iL i,iL j] (.bf [.agg [ai d,.list 3 (k.map ah),.list 12 (po.map aW)],.agg [ai e,.list 3 (m.map ah),.list 12 (pf.map aW)],ah tt,ah uu,bL mt]):=by
 have k1:=nJ (l:=l) x7 (b8 500)
 have k2:xE l (bK l 0) 3 1<=500:=aq6 x7 _ _ (aq8 l (bK l 0) (n:=3) (m:=1) x7 k1 ak ak ak).2.2.1
 have dc:=awb l (bK l 0) 3 ak ak (xF l (bK l 0) 3 1) (atV ..)
 have dx:=awb l (xE l (bK l 0) 3 1) 3 ak ak (xF l (xE l (bK l 0) 3 1) 3 1) (atV ..)
 have sc:∀ q∈xF l (bK l 0) 3 1,smP q:=akE l _ _
 have sx:∀ q∈xF l (xE l (bK l 0) 3 1) 3 1,smP q:=akE l _ _
 have hN:=rf l 0 5 x7 (b8 _) ak ak
 have xQ:=auw l (bK l 0) x7 3 ak ak 1 ak k1
 have y8:=auw l (xE l (bK l 0) 3 1) x7 3 ak ak 1 ak k2
 generalize eA l 0 5=v at hN
 generalize xE l (xE l (bK l 0) 3 1) 3 1=k3 at y8
 generalize cD l (xE l (bK l 0) 3 1) 3=e at dx y8
 generalize xK l (xE l (bK l 0) 3 1) 3 1=m at dx y8
 generalize xF l (xE l (bK l 0) 3 1) 3 1=pq at dx sx y8
 generalize xA l (xE l (bK l 0) 3 1)=a2 at dx
 generalize xB l (xE l (bK l 0) 3 1) 3=b2 at dx
 generalize xE l (bK l 0) 3 1=k2 at xQ y8
 generalize cD l (bK l 0) 3=d at dc xQ
 generalize xK l (bK l 0) 3 1=k at dc xQ
 generalize xF l (bK l 0) 3 1=po at dc sc xQ
 generalize xA l (bK l 0)=a at dc
 generalize xB l (bK l 0) 3=b at dc
 generalize bK l 0=k1 at hN xQ
 have it:=abO dc.ab i
 have iu:=abO dx.ab j
 have rt:=ahi dc.ca dc.cb i
 have ru:=ahi dx.ca dx.cb j
 have gc:=kU.of dc sc
 have gx:=kU.of dx sx
 obtain⟨g9,gm,bT,bP,bQ⟩:=kU.sh dc dx sc sx i j
 obtain⟨kZ,hk9,hka,tY⟩:=dc.ends
 obtain⟨ic,hm9,hma,hmb⟩:=dx.ends
 have hE1:=agE gc it.1 it.2 ae
 have zZ:=agE gx iu.1 iu.2 ae
 have hW1:=ahR (a,b) i 10 ak ⟨by have:=tH dc.ca;show rl a<=10;omega,by have:=tH dc.cb;show rl b<=10;omega⟩ hi
 have hW2:=ahR (a2,b2) j 10 ak ⟨by have:=tH dx.ca;show rl a2<=10;omega,by have:=tH dx.cb;show rl b2<=10;omega⟩ hj
 have hxl:pq.length<=100:=by have h3:=dx.d3;rcases dx.kn with⟨_,h⟩ | ⟨_,_,_,_,_,h⟩<;>omega
 have w7:m.length<=100:=by
  have h3:=dx.d3
  rcases dx.kn with⟨h,_⟩ | ⟨_,_,_,_,h,_⟩
  ·rw [h,lj];omega
  ·rw [h,pH];omega
 have hSh:=aEZ (eY e m pq (ia (a2,b2) j)) (eY d k po (ia (a,b) i)) 10 ak bQ bP
 have hMv:=aGN e m (sX (gi (eY d k po (ia (a,b) i)) (eY e m pq (ia (a2,b2) j)))) pq 10 ak (aFT ak bT) hxl w7 (fun q hq=>by have h:=(acf sx).okR (k:=1) ak ak ak q hq;exact⟨h.1.le ak,a9 h.2.1 ak,h.2.2⟩)
 have main:=aHA l i j v k1 k2 k3 d e k m po pq (if v > 0 then pq.map (ta (sX (gi (eY d k po (ia (a,b) i)) (eY e m pq (ia (a2,b2) j))))) else pq) a b a2 b2 (ia (a,b) i) (ia (a2,b2) j) (eY d k po (ia (a,b) i)) (eY e m pq (ia (a2,b2) j)) kZ hk9 ic hm9 hka tY hma hmb hN xQ y8 hW1 hW2 hE1 zZ hSh hMv (fun h=>if_pos h) (fun h=>if_neg h)
 have s9:∀ {P:List aK},(∀ q∈P,smP q)->c19 P:=fun h=>⟨12,216,acf h,by decide,by decide⟩
 refine⟨d,k,po,a,b,e,m,_,a2,b2,_,_,_,⟨s9 sc,?_⟩,gc,?_,⟨it.1,it.2,rt⟩,⟨iu.1,iu.2,ru⟩,fun hm=>?_,main⟩
 ·split
  ·rw [akU];exact g9
  ·exact s9 sx
 ·split
  ·rw [akU];exact gm
  ·exact gx
 ·rw [if_pos (of_decide_eq_true hm),akU,aHh dx (acf sx) iu.1 iu.2 ae,aGq]
theorem aAv (l:List Int) (i j:Int) (x7:l.length<=500) (hi:-9223372036854775808<=i/\i<=9223372036854775807) (hj:-9223372036854775808<=j/\j<=9223372036854775807):∃ (d:Nat) (k:List Rat) (po:List aK) (a b:Rat) (e:Nat) (m:List Rat) (pf:List aK) (a2 b2 tt uu:Rat) (mt:Bool),
  kU d k po a b/\kU e m pf a2 b2/\(a<=tt/\tt<=b/\rl tt<=10)/\(a2<=uu/\uu<=b2/\rl uu<=10)/\(mt=true->eY d k po tt=eY e m pf uu) /\
  ax al 10 [.list 1 (l.map fR),iL i,iL j] (.bf [.agg [ai d,.list 3 (k.map ah),.list 12 (po.map aW)],.agg [ai e,.list 3 (m.map ah),.list 12 (pf.map aW)],ah tt,ah uu,bL mt]):=by
 obtain⟨d,k,po,a,b,e,m,pf,a2,b2,tt,uu,mt,_,h⟩:=aHD l i j x7 hi hj
 exact⟨d,k,po,a,b,e,m,pf,a2,b2,tt,uu,mt,h⟩
open yx in
theorem aql :ax al 9 [] (bL true):=by
 have ri:LV.pure (.agg [ai 1,.list 3 ((bq 1 0 1).map ah),.list 12 ((og (⟨((0:Int):Rat),((0:Int):Rat),0⟩:V3) (⟨((2:Int):Rat),((2:Int):Rat),0⟩:V3)).map aW)])=true:=by simp [LV.pure,aN,a7 ar,a7 bH]
 have hq2:LV.pure (.agg [ai 1,.list 3 ((bq 1 0 1).map ah),.list 12 ((og (⟨((0:Int):Rat),((2:Int):Rat),0⟩:V3) (⟨((2:Int):Rat),((0:Int):Rat),0⟩:V3)).map aW)])=true:=by simp [LV.pure,aN,a7 ar,a7 bH]
 have ke:LV.pure (.agg [iL 0,iL 9,ah 0])=true:=by simp [LV.pure,aN,ar.pure]
 have rS:LV.pure (.agg [iL 2,iL 100,ah 0])=true:=by simp [LV.pure,aN,ar.pure]
 have hA1:=aw1
 obtain⟨x,r,hA2,hx⟩:=aw2
 have g1:=avf 0 0 2 2 ak ak ak ak
 have g2:=avf 0 2 2 0 ak ak ak ak
 have r0:rl 0<=100:=by decide +kernel
 have hM1:ax al 14 [.agg [ai 1,.list 3 ((bq 1 0 1).map ah),.list 12 ((og (⟨((0:Int):Rat),((0:Int):Rat),0⟩:V3) (⟨((2:Int):Rat),((2:Int):Rat),0⟩:V3)).map aW)],.agg [ai 1,.list 3 ((bq 1 0 1).map ah),.list 12 ((og (⟨((0:Int):Rat),((2:Int):Rat),0⟩:V3) (⟨((2:Int):Rat),((0:Int):Rat),0⟩:V3)).map aW)],.agg [iL 0,iL 9,ah 0]] (.bf [.list 4 [fO (([rV],[rV],3,0):kM)],iL 0]):=by
  have:=ake g1 g2 0 9 0 ak ak r0 (aly 0 9 0 ak ak gg r0)
  rw [abu rfl,abu rfl,hA1] at this;exact this
 have hM2:ax al 14 [.agg [ai 1,.list 3 ((bq 1 0 1).map ah),.list 12 ((og (⟨((0:Int):Rat),((0:Int):Rat),0⟩:V3) (⟨((2:Int):Rat),((2:Int):Rat),0⟩:V3)).map aW)],.agg [ai 1,.list 3 ((bq 1 0 1).map ah),.list 12 ((og (⟨((0:Int):Rat),((0:Int):Rat),0⟩:V3) (⟨((2:Int):Rat),((2:Int):Rat),0⟩:V3)).map aW)],.agg [iL 2,iL 100,ah 0]] (.bf [.list 4 ((x :: r).map fO),iL 0]):=by
  have:=ake g1 g1 2 100 0 ak ak r0 (aly 2 100 0 ak ak gg r0)
  rw [abu rfl,hA2] at this;exact this
 refine aS Tryz.func9 ?_
 refine aY ?_
 refine cp au (ah9 0 0 ak ak) ?_
 refine cp au (ah9 2 2 ak ak) ?_
 refine cp au (apL (⟨((0:Int):Rat),((0:Int):Rat),0⟩:V3) (⟨((2:Int):Rat),((2:Int):Rat),0⟩:V3)) ?_
 refine cp au (ah9 0 2 ak ak) ?_
 refine cp au (ah9 2 0 ak ak) ?_
 refine cp au (apL (⟨((0:Int):Rat),((2:Int):Rat),0⟩:V3) (⟨((2:Int):Rat),((0:Int):Rat),0⟩:V3)) ?_
 refine bI ?_
 refine ao rfl (show aE _ _ _ _ (.agg [iL 0,iL 9,ah 0]) from .build (zs:=[.v (.int .i64 0),.v (.int .i64 0),ah 0]) (by simpa [lay,LV.aw,cU,ad2,ar.aw,ar.isAgg] using ajj) Z35 (by simp only [aj5];exact⟨⟨_,rfl,rfl,mE⟩,fun _ h=>by cases h⟩)) ?_
 try refine aM ?_
 refine iP rfl (.cons (.pure ri) (.cons (.pure hq2) (.cons (.pure ke) .nil))) (hM1) ?_
 refine bD ?_
 refine ao rfl (show aE _ _ _ _ (.agg [iL 2,iL 100,ah 0]) from .build (zs:=[.v (.int .i64 0),.v (.int .i64 0),ah 0]) (by simpa [lay,LV.aw,cU,ad2,ar.aw,ar.isAgg] using ajj) Z35 (by simp only [aj5];exact⟨⟨_,rfl,rfl,mE⟩,⟨_,rfl,rfl,mE⟩,fun _ h=>by cases h⟩)) ?_
 try refine aM ?_
 refine iP rfl (.cons (.pure ri) (.cons (.pure ri) (.cons (.pure rS) .nil))) (hM2) ?_
 refine bF ?_
 refine ao (bg (v:=true) rfl rfl ((rfl)) rfl) (.move _) ?_
 refine ao (bg (v:=true) rfl rfl ((rfl)) rfl) xV ?_
 refine ao (bg (v:=true) rfl rfl ((rfl)) rfl) (.bin rfl rfl rfl) ?_
 refine ao rfl (.qh rfl ((rfl))) ?_
 refine av ?_
 refine ao (bg (v:=true) rfl rfl ((rfl)) rfl) (.move _) ?_
 refine ao (bg (v:=true) rfl rfl ((rfl)) rfl) (.nx (n:=0) (r:=(.agg [.list 6 (((([rV],[rV],3,0):kM)).1.map aH),.list 6 (((([rV],[rV],3,0):kM)).2.1.map aH),ai ((([rV],[rV],3,0):kM)).2.2.1,ai ((([rV],[rV],3,0):kM)).2.2.2])) rfl oW qF rfl ak rfl (ak5 _)) ?_
 refine ao (bg (v:=true) rfl rfl ((rfl)) rfl) nk ?_
 refine ao (bg (v:=true) rfl rfl ((rfl)) rfl) iB ?_
 refine ao (bg (v:=true) rfl rfl ((rfl)) rfl) (.bin rfl rfl rfl) ?_
 refine ao rfl (.qh rfl ((rfl))) ?_
 refine av ?_
 refine ao (bg (v:=true) rfl rfl ((rfl)) rfl) (.move _) ?_
 refine ao (bg (v:=true) rfl rfl ((rfl)) rfl) (.bin rfl rfl rfl) ?_
 refine ao rfl (.qh rfl ((rfl))) ?_
 refine av ?_
 refine ao (bg (v:=true) rfl rfl ((rfl)) rfl) (.move _) ?_
 refine ao (bg (v:=true) rfl rfl ((rfl)) rfl) xV ?_
 refine ao (bg (v:=true) rfl rfl ((rfl)) rfl) (.bin rfl rfl rfl) ?_
 refine ao rfl (.qh rfl ((rfl))) ?_
 refine av ?_
 refine ao (bg (v:=true) rfl rfl ((decide_eq_true adM)) rfl) (.move _) ?_
 refine ao (bg (v:=true) rfl rfl ((decide_eq_true adM)) rfl) (.nx (n:=0) (r:=(.agg [.list 6 ((x).1.map aH),.list 6 ((x).2.1.map aH),ai (x).2.2.1,ai (x).2.2.2])) rfl oW qF rfl ak rfl (ak5 _)) ?_
 refine ao (bg (v:=true) rfl rfl ((decide_eq_true adM)) rfl) nk ?_
 refine ao (bg (v:=true) rfl rfl ((decide_eq_true adM)) rfl) iB ?_
 refine ao (bg (v:=true) rfl rfl ((decide_eq_true adM)) rfl) (.bin rfl rfl rfl) ?_
 refine ao rfl (.qh rfl ((decide_eq_true adM))) ?_
 refine aA ?_
 exact dT (x:=bL true) (by refine Eq.trans (b:=LV.v (Value.bool (((x.2.2.1:Nat):Int)==1))) rfl ?_;rw [hx];rfl) (.pure rfl)
def zC (p q:V3):Bool:=decide (p.x=q.x) && decide (p.y=q.y) && decide (p.z=q.z)
theorem aw6 {p q:V3}:zC p q=true↔p=q:=by
 obtain⟨a,b,c⟩:=p
 obtain⟨a',b',c'⟩:=q
 unfold zC
 simp only [jq,decide_eq_true_eq,V3.mk.injEq]
 constructor
 ·rintro⟨⟨h1,h2⟩,h3⟩;exact⟨h1,h2,h3⟩
 ·rintro⟨h1,h2,h3⟩;exact⟨⟨h1,h2⟩,h3⟩
theorem avD {d:Nat} {k:List Rat} {po:List aK} {a b s:Rat} (h:kU d k po a b) (h1:a<=s) (h2:s<=b) (hr:rl s<=1000):cB 20000000 (eY d k po s):=by
 obtain⟨hi,hs,hl⟩:=h.dr.iv h1 h2 hr
 obtain⟨D,N,c,hD,hN⟩:=h.c
 have fq:=c.okR (pS hN) (pS hD) ak
 have hb:=alu (k:=k) (d:=d) (pc:=ey d k s) (t:=s) (po:=po) (R:=7) hi.d6 ak fq (an9 hi) (d+1) (bp _)
 have he:=axe (t:=s) hi.p1 (show ey d k s+1<=po.length by have:=hi.p2;omega) hs
 have b0:=hb 0
 have b1':=hb 1
 have b2':=hb 2
 have b3':=hb 3
 rw [he.1 0 ak] at b0
 rw [he.1 1 ak] at b1'
 rw [he.1 2 ak] at b2'
 rw [he.2] at b3'
 have hq:=rG 1 (cO k d (ey d k s) (aO po) (ay d s))
 have eW:rl 1=1:=rfl
 have m0:=cX (1/cO k d (ey d k s) (aO po) (ay d s)) (cO k d (ey d k s) (bc po 0) (ay d s))
 have m1:=cX (1/cO k d (ey d k s) (aO po) (ay d s)) (cO k d (ey d k s) (bc po 1) (ay d s))
 have m2:=cX (1/cO k d (ey d k s) (aO po) (ay d s)) (cO k d (ey d k s) (bc po 2) (ay d s))
 refine⟨?_,?_,?_⟩
 ·show rl (1/cO k d (ey d k s) (aO po) (ay d s)*cO k d (ey d k s) (bc po 0) (ay d s))<=_;omega
 ·show rl (1/cO k d (ey d k s) (aO po) (ay d s)*cO k d (ey d k s) (bc po 1) (ay d s))<=_;omega
 ·show rl (1/cO k d (ey d k s) (aO po) (ay d s)*cO k d (ey d k s) (bc po 2) (ay d s))<=_;omega
theorem avI {s:Sp} {R:Nat} (h1:rl s.1<=R) (h2:rl s.2<=R) (n:Int):rl (ia s n)<=3*R+4:=by
 have h3:=anA n
 have m1:=jm s.2 s.1
 have m2:=cX (nU n) (s.2-s.1)
 have m3:=kC s.1 (nU n*(s.2-s.1))
 show rl (s.1+nU n*(s.2-s.1))<=_
 omega
theorem aqH {s:Sp} {x:Rat} (h:il s x=true):oG s x:=by
 unfold il at h
 simp only [jq,decide_eq_true_eq] at h
 exact h
theorem aIE:pcW 0=0:=by decide +kernel
open gQ in
theorem aIP (p q:V3) (hp:cB 100000000000 p) (hq:cB 100000000000 q):ax al 20 [a6 p,a6 q] (bL (zC p q)):=by
 obtain⟨a1,a2,a3⟩:=hp
 obtain⟨y1,y2,y3⟩:=hq
 refine aS Tryz.func20 ?_
 refine dG ?_
 refine cp au (tz p.x q.x ae) ?_
 refine av ?_
 refine dg 10 rfl ?_ ?_<;>intro nE qN
 ·refine aA ?_
  refine cp au (tz p.y q.y ae) ?_
  refine aP ?_
  refine dg 17 rfl ?_ ?_<;>intro abD wS
  ·refine aA ?_
   refine cp au (tz p.z q.z ae) ?_
   refine ba ?_
   rw [show zC p q=decide (p.z=q.z) from by unfold zC;simp [show p.x=q.x by simpa using qN,show p.y=q.y by simpa using wS]]
   exact nH
  ·refine bI ?_
   rw [show zC p q=false from by unfold zC;simp [show ¬p.y=q.y by simpa using wS]]
   exact nH
 ·refine jw ?_
  rw [show zC p q=false from by unfold zC;simp [show ¬p.x=q.x by simpa using qN]]
  exact nH
namespace av3
theorem aM {p q:Prop} (k:q) (e:p=q:=by simp only [e1,e2,e3,e4,p1,p2,p3,q1,q2,q3,l1,t0,t1,r1,r2,r3,r4,Nat.zero_add,Nat.reduceMul,Nat.reduceAdd,b1,b2,b3,b4,b5,b6,i1,i2,i3,i4,i5,i6,Nat.reduceBEq,z7,afj,eN,af7,aV adW,List.length_map,List.getD_cons_zero,List.getD_cons_succ,List.set_cons_zero,List.set_cons_succ,Nat.reduceEqDiff,reduceIte,if_true,if_false,eN,fb,aV bo,aV bH,aV ar,cY,et,LV.kill,b7];exact rfl):p:=e.mpr k
end av3
open av3 in
theorem ayG (l:List Int) (i j depth x y:Int) (hl:l.length<=9223372036854775807/\∀ n∈l,-9223372036854775808<=n/\n<=9223372036854775807) (hi:-9223372036854775808<=i/\i<=9223372036854775807) (hj:-9223372036854775808<=j/\j<=9223372036854775807) (hdp:-9223372036854775808<=depth/\depth<=9223372036854775807) (hx:-9223372036854775808<=x/\x<=9223372036854775807) (hy:-9223372036854775808<=y/\y<=9223372036854775807):ax al 5 [.list 1 (l.map fR),iL i,iL j,iL depth,iL x,iL y] (bL true):=by
 have bM:=hl.1
 obtain⟨dn,lb⟩:∃ dn:Nat,depth % 7=(dn:Int):=⟨(depth % 7).toNat,ae⟩
 have mM:dn<=6:=by omega
 have hPr:ax al 11 [iL depth,iL 39,iL 0] (.agg [ai dn,ai 39,ah 0]):=by
  have:=aIW depth 39 0 dn 39 lb ak
  rwa [aIE] at this
 have hpp:LV.pure (.agg [ai dn,ai 39,ah 0])=true:=by simp [LV.pure,aN,ar.pure]
 refine aS Tryz.func5 ?_
 refine bE ?_
 refine cp aQ (aIt l bM) ?_
 refine aL ?_
 refine aF rfl ?_ ?_<;>intro aep h32
 ·refine aP ?_
  refine cp am0 (aql) ?_
  refine ba ?_
  exact nH
 ·have x7:l.length<=500:=by simpa using h32
  obtain⟨d,k,po,a,b,e,m,pf,aa,bb,tt,uu,mt,hG,hH,⟨yj,ht2,htr⟩,⟨zA,vq,hur⟩,fj,hTw⟩:=aAv l i j x7 hi hj
  have hM:=ake hG hH dn 39 0 ae ak an (aly dn 39 0 ae ak gg an)
  have hO:=kU.once hG hH (dn:=dn) (w:=39) (wd:=0) ae
  have hLn:=aEa (d:=dn) (w:=39) (wd:=0) (lA:=ny d k po) (lB:=ny e m pf) ae ak (a9 (aiR d k po) ak) (a9 (aiR e m pf) ak)
  generalize (uX dn 39 0 (ny d k po) (ny e m pf)).2=cls at hM hO hLn
  have gJ:LV.pure (.agg [ai d,.list 3 (k.map ah),.list 12 (po.map aW)])=true:=by simp [LV.pure,aN,a7 ar,a7 bH]
  have hcq:LV.pure (.agg [ai e,.list 3 (m.map ah),.list 12 (pf.map aW)])=true:=by simp [LV.pure,aN,a7 ar,a7 bH]
  refine aY ?_
  refine cp gV (hTw) ?_
  refine oV ?_
  refine a8 10 an ?_
  refine ao rfl (.fU rfl rfl rfl rfl cs (dS cs rfl) kt) ?_
  refine ao rfl (.fU rfl rfl rfl rfl cs (dS cs rfl) kt) ?_
  refine av ?_
  refine cp gV (hPr) ?_
  refine iP rfl (.cons (.pure gJ) (.cons (.pure hcq) (.cons (.pure hpp) .nil))) hM ?_
  refine dH ?_
  refine fi (b:=_) rfl (rfl) ?_
  refine bE ?_
  refine dU (fun(jj:Nat) L=>(((((((((((St.mk L.slot (hp [(13,⟨3,[.agg [ai d,.list 3 (k.map ah),.list 12 (po.map aW)]],true⟩),(14,⟨3,[.agg [ai e,.list 3 (m.map ah),.list 12 (pf.map aW)]],true⟩),(15,⟨3,[ah tt],true⟩),(16,⟨3,[ah uu],true⟩)])).put (some 4) (iL x)).put (some 5) (iL y)).put (some 13) (.aB 13 3 0 0)).put (some 14) (.aB 14 3 0 0)).put (some 15) (.aB 15 3 0 0)).put (some 16) (.aB 16 3 0 0)).put (some 17) (bL mt)).put (some 18) (.list 4 (cls.map fO))).put (some 19) (iL 0)).put (some 20) (ai jj))) (fun jj=>jj<=cls.length) (fun jj=>cls.length-jj) 0 (b8 _) ?_
  rintro jj L1 hj
  refine bE ?_
  refine aF rfl ?_ ?_<;>intro aKP h57
  ·have jf:jj<cls.length:=by omega
   obtain⟨s,r,es,er,hc⟩:=hO (cls.getD jj default) (by rw [bz,cq jf];exact p6 _)
   have ecj:cls.getD jj default=cls[jj]:=by rw [bz,cq jf];rfl
   have hcj:(cls.map fO)[((jj:Nat):Int).toNat]?=some (.agg [.list 6 ([s].map aH),.list 6 ([r].map aH),ai (cls.getD jj default).2.2.1,ai (cls.getD jj default).2.2.2]):=by
    rw [Int.toNat_natCast,iV,cq jf,<-ecj]
    show some (fO (cls.getD jj default))=_
    unfold fO
    rw [es,er]
   have hsr:=hc.r1
   have aJ9:=hc.r2
   have th:=hc.r3
   have aKM:=hc.r4
   refine bE ?_
   refine ao rfl ahJ ?_
   refine ba ?_
   refine ao (bg (v:=false) rfl rfl ((rfl)) rfl) (.move _) ?_
   refine ao (bg (v:=false) rfl rfl ((rfl)) rfl) (.move _) ?_
   refine ao (bg (v:=false) rfl rfl ((rfl)) rfl) (.nx (n:=((jj:Nat):Int)) (r:=.agg [.list 6 ([s].map aH),.list 6 ([r].map aH),ai (cls.getD jj default).2.2.1,ai (cls.getD jj default).2.2.2]) rfl oW qF rfl ae hcj rfl) ?_
   refine ao (bg (v:=false) rfl rfl ((rfl)) rfl) nk ?_
   refine ao (bg (v:=false) rfl rfl ((rfl)) rfl) iB ?_
   refine ao (bg (v:=false) rfl rfl ((rfl)) rfl) xV ?_
   refine ao (bg (v:=false) rfl rfl ((rfl)) rfl) (.bin rfl rfl rfl) ?_
   refine ao rfl (.sv rfl ((rfl))) ?_
   refine aP ?_
   refine fi (b:=_) rfl (rfl) ?_
   refine aL ?_
   refine gY (fun L=>∃  (L1:St),(True)/\L=(((((((((((((St.mk L1.slot (hp [(13,⟨3,[.agg [ai d,.list 3 (k.map ah),.list 12 (po.map aW)]],true⟩),(14,⟨3,[.agg [ai e,.list 3 (m.map ah),.list 12 (pf.map aW)]],true⟩),(15,⟨3,[ah tt],true⟩),(16,⟨3,[ah uu],true⟩),(21,⟨6,[aH s],true⟩),(22,⟨6,[aH r],true⟩)])).put (some 4) (iL x)).put (some 5) (iL y)).put (some 13) (.aB 13 3 0 0)).put (some 14) (.aB 14 3 0 0)).put (some 15) (.aB 15 3 0 0)).put (some 16) (.aB 16 3 0 0)).put (some 17) (bL mt)).put (some 18) (.list 4 (cls.map fO))).put (some 19) (iL 0)).put (some 20) (ai jj)).put (some 21) (.aB 21 6 0 0)).put (some 22) (.aB 22 6 0 0))) ?_ ?_
   ·refine aaM ?_
    refine eT 0 rfl rfl an (.pure (.move _)) gz eU ?_
    refine eT 1 rfl rfl an (.pure (.move _)) gz eU ?_
    refine eT 2 rfl rfl an (.pure (.nx (n:=((jj:Nat):Int)) (r:=.agg [.list 6 ([s].map aH),.list 6 ([r].map aH),ai (cls.getD jj default).2.2.1,ai (cls.getD jj default).2.2.2]) rfl oW qF rfl ae hcj rfl)) gz eU ?_
    refine eT 3 rfl rfl an (.pure nk) gz eU ?_
    refine eT 4 rfl rfl an (.pure iB) gz eU ?_
    refine eT 5 rfl rfl an (.pure (.nx (n:=0) (r:=aH s) rfl od nm rfl ak rfl (cg.aw _))) gz eU ?_
    refine eT 6 rfl rfl an (.pure iB) gz eU ?_
    refine eT 7 rfl rfl an (.pure (.move _)) gz eU ?_
    refine eT 8 rfl rfl an (.pure (.move _)) gz eU ?_
    refine eT 9 rfl rfl an (.pure (.nx (n:=((jj:Nat):Int)) (r:=.agg [.list 6 ([s].map aH),.list 6 ([r].map aH),ai (cls.getD jj default).2.2.1,ai (cls.getD jj default).2.2.2]) rfl oW qF rfl ae hcj rfl)) gz eU ?_
    refine eT 10 rfl rfl an (.pure nk) gz eU ?_
    refine eT 11 rfl rfl an (.pure iB) gz eU ?_
    refine eT 12 rfl rfl an (.pure (.nx (n:=0) (r:=aH r) rfl od nm rfl ak rfl (cg.aw _))) gz eU ?_
    refine eT 13 rfl rfl an (.pure iB) gz eU ?_
    refine jL 14 15 _ _ an rfl rfl ?_ ?_
    ·refine av ?_
     refine aJ ?_
     refine aZ 15 _ an rfl ?_
     refine av ?_
     refine aJ ?_
     refine aZ 16 _ an rfl ?_
     refine av ?_
     refine aJ ?_
     refine aZ 17 _ an rfl ?_
     refine av ?_
     refine aJ ?_
     refine fx an ?_
     refine av ?_
     exact⟨_,trivial,((aj (aj (aj (aj (aj (aj (aj (aj (aj (aj (aj (aj (bG (by first | exact cl | (refine aM ?_;refine jh ?_ ?_<;>repeat (first | exact trivial | refine je rfl ?_)))) cl) cl) cl) cl) cl) cl) cl) cl) cl) cl) cl) cl)).symm⟩
    ·refine av ?_
     refine aJ ?_
     refine aZ 14 _ an rfl ?_
     refine av ?_
     refine aJ ?_
     refine aZ 16 _ an rfl ?_
     refine av ?_
     refine aJ ?_
     refine aZ 17 _ an rfl ?_
     refine av ?_
     refine aJ ?_
     refine fx an ?_
     refine av ?_
     exact⟨_,trivial,((aj (aj (aj (aj (aj (aj (aj (aj (aj (aj (aj (aj (bG (by first | exact cl | (refine aM ?_;refine jh ?_ ?_<;>repeat (first | exact trivial | refine je rfl ?_)))) cl) cl) cl) cl) cl) cl) cl) cl) cl) cl) cl) cl)).symm⟩
   ·rintro _ ⟨aKm,-,rfl⟩
    refine aP ?_
    refine gY (fun L=>∃ (ii:Bool) (L1:St),(ii=(mt && (il s tt && il r uu)))/\L=((((((((((((((St.mk L1.slot (hp [(13,⟨3,[.agg [ai d,.list 3 (k.map ah),.list 12 (po.map aW)]],true⟩),(14,⟨3,[.agg [ai e,.list 3 (m.map ah),.list 12 (pf.map aW)]],true⟩),(15,⟨3,[ah tt],true⟩),(16,⟨3,[ah uu],true⟩),(21,⟨6,[aH s],true⟩),(22,⟨6,[aH r],true⟩)])).put (some 4) (iL x)).put (some 5) (iL y)).put (some 13) (.aB 13 3 0 0)).put (some 14) (.aB 14 3 0 0)).put (some 15) (.aB 15 3 0 0)).put (some 16) (.aB 16 3 0 0)).put (some 17) (bL mt)).put (some 18) (.list 4 (cls.map fO))).put (some 19) (iL 0)).put (some 20) (ai jj)).put (some 21) (.aB 21 6 0 0)).put (some 22) (.aB 22 6 0 0)).put (some 23) (bL ii))) ?_ ?_
    ·refine aL ?_
     refine dg 91 rfl ?_ ?_<;>intro aiU h91
     ·refine aP ?_
      refine cp au (aqU s tt ae  ae) ?_
      refine aP ?_
      refine dg 96 rfl ?_ ?_<;>intro ajM h96
      ·refine aP ?_
       refine cp au (aqU r uu ae ae) ?_
       refine aA ?_
       exact⟨(il r uu),_,by rw [(aiU:mt=true),(ajM:il s tt=true)];simp,((aj (aj (aj (aj (aj (aj (aj (aj (aj (aj (aj (aj (aj (bG cl) cl) cl) cl) cl) cl) cl) cl) cl) cl) cl) cl) cl) cl)).symm⟩
      ·refine aY ?_
       exact⟨false,_,by rw [(aiU:mt=true),(ajM:il s tt=false)];rfl,((aj (aj (aj (aj (aj (aj (aj (aj (aj (aj (aj (aj (aj (bG cl) cl) cl) cl) cl) cl) cl) cl) cl) cl) cl) cl) cl) cl)).symm⟩
     ·refine bF ?_
      exact⟨false,_,by rw [(aiU:mt=false)];rfl,((aj (aj (aj (aj (aj (aj (aj (aj (aj (aj (aj (aj (aj (bG cl) cl) cl) cl) cl) cl) cl) cl) cl) cl) cl) cl) cl) cl)).symm⟩
    ·rintro _ ⟨ii,aKk,hii,rfl⟩
     refine aD ?_
     refine ao rfl ahJ ?_
     refine aA ?_
     refine dg 107 rfl ?_ ?_<;>intro amB azr
     ·refine bI ?_
      refine cy ((((((az.kill _ 21).trans (az.kill _ 22)).trans (az.kill _ 24)).trans (az.kill _ 25)).trans (az.kill _ 26)).trans (az.kill _ 28)) ?_
      refine av ?_
      refine ao rfl cM ?_
      refine aL ?_
      exact iD (jj+1) ae
     ·refine ba ?_
      refine aF rfl ?_ ?_<;>intro aCa aoL
      ·refine aA ?_
       refine cy ((((((az.kill _ 21).trans (az.kill _ 22)).trans (az.kill _ 24)).trans (az.kill _ 25)).trans (az.kill _ 26)).trans (az.kill _ 28)) ?_
       refine av ?_
       refine ao rfl cM ?_
       refine aL ?_
       exact iD (jj+1) ae
      ·have hi3:(mt && (il s tt && il r uu))=true:=by rw [<-hii];simpa using aoL
       simp only [jq] at hi3
       have adl:mt=true:=hi3.1
       have hit:oG s tt:=aqH hi3.2.1
       have hiu:oG r uu:=aqH hi3.2.2
       have xC:s.1<=ia s x/\ia s x<=s.2:=abO hc.l1 x
       have hwy:r.1<=ia r y/\ia r y<=r.2:=abO hc.l2 y
       have aJF:=avI hc.r1 hc.r2 x
       have aKL:=avI hc.r3 hc.r4 y
       have hPx:=avD hG (fe hc.i1 xC.1) (fe xC.2 hc.i2) ae
       have hPy:=avD hH (fe hc.i3 hwy.1) (fe hwy.2 hc.i4) ae
       have hEx:=agE hG (fe hc.i1 xC.1) (fe xC.2 hc.i2) ae
       have hEy:=agE hH (fe hc.i3 hwy.1) (fe hwy.2 hc.i4) ae
       have hWx:=ahR s x 100 ak ⟨hc.r1,hc.r2⟩ hx
       have hWy:=ahR r y 100 ak ⟨hc.r3,hc.r4⟩ hy
       have aDJ:(cls.getD jj default).2.2.1≠1:=fun ee=>by rw [ee] at amB;cases amB
       have hon:=fun(he:eY d k po (ia s x)=eY e m pf (ia r y))=>hc.once aDJ _ _ _ _ hit hiu xC hwy (fj adl) he
       have zi:=fun(h3:(cls.getD jj default).2.2.1=3)=>hc.ends h3 _ _ hit hiu (fj adl)
       generalize ia s x=sx at *
       generalize ia r y=ry at *
       have hPE:=aIP (eY d k po sx) (eY e m pf ry) (hPx.le ak) (hPy.le ak)
       refine aL ?_
       refine a8 8 an ?_
       refine aP ?_
       refine cp au (hWx) ?_
       refine aP ?_
       refine cp au (hWy) ?_
       refine bn ?_
       refine ao rfl (.fU rfl rfl rfl rfl cs (dS cs rfl) kt) ?_
       refine av ?_
       refine cp au (hEx) ?_
       refine bI ?_
       refine ao rfl (.fU rfl rfl rfl rfl cs (dS cs rfl) kt) ?_
       refine av ?_
       refine cp au (hEy) ?_
       refine dG ?_
       refine cp au (hPE) ?_
       refine av ?_
       refine dg 132 rfl ?_ ?_<;>intro arB aKs
       ·refine aP ?_
        refine cp au (tz sx tt ae) ?_
        refine av ?_
        refine dg 136 rfl ?_ ?_<;>intro ah5 afs
        ·refine aP ?_
         refine cp au (tz ry uu ae) ?_
         refine ba ?_
         refine aF rfl ?_ ?_<;>intro aBe adp
         ·exact absurd (hon (aw6.1 arB)).2.symm (by simpa using adp)
         ·refine aD ?_
          refine ao rfl ahJ ?_
          refine aA ?_
          refine dg 149 rfl ?_ ?_<;>intro aCl aBM
          ·refine aL ?_
           refine cp au (tz s.1 tt ae) ?_
           refine av ?_
           refine dg 154 rfl ?_ ?_<;>intro ayW an2
           ·exact absurd (show s.1=tt by simpa using an2).symm (zi ae).1
           ·refine aL ?_
            refine cp au (tz s.2 tt ae) ?_
            refine aP ?_
            refine dg 160 rfl ?_ ?_<;>intro aF8 aj2
            ·exact absurd (show s.2=tt by simpa using aj2).symm (zi ae).2.1
            ·refine aL ?_
             refine cp au (tz r.1 uu ae) ?_
             refine aP ?_
             refine dg 166 rfl ?_ ?_<;>intro aFD ajY
             ·exact absurd (show r.1=uu by simpa using ajY).symm (zi ae).2.2.1
             ·refine aL ?_
              refine cp au (tz r.2 uu ae) ?_
              refine aA ?_
              refine aF rfl ?_ ?_<;>intro aBO ajZ
              ·exact absurd (show r.2=uu by simpa using ajZ).symm (zi ae).2.2.2
              ·refine aL ?_
               refine cy ((((((az.kill _ 21).trans (az.kill _ 22)).trans (az.kill _ 24)).trans (az.kill _ 25)).trans (az.kill _ 26)).trans (az.kill _ 28)) ?_
               refine av ?_
               refine ao rfl cM ?_
               refine aL ?_
               exact iD (jj+1) ae
          ·refine asN ?_
           refine cy ((((((az.kill _ 21).trans (az.kill _ 22)).trans (az.kill _ 24)).trans (az.kill _ 25)).trans (az.kill _ 26)).trans (az.kill _ 28)) ?_
           refine av ?_
           refine ao rfl cM ?_
           refine aL ?_
           exact iD (jj+1) ae
        ·exact absurd (hon (aw6.1 arB)).1.symm (by simpa using afs)
       ·refine o4 ?_
        refine ao rfl ahJ ?_
        refine aA ?_
        refine dg 149 rfl ?_ ?_<;>intro aCl aBM
        ·refine aL ?_
         refine cp au (tz s.1 tt ae) ?_
         refine av ?_
         refine dg 154 rfl ?_ ?_<;>intro ayW an2
         ·exact absurd (show s.1=tt by simpa using an2).symm (zi ae).1
         ·refine aL ?_
          refine cp au (tz s.2 tt ae) ?_
          refine aP ?_
          refine dg 160 rfl ?_ ?_<;>intro aF8 aj2
          ·exact absurd (show s.2=tt by simpa using aj2).symm (zi ae).2.1
          ·refine aL ?_
           refine cp au (tz r.1 uu ae) ?_
           refine aP ?_
           refine dg 166 rfl ?_ ?_<;>intro aFD ajY
           ·exact absurd (show r.1=uu by simpa using ajY).symm (zi ae).2.2.1
           ·refine aL ?_
            refine cp au (tz r.2 uu ae) ?_
            refine aA ?_
            refine aF rfl ?_ ?_<;>intro aBO ajZ
            ·exact absurd (show r.2=uu by simpa using ajZ).symm (zi ae).2.2.2
            ·refine aL ?_
             refine cy ((((((az.kill _ 21).trans (az.kill _ 22)).trans (az.kill _ 24)).trans (az.kill _ 25)).trans (az.kill _ 26)).trans (az.kill _ 28)) ?_
             refine av ?_
             refine ao rfl cM ?_
             refine aL ?_
             exact iD (jj+1) ae
        ·refine asN ?_
         refine cy ((((((az.kill _ 21).trans (az.kill _ 22)).trans (az.kill _ 24)).trans (az.kill _ 25)).trans (az.kill _ 26)).trans (az.kill _ 28)) ?_
         refine av ?_
         refine ao rfl cM ?_
         refine aL ?_
         exact iD (jj+1) ae
  ·refine aY ?_
   refine cp am0 (aql) ?_
   refine aA ?_
   exact nH
end Go.Proofs.YtckppbhafancnaaGreat
end
