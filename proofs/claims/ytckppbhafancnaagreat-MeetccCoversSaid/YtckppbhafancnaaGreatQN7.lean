/- Texts A1, A6, A7, A8, A5, A9, U8, U9, U10, U11, U12, U13, U14, U15, U16, U17, U21, U22, U23, U18, U19, U20, U24, U25, J1 of this proof, joined. -/
import Derived.Test.YtckppbhafancnaaGreatQN6
set_option linter.unusedVariables false
set_option linter.unusedSimpArgs false
section
set_option linter.unusedVariables false
set_option linter.unusedSimpArgs false
set_option maxHeartbeats 8000000
set_option maxRecDepth 100000
attribute [local irreducible] Go.Lg.opsL Go.Lg.cx Go.Lg.nn Go.Lg.oB
namespace Go.Proofs.YtckppbhafancnaaGreat
open Go.Lg
theorem acY (bs:List Nat) (c:Nat) (y:a8) (l:List (Nat × a8)):uI bs ((c,y) :: l)=(c,⟨y.sz,y.vals,y.mt && !bs.contains c⟩) :: uI bs l:=rfl
theorem aw5 {l:List (Rat × Rat)} {k:Nat} (h:k<l.length):l.take k++[l.getD k default]=l.take (k+1):=by
 rw [List.take_add_one,List.getElem?_eq_getElem h,List.getD_eq_getElem?_getD,List.getElem?_eq_getElem h];rfl
theorem ah2 {l:List (Rat × Rat)} {k:Nat} (h:k<l.length):l.getD k default∈l:=by
 rw [List.getD_eq_getElem?_getD,List.getElem?_eq_getElem h];exact List.getElem_mem h
theorem ajX:cU Tryz.prog 147 (jo ([],0,[])):=⟨Tryz.t147,_,by kernel_rfl,rfl,rfl,fun Z μ w=>by
 show b7 Z μ w _ _
 exact⟨_,_,rfl,rfl,abH 6,_,_,rfl,rfl,⟨rfl,rfl⟩,_,_,rfl,rfl,abH 1,rfl⟩⟩
instance:EC Tryz.prog 147 jo 3 true ([],0,[]):=⟨aaI,ajX,vJ⟩
theorem uC:cU Tryz.prog 51 (eY ([],[],0,0)):=⟨Tryz.t51,_,by kernel_rfl,rfl,rfl,fun Z μ w=>by
 show b7 Z μ w _ _
 exact⟨_,_,rfl,rfl,abH 6,_,_,rfl,rfl,abH 6,_,_,rfl,rfl,⟨rfl,rfl⟩,_,_,rfl,rfl,⟨rfl,rfl⟩,rfl⟩⟩
theorem at2:ae (1/2)=.agg [.v (.bool false),ba 1,.list 1 ([2].map bh)]:=by
 rw [show (1/2:Rat)=qv false 1 2 from by decide +kernel,adJ false ai ai]
 rfl
theorem aqr:(default:Int)=0:=rfl
theorem aCT (a b:Rat):(a+b)*(1/2)=(a+b)/2:=by grind
namespace an5
theorem aH {p q:Prop} (k:q) (e:p=q:=by simp only [e1,e2,e3,e4,p1,p2,p3,q1,q2,q3,l1,t0,t1,r1,r2,r3,r4,Nat.zero_add,Nat.reduceMul,Nat.reduceAdd,b1,b2,b3,b4,b5,b6,i1,i2,i3,i4,i5,i6,Nat.reduceBEq,wM,acY,List.set_cons_zero,List.set_cons_succ,Nat.reduceEqDiff,reduceIte,if_true,if_false,dU,eo,aP bg,aP bw,aP ao,cH,dO,LV.kill,bN];exact rfl):p:=e.mpr k
end an5
open an5 in
theorem awC (a b:Rat) (h:rl a+rl b<=100000):av Tryz.prog 192 [ae a,ae b] (ae ((a+b)/2)):=by
 have hz:=jx a b
 have hh:rl (1/2)=1:=by decide +kernel
 have hM:=gf (a+b) (1/2) J
 rw [aCT] at hM
 refine aN Tryz.func192 ?_
 refine bo ?_
 refine cp aq (iw a b J) ?_
 refine cp am0 (ajM) ?_
 refine aL ?_
 try refine aH ?_
 refine afv [9] rfl rfl (.cons (.pure (ao.pure _)) (.cons (show cG _ _ (ae (1/2)) from at2 ▸ .agg (.cons (.pure rfl) (.cons (.pure rfl) (.cons (eM eZ rfl rfl rfl) .nil)))) .nil)) hM ?_
 refine ax ?_
 exact fq
open fN in
theorem amt (s:Rat × Rat) (h:rl s.1+rl s.2<=100000):av Tryz.prog 105 [aD s] (ae (iW s)):=by
 refine aN Tryz.func105 ?_
 refine bu ?_
 refine cp aq (awC s.1 s.2 h) ?_
 refine ax ?_
 exact fq
open fN in
theorem axE (s:Rat × Rat) (R:Nat) (hR:R<=10000) (hb:cZ R s) (hle:s.1<=s.2):av Tryz.prog 166 [aD s] (.a7 [aD (nW s),aD (oD s)]):=by
 obtain⟨a1,a2⟩:=hb
 have hM:=amt s J
 have uz:=jx s.1 s.2
 have yi:=oT (s.1+s.2) 2
 have hh:rl 2=1:=by decide +kernel
 have em:(s.1+s.2)/2*2=s.1+s.2:=Rat.div_mul_cancel ai
 have hmr:rl (iW s)<=2*R+2:=by unfold iW;omega
 have jJ:s.1<=iW s:=by unfold iW;grind
 have mc:iW s<=s.2:=by unfold iW;grind
 have hO1:=zo s.1 (iW s) J
 have hO2:=zo (iW s) s.2 J
 rw [show (gg s.1 (iW s),fO s.1 (iW s))=nW s from by unfold gg fO nW;rw [if_neg cA];split<;>(first | rfl | (congr 1;grind))] at hO1
 rw [show (gg (iW s) s.2,fO (iW s) s.2)=oD s from by unfold gg fO oD;rw [if_neg cA];split<;>(first | rfl | (congr 1;grind))] at hO2
 refine aN Tryz.func166 (ht:=(jh (bS.pure _) (bS.pure _))) ?_
 refine bB ?_
 refine cp aK (hM) ?_
 refine aZ ?_
 refine aY 8 an ?_
 refine aJ ?_
 refine cp aq (hO1) ?_
 refine aJ ?_
 refine cp aq (hO2) ?_
 refine aZ ?_
 exact ajm [] rfl rfl rfl (bS.au _) (yh _) lE (.pure (bS.pure _)) rfl rfl (bS.au _) (yh _) lE (.pure (bS.pure _))
namespace anq
theorem aH {p q:Prop} (k:q) (e:p=q:=by simp only [e1,e2,e3,e4,p1,p2,p3,q1,q2,q3,l1,t0,t1,r1,r2,r3,r4,Nat.zero_add,Nat.reduceMul,Nat.reduceAdd,b1,b2,b3,b4,b5,b6,i1,i2,i3,i4,i5,i6,Nat.reduceBEq,gr,fB,aP bS,List.length_map,kW,kJ,iA,List.length_cons,List.length_nil,List.nil_append,List.map_nil,List.take_nil,List.append_nil,List.set_cons_zero,List.set_cons_succ,Nat.reduceEqDiff,reduceIte,if_true,if_false,dU,eo,aP bg,aP bw,aP ao,cH,dO,LV.kill,bN];exact rfl):p:=e.mpr k
end anq
open anq in
theorem apQ (l:List (Rat × Rat)) (h0:0<l.length) (hl:l.length<=1000) (hb:∀ s∈l,cZ 1000000 s/\s.1<=s.2):nk Tryz.prog 87 [.list 6 (l.map aD)] (.ref 1 6 0 l.length) [⟨6,l.map aD,true⟩]:=by
 refine fnO Tryz.func87 ?_
 have gr:True:=trivial
 have fB:True:=trivial
 refine nh ?_
 refine ju (aw.own (t:=3) 19 6 rfl rfl) ?_
 refine dG (fun(k:Nat) L=>(((((St.mk L.slot (hp [(19,⟨6,(l.take k).map aD,true⟩)])).put (some 3) (.ref 19 6 0 k)).put (some 6) (.list 6 (l.map aD))).put (some 7) (ah l.length)).put (some 8) (ah k))) (fun k=>k<=l.length) (fun k=>l.length-k) 0 (Nat.zero_le _) ?_
 rintro k L1 hk
 refine az ?_
 refine aC rfl ?_ ?_<;>intro ta h9
 ·have kT:k<l.length:=by omega
  obtain⟨⟨jm,vK⟩,hs3⟩:=hb _ (ah2 kT)
  have gr:=aw5 kT
  have fB:((l.take k).map aD).take k=(l.take k).map aD:=List.take_of_length_le wI
  have hSO:av Tryz.prog 90 [ae (l.getD k default).1,ae (l.getD k default).2] (aD (l.getD k default)):=by
   have:=zo (l.getD k default).1 (l.getD k default).2 J
   have e1x:gg (l.getD k default).1 (l.getD k default).2=(l.getD k default).1:=by unfold gg;split<;>grind
   have e2x:fO (l.getD k default).1 (l.getD k default).2=(l.getD k default).2:=by unfold fO;split<;>grind
   rw [e1x,e2x] at this
   exact this
  refine mQ ?_
  refine cp aq (hSO) ?_
  refine ar ?_
  refine bI rfl (.ga (d:=19) (news:=[aD (l.getD k default)]) rfl rfl rfl rfl bm (.inl rfl) ai Tryz.underlying49 Tryz.underlying49 xr aj0 cs B54 (.inl ⟨18,0,_,rfl,by decide,rfl,rfl,by simp,rfl,by simp [aG,bS.pure]⟩) bm bm ai) ?_
  refine ax ?_
  refine cq ((aw.kill _ 5).trans (aw.kill _ 18)) ?_
  refine ak rfl cB ?_
  refine aJ ?_
  exact iJ (k+1) J
 ·obtain rfl:k=l.length:=by omega
  have hE:l.take l.length=l:=List.take_length
  refine bu ?_
  simp only [hE]
  exact acA rfl rfl (aW bS _)
theorem ahQ (l:List (Rat × Rat)) (h0:0<l.length) (hl:l.length<=1000) (hb:∀ s∈l,cZ 1000000 s/\s.1<=s.2):av Tryz.prog 87 [.list 6 (l.map aD)] (.list 6 (l.map aD)):=ajR (apQ l h0 hl hb) (aW bS _) aO
namespace aoJ
theorem aH {p q:Prop} (k:q) (e:p=q:=by simp only [e1,e2,e3,e4,p1,p2,p3,q1,q2,q3,l1,t0,t1,r1,r2,r3,r4,Nat.zero_add,Nat.reduceMul,Nat.reduceAdd,b1,b2,b3,b4,b5,b6,i1,i2,i3,i4,i5,i6,Nat.reduceBEq,jo,aqr,Int.toNat_natCast,Nat.zero_add,ems,emt,aP bS,aP m8,List.length_map,List.take_nil,List.nil_append,List.set_cons_zero,List.set_cons_succ,Nat.reduceEqDiff,reduceIte,if_true,if_false,dU,eo,aP bg,aP bw,aP ao,cH,dO,LV.kill,bN];exact rfl):p:=e.mpr k
end aoJ
open aoJ in
theorem anb (x:ez) (n D:Nat) (hn:x.1.length=n) (ht:x.2.2.length=n) (h0:0<n) (yK:n<=10) (hD:x.2.1<=D) (hD9:D<=1000) (htm:∀ t∈x.2.2,0<=t/\t<=1000) (s:Rat × Rat):av Tryz.prog 165 [aD s,.bV (.agg [.list 6 (x.1.map aD),ah x.2.1,.list 1 (x.2.2.map eW)]),.bV (ah (eT x))] (jo (xu x s)):=by
 have hbx:LV.pure (.agg [.list 6 (x.1.map aD),ah x.2.1,.list 1 (x.2.2.map eW)])=true:=sn x
 have hpS:=aW bS x.1
 have hpT:=aW m8 x.2.2
 have bW:eT x<n:=by
  have:=aaW (t:=x.2.2) x.2.2.length (Nat.le_refl _) J
  unfold eT;omega
 have htk:=htm _ (show x.2.2.getD (eT x) 0∈x.2.2 by rw [List.getD_eq_getElem?_getD,List.getElem?_eq_getElem J];exact List.getElem_mem J)
 have ems:(x.1.map aD).set (eT x) (aD s)=(x.1.set (eT x) s).map aD:=List.map_set.symm
 have emt:(x.2.2.map eW).set (eT x) (eW (x.2.2.getD (eT x) 0+1))=(x.2.2.set (eT x) (x.2.2.getD (eT x) 0+1)).map eW:=List.map_set.symm
 refine aN Tryz.func165 (ht:=(fun g=>LV.cP g _ (sn _))) ?_
 have ems:True:=trivial
 have emt:True:=trivial
 refine aR ?_
 refine fZ (fun L=>∃  (L1:St),(True)/\L=((((((St.mk L1.slot (hp [(3,⟨6,[aD s],true⟩),(4,⟨3,[.agg [.v (.slice none 0 0),.v (.int .i64 0),.v (.slice none 0 0)]],true⟩),(5,⟨3,[.agg [.ref 6 6 0 x.1.length,ah (x.2.1+1),.ref 13 1 0 x.2.2.length]],true⟩),(6,⟨6,x.1.map aD,true⟩),(13,⟨1,x.2.2.map eW,true⟩)])).put (some 1) (.bV (.agg [.list 6 (x.1.map aD),ah x.2.1,.list 1 (x.2.2.map eW)]))).put (some 2) (.bV (ah (eT x)))).put (some 3) (.aA 3 6 0 0)).put (some 4) (.aA 4 3 0 0)).put (some 5) (.aA 5 3 0 0))) ?_ ?_
 ·refine aap ?_
  refine gu 1 rfl rfl an (.pure lZ) jq gv ?_
  refine gu 2 rfl rfl an (.pure (.qA rfl hpS rfl rfl)) jq gv ?_
  refine gu 4 rfl rfl an (.pure lZ) jq gv ?_
  refine gu 5 rfl rfl an (.pure il) jq gv ?_
  refine gu 6 rfl rfl an (.pure (.bin rfl rfl (ab9 J))) jq gv ?_
  refine gu 8 rfl rfl an (.pure lZ) jq gv ?_
  refine gu 9 rfl rfl an (.pure (.qA rfl hpT rfl rfl)) jq gv ?_
  refine anG 0 7 12 _ _ _ an rfl rfl rfl ?_ ?_ ?_
  ·refine ar ?_
   refine aE ?_
   refine anG 3 7 12 _ _ _ an rfl rfl rfl ?_ ?_ ?_
   ·refine bI rfl tx ?_
    refine aE ?_
    refine iR 7 12 _ _ an rfl rfl ?_ ?_
    ·refine ar ?_
     refine aE ?_
     refine iR 10 12 _ _ an rfl rfl ?_ ?_
     ·refine bI rfl pn ?_
      refine aE ?_
      refine iR 11 12 _ _ an rfl rfl ?_ ?_
      ·refine ar ?_
       refine aE ?_
       refine aV 12 _ an rfl ?_
       refine ar ?_
       refine aE ?_
       refine aV 13 _ an rfl ?_
       refine ar ?_
       refine aE ?_
       refine eO an ?_
       refine ar ?_
       exact⟨_,trivial,((aj (aj (aj (aj (aj (bC (by first | exact cl | (refine aH ?_;refine iy ?_ ?_<;>repeat (first | exact trivial | refine And.intro rfl ?_)))) cl) cl) cl) cl) cl)).symm⟩
      ·refine ar ?_
       refine aE ?_
       refine aV 11 _ an rfl ?_
       refine ar ?_
       refine aE ?_
       refine aV 13 _ an rfl ?_
       refine ar ?_
       refine aE ?_
       refine eO an ?_
       refine ar ?_
       exact⟨_,trivial,((aj (aj (aj (aj (aj (bC (by first | exact cl | (refine aH ?_;refine iy ?_ ?_<;>repeat (first | exact trivial | refine And.intro rfl ?_)))) cl) cl) cl) cl) cl)).symm⟩
     ·refine ar ?_
      refine aE ?_
      refine aV 10 _ an rfl ?_
      refine bI rfl pn ?_
      refine aE ?_
      refine aV 11 _ an rfl ?_
      refine ar ?_
      refine aE ?_
      refine aV 13 _ an rfl ?_
      refine ar ?_
      refine aE ?_
      refine eO an ?_
      refine ar ?_
      exact⟨_,trivial,((aj (aj (aj (aj (aj (bC (by first | exact cl | (refine aH ?_;refine iy ?_ ?_<;>repeat (first | exact trivial | refine And.intro rfl ?_)))) cl) cl) cl) cl) cl)).symm⟩
    ·refine ar ?_
     refine aE ?_
     refine aV 7 _ an rfl ?_
     refine ar ?_
     refine aE ?_
     refine aV 10 _ an rfl ?_
     refine bI rfl pn ?_
     refine aE ?_
     refine aV 11 _ an rfl ?_
     refine ar ?_
     refine aE ?_
     refine aV 13 _ an rfl ?_
     refine ar ?_
     refine aE ?_
     refine eO an ?_
     refine ar ?_
     exact⟨_,trivial,((aj (aj (aj (aj (aj (bC (by first | exact cl | (refine aH ?_;refine iy ?_ ?_<;>repeat (first | exact trivial | refine And.intro rfl ?_)))) cl) cl) cl) cl) cl)).symm⟩
   ·refine ar ?_
    refine aE ?_
    refine iR 3 12 _ _ an rfl rfl ?_ ?_
    ·refine bI rfl tx ?_
     refine aE ?_
     refine iR 10 12 _ _ an rfl rfl ?_ ?_
     ·refine bI rfl pn ?_
      refine aE ?_
      refine iR 11 12 _ _ an rfl rfl ?_ ?_
      ·refine ar ?_
       refine aE ?_
       refine aV 12 _ an rfl ?_
       refine ar ?_
       refine aE ?_
       refine aV 13 _ an rfl ?_
       refine ar ?_
       refine aE ?_
       refine eO an ?_
       refine ar ?_
       exact⟨_,trivial,((aj (aj (aj (aj (aj (bC (by first | exact cl | (refine aH ?_;refine iy ?_ ?_<;>repeat (first | exact trivial | refine And.intro rfl ?_)))) cl) cl) cl) cl) cl)).symm⟩
      ·refine ar ?_
       refine aE ?_
       refine aV 11 _ an rfl ?_
       refine ar ?_
       refine aE ?_
       refine aV 13 _ an rfl ?_
       refine ar ?_
       refine aE ?_
       refine eO an ?_
       refine ar ?_
       exact⟨_,trivial,((aj (aj (aj (aj (aj (bC (by first | exact cl | (refine aH ?_;refine iy ?_ ?_<;>repeat (first | exact trivial | refine And.intro rfl ?_)))) cl) cl) cl) cl) cl)).symm⟩
     ·refine ar ?_
      refine aE ?_
      refine aV 10 _ an rfl ?_
      refine bI rfl pn ?_
      refine aE ?_
      refine aV 11 _ an rfl ?_
      refine ar ?_
      refine aE ?_
      refine aV 13 _ an rfl ?_
      refine ar ?_
      refine aE ?_
      refine eO an ?_
      refine ar ?_
      exact⟨_,trivial,((aj (aj (aj (aj (aj (bC (by first | exact cl | (refine aH ?_;refine iy ?_ ?_<;>repeat (first | exact trivial | refine And.intro rfl ?_)))) cl) cl) cl) cl) cl)).symm⟩
    ·refine ar ?_
     refine aE ?_
     refine aV 3 _ an rfl ?_
     refine bI rfl tx ?_
     refine aE ?_
     refine aV 10 _ an rfl ?_
     refine bI rfl pn ?_
     refine aE ?_
     refine aV 11 _ an rfl ?_
     refine ar ?_
     refine aE ?_
     refine aV 13 _ an rfl ?_
     refine ar ?_
     refine aE ?_
     refine eO an ?_
     refine ar ?_
     exact⟨_,trivial,((aj (aj (aj (aj (aj (bC (by first | exact cl | (refine aH ?_;refine iy ?_ ?_<;>repeat (first | exact trivial | refine And.intro rfl ?_)))) cl) cl) cl) cl) cl)).symm⟩
   ·refine ar ?_
    refine aE ?_
    refine iR 3 7 _ _ an rfl rfl ?_ ?_
    ·refine bI rfl tx ?_
     refine aE ?_
     refine aV 7 _ an rfl ?_
     refine ar ?_
     refine aE ?_
     refine aV 10 _ an rfl ?_
     refine bI rfl pn ?_
     refine aE ?_
     refine aV 11 _ an rfl ?_
     refine ar ?_
     refine aE ?_
     refine aV 13 _ an rfl ?_
     refine ar ?_
     refine aE ?_
     refine eO an ?_
     refine ar ?_
     exact⟨_,trivial,((aj (aj (aj (aj (aj (bC (by first | exact cl | (refine aH ?_;refine iy ?_ ?_<;>repeat (first | exact trivial | refine And.intro rfl ?_)))) cl) cl) cl) cl) cl)).symm⟩
    ·refine ar ?_
     refine aE ?_
     refine aV 3 _ an rfl ?_
     refine bI rfl tx ?_
     refine aE ?_
     refine aV 10 _ an rfl ?_
     refine bI rfl pn ?_
     refine aE ?_
     refine aV 11 _ an rfl ?_
     refine ar ?_
     refine aE ?_
     refine aV 13 _ an rfl ?_
     refine ar ?_
     refine aE ?_
     refine eO an ?_
     refine ar ?_
     exact⟨_,trivial,((aj (aj (aj (aj (aj (bC (by first | exact cl | (refine aH ?_;refine iy ?_ ?_<;>repeat (first | exact trivial | refine And.intro rfl ?_)))) cl) cl) cl) cl) cl)).symm⟩
  ·refine ar ?_
   refine aE ?_
   refine iR 0 12 _ _ an rfl rfl ?_ ?_
   ·refine ar ?_
    refine aE ?_
    refine iR 3 12 _ _ an rfl rfl ?_ ?_
    ·refine bI rfl tx ?_
     refine aE ?_
     refine iR 10 12 _ _ an rfl rfl ?_ ?_
     ·refine bI rfl pn ?_
      refine aE ?_
      refine iR 11 12 _ _ an rfl rfl ?_ ?_
      ·refine ar ?_
       refine aE ?_
       refine aV 12 _ an rfl ?_
       refine ar ?_
       refine aE ?_
       refine aV 13 _ an rfl ?_
       refine ar ?_
       refine aE ?_
       refine eO an ?_
       refine ar ?_
       exact⟨_,trivial,((aj (aj (aj (aj (aj (bC (by first | exact cl | (refine aH ?_;refine iy ?_ ?_<;>repeat (first | exact trivial | refine And.intro rfl ?_)))) cl) cl) cl) cl) cl)).symm⟩
      ·refine ar ?_
       refine aE ?_
       refine aV 11 _ an rfl ?_
       refine ar ?_
       refine aE ?_
       refine aV 13 _ an rfl ?_
       refine ar ?_
       refine aE ?_
       refine eO an ?_
       refine ar ?_
       exact⟨_,trivial,((aj (aj (aj (aj (aj (bC (by first | exact cl | (refine aH ?_;refine iy ?_ ?_<;>repeat (first | exact trivial | refine And.intro rfl ?_)))) cl) cl) cl) cl) cl)).symm⟩
     ·refine ar ?_
      refine aE ?_
      refine aV 10 _ an rfl ?_
      refine bI rfl pn ?_
      refine aE ?_
      refine aV 11 _ an rfl ?_
      refine ar ?_
      refine aE ?_
      refine aV 13 _ an rfl ?_
      refine ar ?_
      refine aE ?_
      refine eO an ?_
      refine ar ?_
      exact⟨_,trivial,((aj (aj (aj (aj (aj (bC (by first | exact cl | (refine aH ?_;refine iy ?_ ?_<;>repeat (first | exact trivial | refine And.intro rfl ?_)))) cl) cl) cl) cl) cl)).symm⟩
    ·refine ar ?_
     refine aE ?_
     refine aV 3 _ an rfl ?_
     refine bI rfl tx ?_
     refine aE ?_
     refine aV 10 _ an rfl ?_
     refine bI rfl pn ?_
     refine aE ?_
     refine aV 11 _ an rfl ?_
     refine ar ?_
     refine aE ?_
     refine aV 13 _ an rfl ?_
     refine ar ?_
     refine aE ?_
     refine eO an ?_
     refine ar ?_
     exact⟨_,trivial,((aj (aj (aj (aj (aj (bC (by first | exact cl | (refine aH ?_;refine iy ?_ ?_<;>repeat (first | exact trivial | refine And.intro rfl ?_)))) cl) cl) cl) cl) cl)).symm⟩
   ·refine ar ?_
    refine aE ?_
    refine aV 0 _ an rfl ?_
    refine ar ?_
    refine aE ?_
    refine aV 3 _ an rfl ?_
    refine bI rfl tx ?_
    refine aE ?_
    refine aV 10 _ an rfl ?_
    refine bI rfl pn ?_
    refine aE ?_
    refine aV 11 _ an rfl ?_
    refine ar ?_
    refine aE ?_
    refine aV 13 _ an rfl ?_
    refine ar ?_
    refine aE ?_
    refine eO an ?_
    refine ar ?_
    exact⟨_,trivial,((aj (aj (aj (aj (aj (bC (by first | exact cl | (refine aH ?_;refine iy ?_ ?_<;>repeat (first | exact trivial | refine And.intro rfl ?_)))) cl) cl) cl) cl) cl)).symm⟩
  ·refine ar ?_
   refine aE ?_
   refine iR 0 7 _ _ an rfl rfl ?_ ?_
   ·refine ar ?_
    refine aE ?_
    refine iR 3 7 _ _ an rfl rfl ?_ ?_
    ·refine bI rfl tx ?_
     refine aE ?_
     refine aV 7 _ an rfl ?_
     refine ar ?_
     refine aE ?_
     refine aV 10 _ an rfl ?_
     refine bI rfl pn ?_
     refine aE ?_
     refine aV 11 _ an rfl ?_
     refine ar ?_
     refine aE ?_
     refine aV 13 _ an rfl ?_
     refine ar ?_
     refine aE ?_
     refine eO an ?_
     refine ar ?_
     exact⟨_,trivial,((aj (aj (aj (aj (aj (bC (by first | exact cl | (refine aH ?_;refine iy ?_ ?_<;>repeat (first | exact trivial | refine And.intro rfl ?_)))) cl) cl) cl) cl) cl)).symm⟩
    ·refine ar ?_
     refine aE ?_
     refine aV 3 _ an rfl ?_
     refine bI rfl tx ?_
     refine aE ?_
     refine aV 10 _ an rfl ?_
     refine bI rfl pn ?_
     refine aE ?_
     refine aV 11 _ an rfl ?_
     refine ar ?_
     refine aE ?_
     refine aV 13 _ an rfl ?_
     refine ar ?_
     refine aE ?_
     refine eO an ?_
     refine ar ?_
     exact⟨_,trivial,((aj (aj (aj (aj (aj (bC (by first | exact cl | (refine aH ?_;refine iy ?_ ?_<;>repeat (first | exact trivial | refine And.intro rfl ?_)))) cl) cl) cl) cl) cl)).symm⟩
   ·refine ar ?_
    refine aE ?_
    refine aV 0 _ an rfl ?_
    refine ar ?_
    refine aE ?_
    refine aV 3 _ an rfl ?_
    refine bI rfl tx ?_
    refine aE ?_
    refine aV 10 _ an rfl ?_
    refine bI rfl pn ?_
    refine aE ?_
    refine aV 11 _ an rfl ?_
    refine ar ?_
    refine aE ?_
    refine aV 13 _ an rfl ?_
    refine ar ?_
    refine aE ?_
    refine eO an ?_
    refine ar ?_
    exact⟨_,trivial,((aj (aj (aj (aj (aj (bC (by first | exact cl | (refine aH ?_;refine iy ?_ ?_<;>repeat (first | exact trivial | refine And.intro rfl ?_)))) cl) cl) cl) cl) cl)).symm⟩
 ·rintro _ ⟨LR1,-,rfl⟩
  refine mQ ?_
  try refine aH ?_
  refine ak rfl v8 ?_
  refine bo ?_
  exact fW [6,13] rfl rfl rfl cs (dJ cs rfl) vJ (.agg (.cons (eM (l:=x.1.set (eT x) s) bS rfl rfl aO) (.cons (.pure rfl) (.cons (eM (l:=x.2.2.set (eT x) (x.2.2.getD (eT x) 0+1)) m8 rfl rfl aO) .nil))))
namespace aqp
theorem aH {p q:Prop} (k:q) (e:p=q:=by simp only [e1,e2,e3,e4,p1,p2,p3,q1,q2,q3,l1,t0,t1,r1,r2,r3,r4,Nat.zero_add,Nat.reduceMul,Nat.reduceAdd,b1,b2,b3,b4,b5,b6,i1,i2,i3,i4,i5,i6,Nat.reduceBEq,ht,jo,aqr,Int.toNat_natCast,Nat.zero_add,els,wM,acY,List.length_map,List.set_cons_zero,List.set_cons_succ,Nat.reduceEqDiff,reduceIte,if_true,if_false,dU,eo,aP bg,aP bw,aP ao,cH,dO,LV.kill,bN];exact rfl):p:=e.mpr k
end aqp
open aqp in
theorem aht (x:ez) (n D:Nat) (hn:x.1.length=n) (ht:x.2.2.length=n) (h0:0<n) (yK:n<=10) (hD:x.2.1<=D) (hD9:D<=1000) (htm:∀ t∈x.2.2,0<=t/\t<=1000) (R:Nat) (hR:R<=10000) (hs:∀ s∈x.1,cZ R s/\s.1<=s.2):av Tryz.prog 89 [.agg [.list 6 (x.1.map aD),ah x.2.1,.list 1 (x.2.2.map eW)]] (.a7 [jo (lU x),jo (lQ x)]):=by
 have hbx:LV.pure (.agg [.list 6 (x.1.map aD),ah x.2.1,.list 1 (x.2.2.map eW)])=true:=sn x
 have hpS:=aW bS x.1
 have hpT:=aW m8 x.2.2
 have bW:eT x<n:=by
  have:=aaW (t:=x.2.2) x.2.2.length (Nat.le_refl _) J
  unfold eT;omega
 have htk:=htm _ (show x.2.2.getD (eT x) 0∈x.2.2 by rw [List.getD_eq_getElem?_getD,List.getElem?_eq_getElem J];exact List.getElem_mem J)
 have hsk:=hs (x.1.getD (eT x) default) (by rw [List.getD_eq_getElem?_getD,List.getElem?_eq_getElem J];exact List.getElem_mem J)
 have hH:=axE (x.1.getD (eT x) default) R hR hsk.1 hsk.2
 have fG:aG ([.bV (.agg [.list 6 (x.1.map aD),ah x.2.1,.list 1 (x.2.2.map eW)]),.bV (ah (eT x))]:List LV)=true:=by simp [aG,LV.pure,aW bS,aW m8]
 have hcs:∀ y∈([.bV (.agg [.list 6 (x.1.map aD),ah x.2.1,.list 1 (x.2.2.map eW)]),.bV (ah (eT x))]:List LV),y.au=1/\y.isAgg=false:=fun y hy=>by
  simp only [List.mem_cons,List.not_mem_nil,or_false] at hy
  rcases hy with e | e<;>rw [e]<;>exact⟨rfl,rfl⟩
 have hA:=anb x n D hn ht h0 yK hD hD9 htm (nW (x.1.getD (eT x) default))
 have hB:=anb x n D hn ht h0 yK hD hD9 htm (oD (x.1.getD (eT x) default))
 refine aN Tryz.func89 (ht:=(jh (sn _) (sn _))) ?_
 have els:True:=trivial
 refine yu ?_
 refine dG (fun(i:Nat) L=>((((((((St.mk L.slot (hp [(1,⟨3,[.agg [.list 6 (x.1.map aD),ah x.2.1,.list 1 (x.2.2.map eW)]],true⟩),(2,⟨3,[.agg [.v (.slice none 0 0),.v (.int .i64 0),.v (.slice none 0 0)]],true⟩),(3,⟨3,[.agg [.v (.slice none 0 0),.v (.int .i64 0),.v (.slice none 0 0)]],true⟩),(4,⟨1,[ah (uX x.2.2 i)],true⟩)])).put (some 1) (.aA 1 3 0 0)).put (some 2) (.aA 2 3 0 0)).put (some 3) (.aA 3 3 0 0)).put (some 4) (.aA 4 1 0 0)).put (some 11) (.list 1 (x.2.2.map eW))).put (some 12) (ah n)).put (some 13) (ah i))) (fun i=>i<=n) (fun i=>n-i) 0 (Nat.zero_le _) ?_
 rintro i L1 hi
 refine az ?_
 refine aC rfl ?_ ?_<;>intro oI kg
 ·have dA:i<n:=by omega
  have hli:=aaW (t:=x.2.2) i J J
  refine yl ?_
  refine aC rfl ?_ ?_<;>intro o7 rv
  ·have els:uX x.2.2 (i+1)=i:=if_pos rv
   refine aR ?_
   refine ak rfl cB ?_
   refine aJ ?_
   exact jS
  ·have els:uX x.2.2 (i+1)=uX x.2.2 i:=if_neg rv
   refine ax ?_
   refine ak rfl cB ?_
   refine aJ ?_
   exact jS
 ·obtain rfl:n=i:=by omega
  have hE9:uX x.2.2 n=eT x:=by unfold eT;rw [ht]
  simp only [hE9]
  refine aR ?_
  refine mG [1,4] rfl rfl (.mk (caps:=([.bV (.agg [.list 6 (x.1.map aD),ah x.2.1,.list 1 (x.2.2.map eW)]),.bV (ah (eT x))]:List LV)) (.cons (.aA rfl rfl rfl cs (dJ cs rfl) hbx rfl) (.cons (.aA (n:=1) (ag:=false) rfl rfl rfl rfl rfl rfl rfl) .nil)) hcs) rfl ?_
  refine bB ?_
  refine cp aK (hH) ?_
  refine bB ?_
  refine aY 6 an ?_
  refine aL ?_
  refine mG [] rfl rfl (.cV (f:=165) (cap:=([.bV (.agg [.list 6 (x.1.map aD),ah x.2.1,.list 1 (x.2.2.map eW)]),.bV (ah (eT x))]:List LV)) (args:=[aD (nW (x.1.getD (eT x) default))]) rfl (.cons (.pure (bS.pure _)) .nil) ⟨fG,hcs⟩ hA.1 ai (fun _ h=>by cases h)) (hA.2 _) ?_
  refine aL ?_
  refine mG [] rfl rfl (.cV (f:=165) (cap:=([.bV (.agg [.list 6 (x.1.map aD),ah x.2.1,.list 1 (x.2.2.map eW)]),.bV (ah (eT x))]:List LV)) (args:=[aD (oD (x.1.getD (eT x) default))]) rfl (.cons (.pure (bS.pure _)) .nil) ⟨fG,hcs⟩ hB.1 ai (fun _ h=>by cases h)) (hB.2 _) ?_
  refine aZ ?_
  exact ajm [] rfl rfl rfl cs (dJ cs rfl) vJ (.pure (sn _)) rfl rfl cs (dJ cs rfl) vJ (.pure (sn _))
theorem spu (a b:Rat):aD (a,b)=.agg [ae a,ae b]:=by unfold aD;rfl
theorem aqX {R:Nat} {s:Rat × Rat} (h:cZ R s):cZ R (mB s):=⟨by show rl (-s.2)<=R;rw [afa];exact h.2,by show rl (-s.1)<=R;rw [afa];exact h.1⟩
theorem axQ {R:Nat} {p q r s:Rat × Rat} (hp:cZ R p) (hq:cZ R q) (hr:cZ R r) (hs:cZ R s):cZ (4*R+1) (d2S p q r s):=(aqQ (acL hp hs) (acL hq hr)).le J
theorem aw9 {P:Program} {H:bK} {ρ:Operand->LV} {T:TypeId} (hl:jV P T [(3,true),(3,true)]) (hz:cU P T (aD (0,0))):aB P H ρ (.build T #[]) (aD (0,0)):=by
 have e:[ae 0,ae 0].map lay=[(3,true),(3,true)]:=by simp [lay,ao.au,ao.isAgg]
 rw [spu] at hz ⊢
 exact .build (zs:=[ae 0,ae 0]) (e ▸ hl) hz (by intro p hp;cases hp)
theorem afE {P:Program} {H:bK} {ρ:Operand->LV} {T E:TypeId} {n:Nat} {ag:Bool} {o0 o1:Operand} {z v0 v1:LV} (hT:P.underlying T=some (.array 2 E)) (t:bp P E n ag) (hz:cU P T (.agg [z,z])) (zl:lay z=(n,ag)) (h0:ρ o0=v0) (h1:ρ o1=v1)
  (l0:lay v0=(n,ag)) (l1:lay v1=(n,ag)) (p0:v0.pure=true) (sE:v1.pure=true):aB P H ρ (.build T #[(0,o0),(1,o1)]) (.agg [v0,v1]):=by
 have:=aB.xH (P:=P) (H:=H) (ρ:=ρ) (zs:=[z,z]) (ps:=#[(0,o0),(1,o1)]) hT t (by simp [zl]) hz (by
  intro p hp
  simp only [List.mem_cons,List.not_mem_nil,or_false] at hp
  rcases hp with rfl | rfl
  ·exact⟨_,rfl,by rw [h0,l0,zl],by rw [h0];exact LV.eF p0,by rw [h0];exact LV.dZ p0⟩
  ·exact⟨_,rfl,by rw [h1,l1,zl],by rw [h1];exact LV.eF sE,by rw [h1];exact LV.dZ sE⟩)
 simpa only [iD,List.map,List.foldl,List.set,h0,h1] using this
theorem lz {p:Prop} (h:p:=by first | rfl | simp [lay,LV.au,cF,qL,ao.au,bS.au,ao.isAgg,bS.isAgg]):p:=h
open H0 in
theorem amG (q:Rat) (h:rl q<=274877906944):av Tryz.prog 189 [ae q] (ae (-q)):=by
 refine aN Tryz.func189 ?_
 refine bq ?_
 refine cp aK (ahu q J) ?_
 refine bq ?_
 refine dy 8 rfl ?_ ?_<;>intro mX h8
 ·refine az ?_
  refine bI rfl (.adT rfl rfl rfl T4 (by first | exact af7 mX | exact ae5 mX)) ?_
  refine bq ?_
  exact fq
 ·refine az ?_
  refine bI rfl (.adT rfl rfl rfl T4 (by first | exact af7 mX | exact ae5 mX)) ?_
  refine bq ?_
  exact fq
open fN in
theorem aoH (s:Rat × Rat) (R:Nat) (hR:R<=1000000000) (hs:cZ R s):av Tryz.prog 102 [aD s] (aD (mB s)):=by
 obtain⟨a1,a2⟩:=hs
 refine aN Tryz.func102 ?_
 refine aR ?_
 refine aY 7 an ?_
 refine aL ?_
 refine cp aK (amG s.2 J) ?_
 refine aL ?_
 refine cp aK (amG s.1 J) ?_
 refine aZ ?_
 exact rh
open fN in
theorem aa9 (s t:Rat × Rat) (R:Nat) (hR:R<=100000000000) (hs:cZ R s) (ht:cZ R t) (hm:kf s t=true):av Tryz.prog 97 [aD s,aD t] (.a7 [aD (fO s.1 t.1,gg s.2 t.2),bL true]):=by
 obtain⟨a1,a2⟩:=hs
 obtain⟨y1,y2⟩:=ht
 have hle:=of_decide_eq_true hm
 have uz:rl (fO s.1 t.1)<=R:=by unfold fO;split<;>assumption
 have yi:rl (gg s.2 t.2)<=R:=by unfold gg;split<;>assumption
 have hcm:¬fi (fO s.1 t.1) (gg s.2 t.2) > 0:=fun e=>by have:=ry.1 e;grind
 refine aN Tryz.func97 (ht:=(jh (bS.pure _) rfl)) ?_
 refine bq ?_
 refine aY 12 an ?_
 refine ax ?_
 refine cp aq ((aeJ s.1 t.1 J:av Tryz.prog 168 [ae s.1,ae t.1] (ae (fO s.1 t.1)))) ?_
 refine ax ?_
 refine cp aq ((afn s.2 t.2 J:av Tryz.prog 167 [ae s.2,ae t.2] (ae (gg s.2 t.2)))) ?_
 refine bu ?_
 refine cp aq (lL (fO s.1 t.1) (gg s.2 t.2) J) ?_
 refine aJ ?_
 refine eE (b:=_) rfl (decide_eq_false hcm) ?_
 refine bB ?_
 exact sN [] rfl rfl rfl (bS.au _) (yh _) lE (.pure (bS.pure _)) rfl (.pure rfl)
open fN in
theorem aib (s t:Rat × Rat) (R:Nat) (hR:R<=100000000000) (hs:cZ R s) (ht:cZ R t) (hm:kf s t=false):av Tryz.prog 97 [aD s,aD t] (.a7 [aD (0,0),bL false]):=by
 obtain⟨a1,a2⟩:=hs
 obtain⟨y1,y2⟩:=ht
 have hle:=of_decide_eq_false hm
 have uz:rl (fO s.1 t.1)<=R:=by unfold fO;split<;>assumption
 have yi:rl (gg s.2 t.2)<=R:=by unfold gg;split<;>assumption
 have hcm:fi (fO s.1 t.1) (gg s.2 t.2) > 0:=ry.2 cA
 refine aN Tryz.func97 (ht:=(jh (bS.pure _) rfl)) ?_
 refine bq ?_
 refine aY 12 an ?_
 refine ax ?_
 refine cp aq ((aeJ s.1 t.1 J:av Tryz.prog 168 [ae s.1,ae t.1] (ae (fO s.1 t.1)))) ?_
 refine ax ?_
 refine cp aq ((afn s.2 t.2 J:av Tryz.prog 167 [ae s.2,ae t.2] (ae (gg s.2 t.2)))) ?_
 refine bu ?_
 refine cp aq (lL (fO s.1 t.1) (gg s.2 t.2) J) ?_
 refine aJ ?_
 refine bY (b:=_) rfl (decide_eq_true hcm) ?_
 refine aL ?_
 refine ak rfl (aw9 ard xr) ?_
 refine az ?_
 exact sN [] rfl rfl rfl (bS.au _) (yh _) lE (.pure (bS.pure _)) rfl (.pure rfl)
namespace vj
theorem aH {p q:Prop} (k:q) (e:p=q:=by simp only [e1,e2,e3,e4,p1,p2,p3,q1,q2,q3,l1,t0,t1,r1,r2,r3,r4,Nat.zero_add,Nat.reduceMul,Nat.reduceAdd,b1,b2,b3,b4,b5,b6,i1,i2,i3,i4,i5,i6,Nat.reduceBEq,List.getD_cons_zero,List.getD_cons_succ,List.set_cons_zero,List.set_cons_succ,Nat.reduceEqDiff,reduceIte,if_true,if_false,dU,eo,aP bg,aP bw,aP ao,cH,dO,LV.kill,bN];exact rfl):p:=e.mpr k
end vj
open vj in
theorem ayl (p q r s:Rat × Rat) (R:Nat) (hR:R<=100000000) (hp9:cZ R p) (hq9:cZ R q) (hr9:cZ R r) (hs9:cZ R s):av Tryz.prog 101 [.agg [.agg [aD p,aD q],.agg [aD r,aD s]]] (aD (d2S p q r s)):=by
 have m1:=acL hp9 hs9
 have m2:=acL hq9 hr9
 refine aN Tryz.func101 (ht:=(fun r=>LV.cP r _ (bS.pure _))) ?_
 refine aR ?_
 refine aY 15 an ?_
 refine az ?_
 refine cp aq (ahI p s R J hp9 hs9) ?_
 refine az ?_
 refine cp aq (ahI q r R J hq9 hr9) ?_
 refine cp aq (aqB (yk p s) (yk q r) (R+R) J m1 m2) ?_
 refine ax ?_
 exact rh
open vj in
theorem axq (a b:oE) (R:Nat) (hR:R<=100000000000) (ha:nw R a) (hb:nw R b) (fX:kf a.x b.x=true) (iI:kf a.y b.y=true) (dY:kf a.z b.z=true):av Tryz.prog 44 [lM a,lM b] (bL true):=by
 obtain⟨a1,a2,a3⟩:=ha
 obtain⟨y1,y2,y3⟩:=hb
 refine aN Tryz.func44 ?_
 refine dj ?_
 refine bF ?_
 refine az ?_
 refine bY (b:=_) rfl ai ?_
 refine bo ?_
 refine fS 11 [9] an ?_
 refine az ?_
 refine cp aq (aa9 a.x b.x R hR a1 y1 fX) ?_
 refine dj ?_
 refine eE (b:=_) rfl (rfl) ?_
 refine aJ ?_
 refine cq (aw.kill _ 6) ?_
 refine ax ?_
 refine bF ?_
 refine az ?_
 refine bY (b:=_) rfl ai ?_
 refine bo ?_
 refine fS 11 [9] an ?_
 refine az ?_
 refine cp aq (aa9 a.y b.y R hR a2 y2 iI) ?_
 refine dj ?_
 refine eE (b:=_) rfl (rfl) ?_
 refine aJ ?_
 refine cq (aw.kill _ 6) ?_
 refine ax ?_
 refine bF ?_
 refine az ?_
 refine bY (b:=_) rfl ai ?_
 refine bo ?_
 refine fS 11 [9] an ?_
 refine az ?_
 refine cp aq (aa9 a.z b.z R hR a3 y3 dY) ?_
 refine dj ?_
 refine eE (b:=_) rfl (rfl) ?_
 refine aJ ?_
 refine cq (aw.kill _ 6) ?_
 refine ax ?_
 refine bF ?_
 refine az ?_
 refine eE (b:=_) rfl ai ?_
 refine bo ?_
 exact mF
open vj in
theorem aws (a b:oE) (R:Nat) (hR:R<=100000000000) (ha:nw R a) (hb:nw R b) (fX:kf a.x b.x=true) (iI:kf a.y b.y=true) (dY:kf a.z b.z=false):av Tryz.prog 44 [lM a,lM b] (bL false):=by
 obtain⟨a1,a2,a3⟩:=ha
 obtain⟨y1,y2,y3⟩:=hb
 refine aN Tryz.func44 ?_
 refine dj ?_
 refine bF ?_
 refine az ?_
 refine bY (b:=_) rfl ai ?_
 refine bo ?_
 refine fS 11 [9] an ?_
 refine az ?_
 refine cp aq (aa9 a.x b.x R hR a1 y1 fX) ?_
 refine dj ?_
 refine eE (b:=_) rfl (rfl) ?_
 refine aJ ?_
 refine cq (aw.kill _ 6) ?_
 refine ax ?_
 refine bF ?_
 refine az ?_
 refine bY (b:=_) rfl ai ?_
 refine bo ?_
 refine fS 11 [9] an ?_
 refine az ?_
 refine cp aq (aa9 a.y b.y R hR a2 y2 iI) ?_
 refine dj ?_
 refine eE (b:=_) rfl (rfl) ?_
 refine aJ ?_
 refine cq (aw.kill _ 6) ?_
 refine ax ?_
 refine bF ?_
 refine az ?_
 refine bY (b:=_) rfl ai ?_
 refine bo ?_
 refine fS 11 [9] an ?_
 refine az ?_
 refine cp aq (aib a.z b.z R hR a3 y3 dY) ?_
 refine dj ?_
 refine bY (b:=_) rfl (rfl) ?_
 refine bo ?_
 exact mF
open vj in
theorem aC3 (a b:oE) (R:Nat) (hR:R<=100000000000) (ha:nw R a) (hb:nw R b) (fX:kf a.x b.x=true) (iI:kf a.y b.y=false):av Tryz.prog 44 [lM a,lM b] (bL false):=by
 obtain⟨a1,a2,a3⟩:=ha
 obtain⟨y1,y2,y3⟩:=hb
 refine aN Tryz.func44 ?_
 refine dj ?_
 refine bF ?_
 refine az ?_
 refine bY (b:=_) rfl ai ?_
 refine bo ?_
 refine fS 11 [9] an ?_
 refine az ?_
 refine cp aq (aa9 a.x b.x R hR a1 y1 fX) ?_
 refine dj ?_
 refine eE (b:=_) rfl (rfl) ?_
 refine aJ ?_
 refine cq (aw.kill _ 6) ?_
 refine ax ?_
 refine bF ?_
 refine az ?_
 refine bY (b:=_) rfl ai ?_
 refine bo ?_
 refine fS 11 [9] an ?_
 refine az ?_
 refine cp aq (aib a.y b.y R hR a2 y2 iI) ?_
 refine dj ?_
 refine bY (b:=_) rfl (rfl) ?_
 refine bo ?_
 exact mF
open vj in
theorem asb (a b:oE) (R:Nat) (hR:R<=100000000000) (ha:nw R a) (hb:nw R b) (fX:kf a.x b.x=false):av Tryz.prog 44 [lM a,lM b] (bL false):=by
 obtain⟨a1,a2,a3⟩:=ha
 obtain⟨y1,y2,y3⟩:=hb
 refine aN Tryz.func44 ?_
 refine dj ?_
 refine bF ?_
 refine az ?_
 refine bY (b:=_) rfl ai ?_
 refine bo ?_
 refine fS 11 [9] an ?_
 refine az ?_
 refine cp aq (aib a.x b.x R hR a1 y1 fX) ?_
 refine dj ?_
 refine bY (b:=_) rfl (rfl) ?_
 refine bo ?_
 exact mF
theorem aBr (a b:oE) (R:Nat) (hR:R<=100000000000) (ha:nw R a) (hb:nw R b):av Tryz.prog 44 [lM a,lM b] (bL (meB a b)):=by
 unfold meB
 cases h0:kf a.x b.x with
 | false=>exact asb a b R hR ha hb h0
 | true =>
  cases h1:kf a.y b.y with
  | false=>exact aC3 a b R hR ha hb h0 h1
  | true =>
   cases h2:kf a.z b.z with
   | false=>exact aws a b R hR ha hb h0 h1 h2
   | true=>exact axq a b R hR ha hb h0 h1 h2
open fN in
theorem asi (s:Rat × Rat) (h1:rl s.1<=200000000000) (h2:rl s.2<=200000000000):av Tryz.prog 256 [aD s] (.a7 [iL (if cM s.1=cM s.2 then cM s.1 else 0),bL (decide (cM s.1=cM s.2))]):=by
 refine aN Tryz.func256 (ht:=(jh rfl rfl)) ?_
 refine bf ?_
 refine aY 8 an ?_
 refine aL ?_
 refine cp aK (uW _ J) ?_
 refine aL ?_
 refine cp aK (uW _ J) ?_
 refine bu ?_
 refine aC rfl ?_ ?_<;>intro oI kg
 ·refine bf ?_
  rw [if_neg kg,decide_eq_false kg]
  exact uy
 ·refine bB ?_
  have apL:cM s.1=cM s.2:=by simpa using kg
  rw [if_pos apL,decide_eq_true apL]
  exact uy
namespace aqh
theorem aH {p q:Prop} (k:q) (e:p=q:=by simp only [e1,e2,e3,e4,p1,p2,p3,q1,q2,q3,l1,t0,t1,r1,r2,r3,r4,Nat.zero_add,Nat.reduceMul,Nat.reduceAdd,b1,b2,b3,b4,b5,b6,i1,i2,i3,i4,i5,i6,Nat.reduceBEq,fB,gr,aP bg,List.length_map,kW,kJ,iA,List.length_cons,List.length_nil,List.nil_append,List.map_nil,List.take_nil,List.append_nil,List.set_cons_zero,List.set_cons_succ,Nat.reduceEqDiff,reduceIte,if_true,if_false,dU,eo,aP bg,aP bw,aP ao,cH,dO,LV.kill,bN];exact rfl):p:=e.mpr k
end aqh
open aqh in
theorem apV (po:List aF) (h0:0<po.length) (hl:po.length<=1000):av Tryz.prog 110 [.list 12 (po.map aT)] (.list 9 ((po.map (·.p)).map aS)):=by
 refine aN Tryz.func110 (ht:=(fun g=>LV.cP g _ (eB bg _ _))) ?_
 have fB:True:=trivial
 have gr:True:=trivial
 refine nh ?_
 refine ju (aw.own (t:=3) 16 9 rfl rfl) ?_
 refine dG (fun(j:Nat) L=>(((((St.mk L.slot (hp [(16,⟨9,((po.map (·.p)).take j).map aS,true⟩)])).put (some 3) (.ref 16 9 0 j)).put (some 6) (.list 12 (po.map aT))).put (some 7) (ah po.length)).put (some 8) (ah j))) (fun j=>j<=po.length) (fun j=>po.length-j) 0 (Nat.zero_le _) ?_
 rintro j L1 hj
 refine az ?_
 refine aC rfl ?_ ?_<;>intro ta h9
 ·have g7:j<po.length:=by omega
  have gr:(po.map (·.p)).take j++[(po.getD j default).p]=(po.map (·.p)).take (j+1):=zF (fun q:aF=>q.p) po g7
  have fB:(((po.map (·.p)).take j).map aS).take j=((po.map (·.p)).take j).map aS:=List.take_of_length_le bm
  refine im ?_
  refine bI rfl (.ga (d:=16) (news:=[aS (po.getD j default).p]) rfl rfl rfl rfl bm (.inl rfl) ai Tryz.underlying165 Tryz.underlying165 Z40 ij cs B40 (.inl ⟨15,0,_,rfl,by decide,rfl,rfl,by simp,rfl,by simp [aG,bg.pure]⟩) bm bm ai) ?_
  refine ax ?_
  refine cq ((aw.kill _ 5).trans (aw.kill _ 15)) ?_
  refine ak rfl cB ?_
  refine aJ ?_
  exact vF
 ·obtain rfl:j=po.length:=by omega
  have hE:(po.map (·.p)).take po.length=(po.map (·.p)):=List.take_of_length_le aO
  refine bu ?_
  simp only [hE]
  exact mL [16] rfl rfl (eM bg rfl rfl aO)
namespace ak9
theorem aH {p q:Prop} (k:q) (e:p=q:=by simp only [e1,e2,e3,e4,p1,p2,p3,q1,q2,q3,l1,t0,t1,r1,r2,r3,r4,Nat.zero_add,Nat.reduceMul,Nat.reduceAdd,b1,b2,b3,b4,b5,b6,i1,i2,i3,i4,i5,i6,Nat.reduceBEq,cy,uN,egd,List.length_map,List.set_cons_zero,List.set_cons_succ,Nat.reduceEqDiff,reduceIte,if_true,if_false,dU,eo,aP bg,aP bw,aP ao,cH,dO,LV.kill,bN];exact rfl):p:=e.mpr k
end ak9
open ak9 in
theorem ao3 (p:V3) (l:List V3) (R:Nat) (hR:R<=90000000) (yd:cj R p) (h0:0<l.length) (hl9:l.length<=1000) (hl:∀ q∈l,cj R q):av Tryz.prog 257 [aS p,.list 9 (l.map aS)] (aD (tI p l)):=by
 have kX:∀ q∈l,rl (de p q)<=10*R+10:=fun q hq=>by
  obtain⟨a1,a2,a3⟩:=yd
  obtain⟨y1,y2,y3⟩:=hl q hq
  have e0:=cO p.x q.x
  have e5:=cO p.y q.y
  have e6:=cO p.z q.z
  have e7:=jx (0+p.x*q.x) (p.y*q.y)
  have e8:=jx (0+p.x*q.x+p.y*q.y) (p.z*q.z)
  have e9:(0:Rat)+p.x*q.x=p.x*q.x:=by grind
  unfold de
  rw [e9] at e7 e8 ⊢
  omega
 have hdR:∀ x∈l.map (de p),rl x<=10*R+10:=fun x hx=>by
  obtain⟨q,hq,rfl⟩:=List.mem_map.1 hx
  exact kX q hq
 refine aN Tryz.func257 (ht:=(fun r=>LV.cP r _ (bS.pure _))) ?_
 have uN:True:=trivial
 have egd:True:=trivial
 refine nj ?_
 refine dG (fun(i:Nat) L=>(((((((St.mk L.slot (hp [(2,⟨9,[aS p],true⟩),(4,⟨6,[aD (0,0)],true⟩),(5,⟨6,[aD (lY (l.map (de p)) i)],true⟩)])).put (some 2) (.aA 2 9 0 0)).put (some 4) (.aA 4 6 0 0)).put (some 5) (.aA 5 6 0 0)).put (some 9) (.list 9 (l.map aS))).put (some 10) (ah l.length)).put (some 11) (ah i))) (fun i=>i<=l.length) (fun i=>l.length-i) 0 (Nat.zero_le _) ?_
 rintro i L1 hi
 refine az ?_
 refine aC rfl ?_ ?_<;>intro aaL h12
 ·have dA:i<l.length:=by omega
  have hli:=hl (l.getD i default) (by rw [List.getD_eq_getElem?_getD,List.getElem?_eq_getElem dA];exact List.getElem_mem dA)
  have hdi:=kX (l.getD i default) (by rw [List.getD_eq_getElem?_getD,List.getElem?_eq_getElem dA];exact List.getElem_mem dA)
  have egd:(l.map (de p)).getD i 0=de p (l.getD i default):=by rw [List.getD_eq_getElem?_getD,List.getElem?_map,List.getElem?_eq_getElem dA,List.getD_eq_getElem?_getD,List.getElem?_eq_getElem dA];rfl
  have ib:=ahY (R:=10*R+10) J hdR
  have yP:=ait (R:=10*R+10) J ib i
  have uN:lY (l.map (de p)) (i+1)=mw (if i=0 then((l.map (de p)).getD i 0,(l.map (de p)).getD i 0) else lY (l.map (de p)) i) ((l.map (de p)).getD i 0,(l.map (de p)).getD i 0):=rfl
  rw [egd] at uN
  have hVD:=ab0 p (l.getD i default) R J yd hli
  refine mQ ?_
  refine cp aq (hVD) ?_
  refine cp aK (pY (de p (l.getD i default)) J) ?_
  refine bo ?_
  refine aC rfl ?_ ?_<;>intro yc h21
  ·have nE:i=0:=by omega
   rw [if_pos nE] at uN
   refine bf ?_
   first | refine cp aq (sQ (lY (l.map (de p)) i) (de p (l.getD i default),de p (l.getD i default)) (by have:=yP.1;show _+rl (de p (l.getD i default))<=_;omega) (by have:=yP.2;show _+rl (de p (l.getD i default))<=_;omega)) ?_ | refine cp aq (sQ (de p (l.getD i default),de p (l.getD i default)) (de p (l.getD i default),de p (l.getD i default)) aeE aeE) ?_
   refine ax ?_
   refine cq ((aw.kill _ 7).trans (aw.kill _ 8)) ?_
   refine ak rfl cB ?_
   refine aJ ?_
   exact jS
  ·have nE:¬ i=0:=by omega
   rw [if_neg nE] at uN
   refine aZ ?_
   first | refine cp aq (sQ (lY (l.map (de p)) i) (de p (l.getD i default),de p (l.getD i default)) (by have:=yP.1;show _+rl (de p (l.getD i default))<=_;omega) (by have:=yP.2;show _+rl (de p (l.getD i default))<=_;omega)) ?_ | refine cp aq (sQ (de p (l.getD i default),de p (l.getD i default)) (de p (l.getD i default),de p (l.getD i default)) aeE aeE) ?_
   refine ax ?_
   refine cq ((aw.kill _ 7).trans (aw.kill _ 8)) ?_
   refine ak rfl cB ?_
   refine aJ ?_
   exact jS
 ·obtain rfl:l.length=i:=by omega
  have hE9:lY (l.map (de p)) l.length=tI p l:=by unfold tI gz;rw [List.length_map]
  refine bu ?_
  rw [<-hE9]
  exact rh
theorem al7 {r:V3} {R:Nat} {l:List V3} (hr:cj R r) (hl:∀ q∈l,cj R q):cZ (10*R+10) (tI r l):=by
 unfold tI
 refine ad0 J fun x hx=>?_
 obtain⟨q,hq,rfl⟩:=List.mem_map.1 hx
 have:=zV hr (hl q hq)
 omega
theorem avb {x y:Int} (h1:-1<=x/\x<=1) (h2:-1<=y/\y<=1):-1<=x*y/\x*y<=1:=by
 obtain⟨a,b⟩:=h1
 obtain⟨c,d⟩:=h2
 rcases(show x=-1\/x=0\/x=1 by omega) with rfl | rfl | rfl<;>rcases(show y=-1\/y=0\/y=1 by omega) with rfl | rfl | rfl<;>decide
theorem ayx (s t:Rat × Rat):ue s t=(decide (cM s.1=cM s.2) && (decide (cM t.1=cM t.2) && decide ((if cM s.1=cM s.2 then cM s.1 else 0)*(if cM t.1=cM t.2 then cM t.1 else 0)<0))):=by
 unfold ue
 by_cases h1:cM s.1=cM s.2
 ·by_cases h2:cM t.1=cM t.2
  ·rw [if_pos h1,if_pos h2,Bool.and_assoc]
  ·rw [decide_eq_false h2];simp
 ·rw [decide_eq_false h1];simp
theorem azt (x:Rat):-1<=cM x/\cM x<=1:=by
 unfold cM
 split
 ·decide
 ·split<;>decide
theorem aj7 (s:Rat × Rat):-1<=(if cM s.1=cM s.2 then cM s.1 else 0)/\(if cM s.1=cM s.2 then cM s.1 else 0)<=1:=by
 split
 ·exact azt _
 ·decide
open fN in
theorem alm (r:V3) (R:Nat) (hR:R<=90000000) (hr:cj R r) (lp lq:List V3) (ahb:0<lp.length) (aio:lp.length<=1000) (zG:∀ q∈lp,cj R q) (ah0:0<lq.length) (ajf:lq.length<=1000) (kF:∀ q∈lq,cj R q):av Tryz.prog 202 [.agg [.list 9 (lp.map aS),.list 9 (lq.map aS)],aS r] (.a7 [iL (if cM (jB r lp lq).1=cM (jB r lp lq).2 then cM (jB r lp lq).1 else 0),bL (decide (cM (jB r lp lq).1=cM (jB r lp lq).2))]):=by
 have aCz:=ao3 r lp R hR hr ahb aio zG
 have ale:cZ (10*R+10) (tI r lp):=al7 hr zG
 have azO:=ao3 r lq R hR hr ah0 ajf kF
 have amv:cZ (10*R+10) (tI r lq):=al7 hr kF
 have bsd:=aqQ ale amv
 obtain⟨bs1,bs2⟩:=bsd
 refine aN Tryz.func202 (ht:=(jh rfl rfl)) ?_
 refine bq ?_
 refine aY 14 an ?_
 refine aJ ?_
 refine cp aq (aCz) ?_
 refine aJ ?_
 refine cp aq (azO) ?_
 refine cp aq (aqB (tI r lp) (tI r lq) (10*R+10) J ale amv) ?_
 refine cp aK (asi (jB r lp lq) (Nat.le_trans bs1 J) (Nat.le_trans bs2 J)) ?_
 refine aR ?_
 exact uy
open fN in
theorem ano (r:V3) (R:Nat) (hR:R<=90000000) (hr:cj R r) (lp lq lu lv:List V3) (ahb:0<lp.length) (aio:lp.length<=1000) (zG:∀ q∈lp,cj R q) (ah0:0<lq.length) (ajf:lq.length<=1000) (kF:∀ q∈lq,cj R q) (ayF:0<lu.length) (atL:lu.length<=1000) (fC:∀ q∈lu,cj R q) (axG:0<lv.length) (awL:lv.length<=1000) (hlv:∀ q∈lv,cj R q):av Tryz.prog 112 [aS r,.agg [.list 9 (lp.map aS),.list 9 (lq.map aS)],.agg [.list 9 (lu.map aS),.list 9 (lv.map aS)]] (bL (ue (jB r lp lq) (jB r lu lv))):=by
 have g1:=aj7 (jB r lp lq)
 have g2:=aj7 (jB r lu lv)
 have hm:=avb g1 g2
 have hoe:=ayx (jB r lp lq) (jB r lu lv)
 have aEj:LV.pure (.agg [.list 9 (lp.map aS),.list 9 (lq.map aS)])=true:=by simp [LV.pure,aG,aW bg]
 have aDz:LV.pure (.agg [.list 9 (lu.map aS),.list 9 (lv.map aS)])=true:=by simp [LV.pure,aG,aW bg]
 refine aN Tryz.func112 ?_
 refine bu ?_
 refine cp aq (alm r R hR hr lp lq ahb aio zG ah0 ajf kF) ?_
 refine bo ?_
 refine cp aq (alm r R hR hr lu lv ayF atL fC axG awL hlv) ?_
 refine bo ?_
 refine dy 24 rfl ?_ ?_<;>intro o7 rv
 ·refine aJ ?_
  refine dy 27 rfl ?_ ?_<;>intro u4 h27
  ·refine aL ?_
   refine ak (a6 (v:=true) rfl rfl (u4) rfl) (.bin rfl rfl (afi J J)) ?_
   refine az ?_
   rw [hoe,o7,u4]
   exact mF
  ·refine bq ?_
   rw [hoe,o7,u4]
   exact mF
 ·refine bu ?_
  rw [hoe,o7]
  exact mF
open fN in
theorem amb (q:aF) (R:Nat) (hR:R<=1000000) (h:oF R q):av Tryz.prog 201 [aT q] (aT q):=by
 obtain⟨hp,hw,kI⟩:=h
 have qC:rl 0=1:=rfl
 have hA:=iw q.w 0 J
 rw [Rat.add_zero] at hA
 have hz:cj 1 (⟨0,0,0⟩:V3):=⟨by decide,by decide,by decide⟩
 have hV:av Tryz.prog 255 [aS q.p,aS ⟨0,0,0⟩] (aS q.p):=by
  have:=auD q.p ⟨0,0,0⟩ (R+1) J (hp.le J) (hz.le J)
  rwa [show pV q.p ⟨0,0,0⟩=q.p from by unfold pV;simp only [Rat.add_zero]] at this
 refine aN Tryz.func201 (ht:=(fun g=>LV.cP g _ (bw.pure _))) ?_
 refine aR ?_
 refine aY 9 an ?_
 refine aL ?_
 refine pH avz ?_
 refine cp aq (hV) ?_
 refine aL ?_
 refine ak rfl nQ ?_
 refine cp aq (hA) ?_
 refine pH (yT rfl rfl) ?_
 refine ax ?_
 exact fW [] rfl rfl rfl cs (dJ cs rfl) rT (.pure pu)
namespace aiD
theorem aH {p q:Prop} (k:q) (e:p=q:=by simp only [e1,e2,e3,e4,p1,p2,p3,q1,q2,q3,l1,t0,t1,r1,r2,r3,r4,Nat.zero_add,Nat.reduceMul,Nat.reduceAdd,b1,b2,b3,b4,b5,b6,i1,i2,i3,i4,i5,i6,Nat.reduceBEq,List.length_map,List.set_cons_zero,List.set_cons_succ,Nat.reduceEqDiff,reduceIte,if_true,if_false,dU,eo,aP bg,aP bw,aP ao,cH,dO,LV.kill,bN];exact rfl):p:=e.mpr k
end aiD
open aiD in
theorem ayn (d:Nat) (kn:List Rat) (po:List aF) (R:Nat) (hR:R<=1000000) (h:jW po d R):av Tryz.prog 111 [.agg [ah d,.list 3 (kn.map ae),.list 12 (po.map aT)]] (.a7 [aS (po.getD 0 default).p,aS (po.getD (po.length-1) default).p]):=by
 have hl:=h.hl
 have h6:=h.h6
 have fG:LV.pure (.agg [ah d,.list 3 (kn.map ae),.list 12 (po.map aT)])=true:=by simp [LV.pure,aG,aW ao,aW bw]
 have tn:=amb (po.getD 0 default) R hR (h.ok _ (qM J))
 have xl:=amb (po.getD (po.length-1) default) R hR (h.ok _ (qM J))
 refine aN Tryz.func111 (ht:=(jh (bg.pure _) (bg.pure _))) ?_
 refine mH ?_
 refine aC rfl ?_ ?_<;>intro h7r h7
 ·omega
 ·refine aJ ?_
  refine aCq rfl 16 2 [6,7,8,9,10,11,12,13,14,15] an rfl ?_
  simp only [List.take_succ_cons,List.take_zero,e1,e2,e3,e4,p1,p2,p3,q1,q2,q3,l1,t0,t1,r1,r2,r3,r4,Nat.zero_add,Nat.reduceMul,Nat.reduceAdd,b1,b2,b3,b4,b5,b6,i1,i2,i3,i4,i5,i6,Nat.reduceBEq,bh7,dh1,dh2,dh3]
  refine ax ?_
  refine cp aK (tn) ?_
  refine az ?_
  refine ak rfl jz ?_
  refine aL ?_
  refine cp aK (xl) ?_
  refine ar ?_
  refine atG rfl rfl (fun om h=>by cases h;exact⟨_,_,_,_,_,rfl,rfl⟩) ?_
  simp only [List.drop_succ_cons,List.drop_zero]
  refine aZ ?_
  exact ajm [] rfl rfl rfl cs (dJ cs rfl) ij (.pure pu) rfl rfl cs (dJ cs rfl) ij (.pure pu)
structure M3 where
 a:V3
 b:V3
 c:V3
 t:V3
 deriving Inhabited
def dV (m:M3):LV:=.agg [.agg [aS m.a,aS m.b,aS m.c],aS m.t]
theorem dN:gE dV 36 true:=⟨fun m=>by simp [dV,LV.au,cF,bg.au],fun _=>rfl,fun m=>by simp [dV,LV.pure,aG,bg.pure]⟩
def zW (m:M3) (p:V3):V3:=⟨de m.a p,de m.b p,de m.c p⟩
def m3p (m:M3) (p:V3):V3:=pV (zW m p) m.t
def qG (m:M3) (q:aF):aF:=⟨m3p m q.p,q.w⟩
def qq (R:Nat) (m:M3):Prop:=cj R m.a/\cj R m.b/\cj R m.c/\cj R m.t
theorem akZ {R S:Nat} {m:M3} {p:V3} (hm:qq R m) (hp:cj S p):cj (3*(R+S)+4) (zW m p):=⟨zV hm.1 hp,zV hm.2.1 hp,zV hm.2.2.1 hp⟩
instance:EC Tryz.prog 68 dV 36 true ⟨⟨0,0,0⟩,⟨0,0,0⟩,⟨0,0,0⟩,⟨0,0,0⟩⟩:=⟨dN,Z68,uM⟩
theorem aek (p:V3):(aS p).at 0 9 true=some (aS p):=dJ (bg.au p) rfl
theorem adH (m:M3):(dV m).at 0 9 true=some (aS m.a):=by
 simp [dV,LV.at,q8,LV.au,cF,bg.au,aek]
theorem adQ (m:M3):(dV m).at 9 9 true=some (aS m.b):=by
 simp [dV,LV.at,q8,LV.au,cF,bg.au,aek]
theorem ad5 (m:M3):(dV m).at 18 9 true=some (aS m.c):=by
 simp [dV,LV.at,q8,LV.au,cF,bg.au,aek]
theorem arC (m:M3):(dV m).at 27 9 true=some (aS m.t):=by
 simp [dV,LV.at,q8,LV.au,cF,bg.au,aek]
theorem acf (m:M3) (b:Nat):(dV m).kill b=dV m:=LV.kt b _ (dN.pure m)
section
variable {P:Program} {H:bK} {ρ:Operand->LV} {T E:TypeId}
theorem agY {o0 o1 o2:Operand} {a b c:V3} [u:UN P T (.array 3 E)] [t:TI P E 9 true] [z:ZI P T (.agg [aS ⟨0,0,0⟩,aS ⟨0,0,0⟩,aS ⟨0,0,0⟩])] (h0:ρ o0=aS a) (h1:ρ o1=aS b) (h2:ρ o2=aS c) :
  aB P H ρ (.build T #[(0,o0),(1,o1),(2,o2)]) (.agg [aS a,aS b,aS c]):=by
 have:=aB.vg (H:=H) (ρ:=ρ) (ps:=#[(0,o0),(1,o1),(2,o2)]) (u:=u) (t:=t) (z:=z) (by simp [lay,bg.au,bg.isAgg]) (by
  intro p hp
  simp only [List.mem_cons,List.not_mem_nil,or_false] at hp
  rcases hp with rfl | rfl | rfl
  ·exact⟨_,rfl,by rw [h0];simp [lay,bg.au,bg.isAgg],by rw [h0];exact LV.eF (bg.pure _),by rw [h0];exact LV.dZ (bg.pure _)⟩
  ·exact⟨_,rfl,by rw [h1];simp [lay,bg.au,bg.isAgg],by rw [h1];exact LV.eF (bg.pure _),by rw [h1];exact LV.dZ (bg.pure _)⟩
  ·exact⟨_,rfl,by rw [h2];simp [lay,bg.au,bg.isAgg],by rw [h2];exact LV.eF (bg.pure _),by rw [h2];exact LV.dZ (bg.pure _)⟩)
 simpa only [iD,List.map,List.foldl,List.set,h0,h1,h2] using this
end
instance:ZI Tryz.prog 66 (.agg [aS ⟨0,0,0⟩,aS ⟨0,0,0⟩,aS ⟨0,0,0⟩]):=⟨Z66⟩
instance:ZI Tryz.prog 68 (.agg [.agg [aS ⟨0,0,0⟩,aS ⟨0,0,0⟩,aS ⟨0,0,0⟩],aS ⟨0,0,0⟩]):=⟨Z68⟩
instance:AE Tryz.prog 68 dV 36 true ⟨⟨0,0,0⟩,⟨0,0,0⟩,⟨0,0,0⟩,⟨0,0,0⟩⟩:=⟨dN,Z68⟩
open fN in
theorem avR (p q r:V3) (R:Nat) (hR:R<=200000000) (hp:cj R p) (hq:cj R q) (hr:cj R r):av Tryz.prog 253 [aS p,aS q,aS r] (ae (de p (gI q r))):=by
 have hx:=yV hq hr
 refine aN Tryz.func253 ?_
 refine bq ?_
 refine aY 5 an ?_
 refine aJ ?_
 refine cp aq (aga q r R J hq hr) ?_
 refine cp aq (ab0 p (gI q r) (4*R+5) J (hp.le J) hx) ?_
 refine ax ?_
 exact fq
namespace aiN
theorem aH {p q:Prop} (k:q) (e:p=q:=by simp only [e1,e2,e3,e4,p1,p2,p3,q1,q2,q3,l1,t0,t1,r1,r2,r3,r4,Nat.zero_add,Nat.reduceMul,Nat.reduceAdd,b1,b2,b3,b4,b5,b6,i1,i2,i3,i4,i5,i6,Nat.reduceBEq,acf,List.set_cons_zero,List.set_cons_succ,Nat.reduceEqDiff,reduceIte,if_true,if_false,dU,eo,aP bg,aP bw,aP ao,cH,dO,LV.kill,bN];exact rfl):p:=e.mpr k
end aiN
open aiN in
theorem anW (m:M3) (R:Nat) (hR:R<=200000000) (hm:qq R m):av Tryz.prog 197 [dV m] (ae (de m.a (gI m.b m.c))):=by
 obtain⟨iI,dY,n6,mn⟩:=hm
 refine aN Tryz.func197 ?_
 refine bB ?_
 refine ak rfl (.fu rfl rfl rfl rfl (dN.au m) (adH m) ij) ?_
 refine aL ?_
 refine ak rfl (.fu rfl rfl rfl rfl (dN.au m) (adQ m) ij) ?_
 refine aL ?_
 refine ak rfl (.fu rfl rfl rfl rfl (dN.au m) (ad5 m) ij) ?_
 refine cp fJ (avR m.a m.b m.c R hR iI dY n6) ?_
 refine ax ?_
 exact fq
def trM (a b c:V3):LV:=.agg [aS a,aS b,aS c]
theorem ajv (a b c:V3):(trM a b c).pure=true:=by simp only [trM,LV.pure,aG,bg.pure,Bool.and_self]
theorem apr (m:M3) (q:V3):(dV m).put 27 (aS q)=some (dV ⟨m.a,m.b,m.c,q⟩):=by
 have hq:(aS m.t).put 0 (aS q)=some (aS q):=ptp
 simp [dV,LV.put,uE,LV.au,cF,bg.au,hq]
theorem azA (m:M3):(dV m).at 0 27 true=some (.agg [aS m.a,aS m.b,aS m.c]):=by
 simp [dV,LV.at,q8,LV.au,cF,bg.au,qL]
open vj in
theorem ay6 (a b c:V3) (R:Nat) (hR:R<=1000000000) (ha:cj R a) (hb:cj R b) (hc:cj R c):av Tryz.prog 199 [.agg [aS a,aS b,aS c]] (.agg [aS ⟨a.x,b.x,c.x⟩,aS ⟨a.y,b.y,c.y⟩,aS ⟨a.z,b.z,c.z⟩]):=by
 obtain⟨a1,a2,a3⟩:=ha
 obtain⟨y1,y2,y3⟩:=hb
 obtain⟨z1,z2,z3⟩:=hc
 have qC:rl 0=1:=rfl
 have vf:=iw a.x 0 J
 rw [Rat.add_zero] at vf
 have uZ:=iw a.y 0 J
 rw [Rat.add_zero] at uZ
 have vm:=iw a.z 0 J
 rw [Rat.add_zero] at vm
 have uO:=iw b.x 0 J
 rw [Rat.add_zero] at uO
 have u7:=iw b.y 0 J
 rw [Rat.add_zero] at u7
 have uv:=iw b.z 0 J
 rw [Rat.add_zero] at uv
 have vw:=iw c.x 0 J
 rw [Rat.add_zero] at vw
 have ux:=iw c.y 0 J
 rw [Rat.add_zero] at ux
 have vi:=iw c.z 0 J
 rw [Rat.add_zero] at vi
 refine aN Tryz.func199 (ht:=(fun g=>LV.cP g _ (ajv _ _ _))) ?_
 refine mQ ?_
 refine bF ?_
 refine az ?_
 refine bY (b:=_) rfl ai ?_
 refine mH ?_
 refine bF ?_
 refine az ?_
 refine bY (b:=_) rfl ai ?_
 refine bB ?_
 refine aY 11 an ?_
 refine bf ?_
 try refine aH ?_
 first | refine cp aq vf ?_ | refine cp aq uZ ?_ | refine cp aq vm ?_ | refine cp aq uO ?_ | refine cp aq u7 ?_ | refine cp aq uv ?_ | refine cp aq vw ?_ | refine cp aq ux ?_ | refine cp aq vi ?_
 refine bo ?_
 refine bF ?_
 refine az ?_
 refine bY (b:=_) rfl ai ?_
 refine bB ?_
 refine aY 11 an ?_
 refine bf ?_
 try refine aH ?_
 first | refine cp aq vf ?_ | refine cp aq uZ ?_ | refine cp aq vm ?_ | refine cp aq uO ?_ | refine cp aq u7 ?_ | refine cp aq uv ?_ | refine cp aq vw ?_ | refine cp aq ux ?_ | refine cp aq vi ?_
 refine bo ?_
 refine bF ?_
 refine az ?_
 refine bY (b:=_) rfl ai ?_
 refine bB ?_
 refine aY 11 an ?_
 refine bf ?_
 try refine aH ?_
 first | refine cp aq vf ?_ | refine cp aq uZ ?_ | refine cp aq vm ?_ | refine cp aq uO ?_ | refine cp aq u7 ?_ | refine cp aq uv ?_ | refine cp aq vw ?_ | refine cp aq ux ?_ | refine cp aq vi ?_
 refine bo ?_
 refine bF ?_
 refine az ?_
 refine eE (b:=_) rfl ai ?_
 refine bo ?_
 refine bF ?_
 refine az ?_
 refine bY (b:=_) rfl ai ?_
 refine mH ?_
 refine bF ?_
 refine az ?_
 refine bY (b:=_) rfl ai ?_
 refine bB ?_
 refine aY 11 an ?_
 refine bf ?_
 try refine aH ?_
 first | refine cp aq vf ?_ | refine cp aq uZ ?_ | refine cp aq vm ?_ | refine cp aq uO ?_ | refine cp aq u7 ?_ | refine cp aq uv ?_ | refine cp aq vw ?_ | refine cp aq ux ?_ | refine cp aq vi ?_
 refine bo ?_
 refine bF ?_
 refine az ?_
 refine bY (b:=_) rfl ai ?_
 refine bB ?_
 refine aY 11 an ?_
 refine bf ?_
 try refine aH ?_
 first | refine cp aq vf ?_ | refine cp aq uZ ?_ | refine cp aq vm ?_ | refine cp aq uO ?_ | refine cp aq u7 ?_ | refine cp aq uv ?_ | refine cp aq vw ?_ | refine cp aq ux ?_ | refine cp aq vi ?_
 refine bo ?_
 refine bF ?_
 refine az ?_
 refine bY (b:=_) rfl ai ?_
 refine bB ?_
 refine aY 11 an ?_
 refine bf ?_
 try refine aH ?_
 first | refine cp aq vf ?_ | refine cp aq uZ ?_ | refine cp aq vm ?_ | refine cp aq uO ?_ | refine cp aq u7 ?_ | refine cp aq uv ?_ | refine cp aq vw ?_ | refine cp aq ux ?_ | refine cp aq vi ?_
 refine bo ?_
 refine bF ?_
 refine az ?_
 refine eE (b:=_) rfl ai ?_
 refine bo ?_
 refine bF ?_
 refine az ?_
 refine bY (b:=_) rfl ai ?_
 refine mH ?_
 refine bF ?_
 refine az ?_
 refine bY (b:=_) rfl ai ?_
 refine bB ?_
 refine aY 11 an ?_
 refine bf ?_
 try refine aH ?_
 first | refine cp aq vf ?_ | refine cp aq uZ ?_ | refine cp aq vm ?_ | refine cp aq uO ?_ | refine cp aq u7 ?_ | refine cp aq uv ?_ | refine cp aq vw ?_ | refine cp aq ux ?_ | refine cp aq vi ?_
 refine bo ?_
 refine bF ?_
 refine az ?_
 refine bY (b:=_) rfl ai ?_
 refine bB ?_
 refine aY 11 an ?_
 refine bf ?_
 try refine aH ?_
 first | refine cp aq vf ?_ | refine cp aq uZ ?_ | refine cp aq vm ?_ | refine cp aq uO ?_ | refine cp aq u7 ?_ | refine cp aq uv ?_ | refine cp aq vw ?_ | refine cp aq ux ?_ | refine cp aq vi ?_
 refine bo ?_
 refine bF ?_
 refine az ?_
 refine bY (b:=_) rfl ai ?_
 refine bB ?_
 refine aY 11 an ?_
 refine bf ?_
 try refine aH ?_
 first | refine cp aq vf ?_ | refine cp aq uZ ?_ | refine cp aq vm ?_ | refine cp aq uO ?_ | refine cp aq u7 ?_ | refine cp aq uv ?_ | refine cp aq vw ?_ | refine cp aq ux ?_ | refine cp aq vi ?_
 refine bo ?_
 refine bF ?_
 refine az ?_
 refine eE (b:=_) rfl ai ?_
 refine bo ?_
 refine bF ?_
 refine az ?_
 refine eE (b:=_) rfl ai ?_
 refine bu ?_
 exact fW [] rfl rfl rfl cs (dJ cs rfl) T66 (.pure (ajv ⟨a.x,b.x,c.x⟩ ⟨a.y,b.y,c.y⟩ ⟨a.z,b.z,c.z⟩))
namespace adE
theorem aH {p q:Prop} (k:q) (e:p=q:=by simp only [e1,e2,e3,e4,p1,p2,p3,q1,q2,q3,l1,t0,t1,r1,r2,r3,r4,Nat.zero_add,Nat.reduceMul,Nat.reduceAdd,b1,b2,b3,b4,b5,b6,i1,i2,i3,i4,i5,i6,Nat.reduceBEq,acf,List.getD_cons_zero,List.getD_cons_succ,List.set_cons_zero,List.set_cons_succ,Nat.reduceEqDiff,reduceIte,if_true,if_false,dU,eo,aP bg,aP bw,aP ao,cH,dO,LV.kill,bN];exact rfl):p:=e.mpr k
end adE
open adE in
theorem azP (m:M3) (R:Nat) (hR:R<=1000000000) (hm:qq R m) (p:V3) (yd:cj R p):av Tryz.prog 200 [dV m,aS p] (aS (zW m p)):=by
 obtain⟨iI,dY,n6,mn⟩:=hm
 refine aN Tryz.func200 (ht:=(fun r=>LV.cP r _ (bg.pure _))) ?_
 refine mH ?_
 refine ak rfl (.fu (r:=.agg [aS m.a,aS m.b,aS m.c]) (n:=27) (ag:=true) rfl rfl rfl rfl (dN.au m) (azA m) T66) ?_
 refine ax ?_
 refine bF ?_
 refine az ?_
 refine bY (b:=_) rfl ai ?_
 refine im ?_
 refine cp aq (ab0 m.a p R J iI yd) ?_
 refine aZ ?_
 refine cq (aw.kill _ 7) ?_
 refine ax ?_
 refine bF ?_
 refine az ?_
 refine bY (b:=_) rfl ai ?_
 refine im ?_
 refine cp aq (ab0 m.b p R J dY yd) ?_
 refine aZ ?_
 refine cq (aw.kill _ 7) ?_
 refine ax ?_
 refine bF ?_
 refine az ?_
 refine bY (b:=_) rfl ai ?_
 refine im ?_
 refine cp aq (ab0 m.c p R J n6 yd) ?_
 refine aZ ?_
 refine cq (aw.kill _ 7) ?_
 refine ax ?_
 refine bF ?_
 refine az ?_
 refine eE (b:=_) rfl ai ?_
 refine bu ?_
 exact qo
theorem agF {P:Program} {H:bK} {ρ:Operand->LV} {T:TypeId} {o0:Operand} {a b c:V3} [z:ZI P T (.agg [.agg [aS ⟨0,0,0⟩,aS ⟨0,0,0⟩,aS ⟨0,0,0⟩],aS ⟨0,0,0⟩])] [s:SI P T [(27,true),(9,true)]] (h0:ρ o0=.agg [aS a,aS b,aS c]) :
  aB P H ρ (.build T #[(0,o0)]) (dV ⟨a,b,c,⟨0,0,0⟩⟩):=by
 have hp:LV.pure (.agg [aS a,aS b,aS c])=true:=by simp [LV.pure,aG,bg.pure]
 have:=aB.bd (H:=H) (ρ:=ρ) (ps:=#[(0,o0)]) (z:=z) (s:=s) (by simp [lay,LV.au,cF,bg.au,bg.isAgg,qL]) (by
  intro q hq
  simp only [List.mem_cons,List.not_mem_nil,or_false] at hq
  rcases hq with rfl
  exact⟨_,rfl,by rw [h0];simp [lay,bg.au,LV.au,cF,qL],by rw [h0];exact LV.eF hp,by rw [h0];exact LV.dZ hp⟩)
 simp only [iD,List.map,List.foldl,List.set,h0] at this
 exact this
def zB (m:M3):M3:=⟨qE m.a m.b m.c,p8 m.a m.b m.c,sr m.a m.b m.c,iZ (-1) (zW ⟨qE m.a m.b m.c,p8 m.a m.b m.c,sr m.a m.b m.c,⟨0,0,0⟩⟩ m.t)⟩
open adE in
theorem asN (m:M3) (R:Nat) (hR:R<=40000000) (hm:qq R m) (hv:de m.a (gI m.b m.c)≠0):av Tryz.prog 108 [dV m] (.a7 [dV (zB m),iL 0]):=by
 have fX:=hm
 obtain⟨iI,dY,n6,mn⟩:=hm
 have fx:=yV dY n6
 have eX:=yV n6 iI
 have qj:=yV iI dY
 have hV:=anW m R J fX
 have ib:rl 1=1:=rfl
 have hrv:=zV iI fx
 have hrf:rl (fT m.a m.b m.c)<=20*R+30:=by
  have:=oT 1 (de m.a (gI m.b m.c))
  unfold fT
  omega
 have hQ:av Tryz.prog 169 [ae 1,ae (de m.a (gI m.b m.c))] (.a7 [ae (fT m.a m.b m.c),iL 0]):=by
  have:=td 1 (de m.a (gI m.b m.c)) J
  rwa [if_neg hv] at this
 have r7:av Tryz.prog 107 [iL 1] (ae 1):=uk 1 ai ai
 have h1m:av Tryz.prog 107 [iL (-1)] (ae (-1)):=by
  have:=uk (-1) ai ai
  rwa [show (((-1:Int)):Rat)=-1 from by decide +kernel] at this
 have m9:∀ q:V3,cj (4*R+5) q->cj (24*R+40) (iZ (fT m.a m.b m.c) q):=fun q ⟨wg,q2',q3'⟩=>by
  have e1x:=cO (fT m.a m.b m.c) q.x
  have e2x:=cO (fT m.a m.b m.c) q.y
  have e3x:=cO (fT m.a m.b m.c) q.z
  exact⟨by show rl ((fT m.a m.b m.c)*q.x)<=_;omega,by show rl ((fT m.a m.b m.c)*q.y)<=_;omega,by show rl ((fT m.a m.b m.c)*q.z)<=_;omega⟩
 have hT:=ay6 (iZ (fT m.a m.b m.c) (gI m.b m.c)) (iZ (fT m.a m.b m.c) (gI m.c m.a)) (iZ (fT m.a m.b m.c) (gI m.a m.b)) (24*R+40) J (m9 _ fx) (m9 _ eX) (m9 _ qj)
 have auy:cj (24*R+40) (qE m.a m.b m.c):=⟨(m9 _ fx).1,(m9 _ eX).1,(m9 _ qj).1⟩
 have aBL:cj (24*R+40) (p8 m.a m.b m.c):=⟨(m9 _ fx).2.1,(m9 _ eX).2.1,(m9 _ qj).2.1⟩
 have azY:cj (24*R+40) (sr m.a m.b m.c):=⟨(m9 _ fx).2.2,(m9 _ eX).2.2,(m9 _ qj).2.2⟩
 have uR:qq (24*R+40) ⟨qE m.a m.b m.c,p8 m.a m.b m.c,sr m.a m.b m.c,⟨0,0,0⟩⟩:=⟨auy,aBL,azY,⟨by show rl 0<=_;have:rl 0=1:=rfl;omega,by show rl 0<=_;have:rl 0=1:=rfl;omega,by show rl 0<=_;have:rl 0=1:=rfl;omega⟩⟩
 have hTu:=azP ⟨qE m.a m.b m.c,p8 m.a m.b m.c,sr m.a m.b m.c,⟨0,0,0⟩⟩ (24*R+40) J uR m.t (mn.le J)
 have hbt:=akZ uR mn
 have hSc:=acV (-1) (zW ⟨qE m.a m.b m.c,p8 m.a m.b m.c,sr m.a m.b m.c,⟨0,0,0⟩⟩ m.t) (3*(24*R+40+R)+4) J (by have:rl (-1)=1:=an;omega) hbt
 refine aN Tryz.func108 (ht:=(jh (dN.pure _) rfl)) ?_
 refine bf ?_
 refine fS 8 [6] an ?_
 refine cp aK (r7) ?_
 refine ak rfl afq ?_
 refine gL rfl (.cons (.pure (dN.pure m)) .nil) hV ?_
 refine cp aq (hQ) ?_
 refine gy ?_
 refine eE (b:=_) rfl (rfl) ?_
 refine aJ ?_
 refine aY 23 an ?_
 refine aL ?_
 refine ak rfl (.fu rfl rfl rfl rfl (dN.au m) (adQ m) ij) ?_
 refine aL ?_
 refine ak rfl (.fu rfl rfl rfl rfl (dN.au m) (ad5 m) ij) ?_
 refine cp aq (aga m.b m.c R J dY n6) ?_
 refine aL ?_
 refine ak rfl (.fu rfl rfl rfl rfl (dN.au m) (ad5 m) ij) ?_
 refine aL ?_
 refine ak rfl (.fu rfl rfl rfl rfl (dN.au m) (adH m) ij) ?_
 refine cp aq (aga m.c m.a R J n6 iI) ?_
 refine aL ?_
 refine ak rfl (.fu rfl rfl rfl rfl (dN.au m) (adH m) ij) ?_
 refine aL ?_
 refine ak rfl (.fu rfl rfl rfl rfl (dN.au m) (adQ m) ij) ?_
 refine cp aq (aga m.a m.b R J iI dY) ?_
 refine ak rfl (agY rfl rfl rfl) ?_
 refine bu ?_
 refine bF ?_
 refine az ?_
 refine bY (b:=_) rfl ai ?_
 refine im ?_
 refine cp aq (acV (fT m.a m.b m.c) (gI m.b m.c) (20*R+30) J hrf (fx.le J)) ?_
 refine aZ ?_
 refine cq (aw.kill _ 8) ?_
 refine ax ?_
 refine bF ?_
 refine az ?_
 refine bY (b:=_) rfl ai ?_
 refine im ?_
 refine cp aq (acV (fT m.a m.b m.c) (gI m.c m.a) (20*R+30) J hrf (eX.le J)) ?_
 refine aZ ?_
 refine cq (aw.kill _ 8) ?_
 refine ax ?_
 refine bF ?_
 refine az ?_
 refine bY (b:=_) rfl ai ?_
 refine im ?_
 refine cp aq (acV (fT m.a m.b m.c) (gI m.a m.b) (20*R+30) J hrf (qj.le J)) ?_
 refine aZ ?_
 refine cq (aw.kill _ 8) ?_
 refine ax ?_
 refine bF ?_
 refine az ?_
 refine eE (b:=_) rfl ai ?_
 refine bf ?_
 refine gL rfl (.cons (.pure (ajv (iZ (fT m.a m.b m.c) (gI m.b m.c)) (iZ (fT m.a m.b m.c) (gI m.c m.a)) (iZ (fT m.a m.b m.c) (gI m.a m.b)))) .nil) hT ?_
 refine ak rfl (agF (a:=qE m.a m.b m.c) (b:=p8 m.a m.b m.c) (c:=sr m.a m.b m.c) rfl) ?_
 refine ar ?_
 refine bI rfl (.yQ (e:=dV) (l:=[⟨⟨0,0,0⟩,⟨0,0,0⟩,⟨0,0,0⟩,⟨0,0,0⟩⟩]) (a:=⟨qE m.a m.b m.c,p8 m.a m.b m.c,sr m.a m.b m.c,⟨0,0,0⟩⟩) rfl rfl rfl aO) ?_
 refine aJ ?_
 refine aY 7 an ?_
 refine cp aK (h1m) ?_
 refine ak rfl (.fu rfl rfl rfl rfl (dN.au (⟨qE m.a m.b m.c,p8 m.a m.b m.c,sr m.a m.b m.c,⟨0,0,0⟩⟩)) (dJ (dN.au (⟨qE m.a m.b m.c,p8 m.a m.b m.c,sr m.a m.b m.c,⟨0,0,0⟩⟩)) rfl) uM) ?_
 refine ar ?_
 refine ak rfl (.fu rfl rfl rfl rfl (dN.au m) (arC m) ij) ?_
 refine gL rfl (.cons (.pure (dN.pure _)) (.cons (.pure (bg.pure _)) .nil)) hTu ?_
 refine cp aq (hSc) ?_
 refine ar ?_
 refine bI rfl (.store (y:=dV ⟨qE m.a m.b m.c,p8 m.a m.b m.c,sr m.a m.b m.c,⟨0,0,0⟩⟩) (y':=dV (zB m)) rfl rfl rfl rfl rfl (dN.au _) (apr ⟨qE m.a m.b m.c,p8 m.a m.b m.c,sr m.a m.b m.c,⟨0,0,0⟩⟩ _) (by show bp _ _ (LV.au (aS _)) (LV.isAgg (aS _));rw [bg.au,bg.isAgg];exact ij) ⟨LV.eF (bg.pure _),LV.dZ (bg.pure _)⟩) ?_
 refine ax ?_
 refine ak rfl (.fu rfl rfl rfl rfl (dN.au (zB m)) (dJ (dN.au (zB m)) rfl) uM) ?_
 refine bI rfl (.yQ (e:=dV) (l:=[⟨⟨0,0,0⟩,⟨0,0,0⟩,⟨0,0,0⟩,⟨0,0,0⟩⟩]) (a:=zB m) rfl rfl rfl aO) ?_
 refine ax ?_
 exact sN [] rfl rfl rfl (dN.au _) (dJ (dN.au _) rfl) uM (.pure (dN.pure _)) rfl (.pure rfl)
theorem ay8 {P:Program} {H:bK} {ρ:Operand->LV} {T E:TypeId} {o2:Operand} {a:Rat} [u:UN P T (.array 3 E)] [t:TI P E 3 true] [z:ZI P T (.agg [ae 0,ae 0,ae 0])] (h0:ρ o2=ae a):aB P H ρ (.build T #[(2,o2)]) (aS ⟨0,0,a⟩):=by
 have:=aB.vg (H:=H) (ρ:=ρ) (ps:=#[(2,o2)]) (u:=u) (t:=t) (z:=z) (by simp [lay,ao.au,ao.isAgg]) (by
  intro q hq
  simp only [List.mem_cons,List.not_mem_nil,or_false] at hq
  subst hq
  exact⟨_,rfl,by rw [h0];simp [lay,ao.au,ao.isAgg],by rw [h0];exact LV.eF (ao.pure _),by rw [h0];exact LV.dZ (ao.pure _)⟩)
 simp only [iD,List.map,List.foldl,List.set,h0] at this
 exact this
theorem atY {s:Sp} (h:s.1<s.2):s.1<=iW s/\iW s<=s.2:=by
 have e:(s.1+s.2)/2*2=s.1+s.2:=Rat.div_mul_cancel ai
 unfold iW
 constructor<;>grind
open fN in
theorem yx (p:V3):av Tryz.prog 109 [aS p] (.list 9 ([p].map aS)):=by
 refine aN Tryz.func109 (ht:=(fun g=>LV.cP g _ (eB bg _ _))) ?_
 refine dj ?_
 exact mL [4] rfl rfl (eM (l:=[p]) bg rfl rfl rfl)
def jD (u v:V3):M3:=⟨vP u v,wB u v,w7,⟨0,0,0⟩⟩
section
variable {D W na:Nat} {lk:iV} {x:ez} {st:List ez} {m:Nat} {cl:List gX}
theorem abu:fh D (x :: st)=rV D x+fh D st:=by simp [fh]
theorem aiL (hk:¬D<=x.2.1):fh D (lU x :: lQ x :: st)<fh D (x :: st):=by
 have:=ake (x:=x) (s:=nW (x.1.getD (eT x) default)) (s':=oD (x.1.getD (eT x) default)) (show x.2.1<D by omega)
 rw [abu,abu,abu]
 unfold lU lQ
 omega
theorem apA:∀ st:List ez,st.length<=fh D st
 | []=>Nat.zero_le _
 | x :: st=>by
   have h1:=apA st
   have h2:=adD D x
   rw [abu,List.length_cons];omega
end
theorem atK (x:ez) (st jk:List ez):(x :: st).reverse++jk=st.reverse++(x :: jk):=by simp
theorem aA7 (x:ez) (st jk:List ez):(st.reverse.map jo++(jo x :: jk.map jo))[st.length]?=some (jo x):=by
 rw [List.getElem?_append_right aO];simp
theorem avi (l m:List ez):(l++m).map jo=l.map jo++m.map jo:=List.map_append
theorem aCH (l m:List gX):(l++m).map eY=l.map eY++m.map eY:=List.map_append
theorem avU (st:List ez) (l:List LV):(st.reverse.map jo++l).take st.length=st.reverse.map jo:=by
 rw [List.take_append_of_le_length aO,List.take_of_length_le aO]
theorem aAw {P:Program} {L:St} {blk' b0:a8} {bs:List a8} {l:List (Nat × a8)} {v:List LV} (hl:L.heap=hp l) (h0:hp l 0=some b0) (hb:blk'=⟨b0.sz,cW (pI [1]) b0.vals,b0.mt⟩) (zx:∀ c∈l.map (·.1),c≠0->c∈[1])
  (h1:hp l 1=some ⟨4,v,true⟩) (hv:aG v=true) (px:bs=[⟨4,v,true⟩]):aiz P [] L (.a7 []) blk' bs:=by
 have hdm:∀ (l:List (Nat × a8)) (c:Nat),hp l c≠none->c∈l.map (·.1):=fun l=>by
  induction l with
  | nil=>exact fun c h=>absurd rfl h
  | cons p t ih =>
   obtain⟨d,y⟩:=p
   intro c h
   by_cases e:c=d
   ·simp [e]
   ·have:Nat.beq c d=false:=by rw [<-Bool.not_eq_true,Nat.beq_eq];exact e
    simp only [hp,this,cond_false] at h
    simp only [List.map_cons,List.mem_cons]
    exact .inr (ih c h)
 refine⟨[],[1],b0,by rw [hl];exact h0,hb,.nil,by simp,by simp,by simp,fun c hc hh=>zx c (hdm l c (by rwa [hl] at hh)) hc,fun k b hk=>?_,rfl⟩
 match k,hk with
 | 0,hk =>
  simp only [List.getElem?_cons_zero,Option.some.injEq] at hk
  subst hk
  exact⟨_,by rw [hl];exact h1,by rw [px,mg _ _ hv];rfl⟩
 | k+1,hk=>simp at hk
end Go.Proofs.YtckppbhafancnaaGreat
namespace Go.Lg
theorem aw.ayp {L:St} (b:Nat) (bs:List Nat) (h0:bs.contains 0=false) {sz:Nat} {x y:LV} {mt:Bool} (hb:(L.bR bs).heap b=some ⟨sz,[x],mt⟩) (hi:cG (L.bR bs).heap x y):aw L ((L.bR bs).bG b (some ⟨sz,[y],mt⟩)):=by
 rintro n W X Z0 a w ⟨dL,bD,μ,Z,xS,hr⟩
 obtain⟨Z',hc,hz⟩:=xS.tO (pv bs h0)
 refine⟨dL,bD,μ,Z',?_,fun s=>a9.mono hz (fun _ _ h=>h) (Frame.refl Z μ w) (hr s)⟩
 have hs:∀ c,((L.bR bs).bG b (some ⟨sz,[y],mt⟩)).heap c=if c=b then some ⟨sz,[y],mt⟩ else(L.bR bs).heap c:=fun c=>rfl
 refine⟨hc.cd,hc.ke,hc.iK,hc.ki,hc.inj,hc.own,hc.x0,hc.mC,hc.x1,fun c id blk g1 g2=>?_,fun c id blk g1 g2=>?_,fun c id g1=>?_⟩
 ·rw [hs] at g2
  split at g2
  ·rename_i e;subst e;cases g2;exact hc.ir c id ⟨sz,[x],mt⟩ g1 hb
  ·exact hc.ir c id blk g1 g2
 ·rw [hs] at g2
  split at g2
  ·rename_i e;subst e;cases g2;exact hc.bR c id ⟨sz,[x],mt⟩ g1 hb
  ·exact hc.bR c id blk g1 g2
 ·obtain⟨blk,k1,k2⟩:=hc.heap c id g1
  rw [hs]
  by_cases e:c=b
  ·subst e
   rw [if_pos rfl]
   rw [hb] at k1
   cases k1
   refine⟨_,rfl,?_⟩
   obtain⟨cs,T,part,rest,e1,e2,e3⟩:=k2
   refine⟨cs,T,part,rest,e1,e2,?_⟩
   simp only [aM] at e3 ⊢
   obtain⟨c1,c2,q1,q2,q3,q4⟩:=e3
   exact⟨c1,c2,q1,q2,cG.sound (bc:=μ) hc hi q3,q4⟩
  ·rw [if_neg e];exact⟨blk,k1,k2⟩
end Go.Lg
namespace Go.Proofs.YtckppbhafancnaaGreat
open Go.Lg
theorem wU {P:Program} {ρ:Operand->LV} {T E:TypeId} {x:Operand} {d sz:Nat} {ag:Bool} {z v:LV} (hT:P.underlying T=some (.slice E)) (hz:cU P E z) (hzc:z.au=sz) (uU:z.isAgg=ag) (hE:bp P E sz ag)
  (hx:ρ x=v) (hvc:v.au=sz) (hva:v.isAgg=ag) (hvp:v.pure=true) (hs:0<sz) (fw:sz<=1000):c9 P ρ d (.buildSlice T 1 #[(0,x)]) (.ref d sz 0 1) ⟨sz,[v],true⟩:=by
 have:=c9.lit (P:=P) (ρ:=ρ) (d:=d) (T:=T) (n:=1) (ps:=#[(0,x)]) hT hz (by rw [uU];exact hE) hzc J J J (by
  intro p hp
  simp only [List.mem_singleton] at hp
  subst hp
  refine⟨by simp,?_,by rw [hx];exact LV.eF hvp,by rw [hx];exact LV.dZ hvp⟩
  simp [lay,hx,hvc,hva,hzc,uU])
 simpa [iD,hx,List.replicate] using this
theorem axP {P:Program} {ρ:Operand->LV} {T E:TypeId} {x:Operand} {d sz:Nat} {ag:Bool} {z v:LV} (hT:P.underlying T=some (.slice E)) (hz:cU P E z) (hzc:z.au=sz) (uU:z.isAgg=ag) (hE:bp P E sz ag)
  (hx:ρ x=v) (hvc:v.au=sz) (hva:v.isAgg=ag) (h1:v≠.any) (h2:∀ l,v≠.a7 l) (hs:0<sz) (fw:sz<=1000):c9 P ρ d (.buildSlice T 1 #[(0,x)]) (.ref d sz 0 1) ⟨sz,[v],true⟩:=by
 have:=c9.lit (P:=P) (ρ:=ρ) (d:=d) (T:=T) (n:=1) (ps:=#[(0,x)]) hT hz (by rw [uU];exact hE) hzc J J J (by
  intro p hp
  simp only [List.mem_singleton] at hp
  subst hp
  refine⟨by simp,?_,by rw [hx];exact h1,by rw [hx];exact h2⟩
  simp [lay,hx,hvc,hva,hzc,uU])
 simpa [iD,hx,List.replicate] using this
def cS (q:aF):Q4:=⟨q.w*q.p.x,q.w*q.p.y,q.w*q.p.z,q.w⟩
theorem avj (d:Nat) (a b t:Rat):fk (bl d a b) t (bl d a b).length=(if a=t then d+1 else 0)+(if b=t then d+1 else 0):=by
 have h:=aei (List.replicate (d+1) a) (List.replicate (d+1) b) t (d+1)
 rw [List.length_replicate] at h
 have e:(bl d a b).length=d+1+(d+1):=by rw [jT];omega
 rw [e]
 show fk (List.replicate (d+1) a++_) t _=_
 rw [h,ab4 _ _ _ _ (Nat.le_refl _),ab4 _ _ _ _ (Nat.le_refl _)]
theorem aBV {d:Nat} {a b:Rat} (h1:1<=d) (h6:d<=6) (cu:a<b) (hT:rl a<=64) (hT1:rl b<=64):yr (bl d a b) d:=by
 have hl:=jT d a b
 have aQ:a≠b:=by grind
 have e0:(bl d a b).getD 0 0=a:=by rw [fV _ _ _ _ J,if_pos J]
 have e1:(bl d a b).getD ((bl d a b).length-1) 0=b:=by rw [hl,fV _ _ _ _ J,if_neg J]
 have hm:∀ x∈bl d a b,x=a\/x=b:=fun x hx=>by
  rcases List.mem_append.1 hx with h | h
  ·exact .inl (List.mem_replicate.1 h).2
  ·exact .inr (List.mem_replicate.1 h).2
 refine⟨h1,h6,J,J,fun i hi=>?_,by rw [e0,e1];exact aQ,fun t ht he=>?_,fun t ht g0 g1=>?_,fun x hx=>?_⟩
 ·rw [fV _ _ _ _ J,fV _ _ _ _ J]
  split<;>split
  ·exact Rat.le_refl
  ·grind
  ·omega
  ·exact Rat.le_refl
 ·rw [avj]
  rcases hm t ht with rfl | rfl
  ·rw [if_pos rfl,if_neg (fun e=>aQ e.symm)]
  ·rw [if_neg aQ,if_pos rfl,Nat.zero_add]
 ·rw [e0] at g0;rw [e1] at g1
  rcases hm t ht with h | h
  ·exact absurd h g0
  ·exact absurd h g1
 ·rcases hm x hx with rfl | rfl<;>assumption
theorem aoQ {d:Nat} {a b:Rat}:∀ i,i+1<=d+1->cT (bl d a b) (i+1)=[a]
 | 0,_=>by rw [cT,if_pos (.inl rfl),xZ];rfl
 | i+1,h=>by
  rw [abx J (by rw [fV _ _ _ _ J,fV _ _ _ _ J,if_pos J,if_pos J]),aoQ i J]
theorem anZ {d:Nat} {a b:Rat} (cu:a<b):∀ i,i+1<=d+1->cT (bl d a b) (d+1+(i+1))=[a,b]
 | 0,_=>by
  rw [<-Nat.add_assoc,aeH J (by rw [fV _ _ _ _ J,fV _ _ _ _ J,if_neg J,if_pos J];grind),Nat.add_zero,aoQ d J,fV _ _ _ _ J,if_neg J];rfl
 | i+1,h=>by
  rw [<-Nat.add_assoc,abx J (by rw [fV _ _ _ _ J,fV _ _ _ _ J,if_neg J,if_neg J]),anZ cu i J]
theorem axc {d:Nat} {a b:Rat} (cu:a<b):cT (bl d a b) (bl d a b).length=[a,b]:=by
 have:=anZ (d:=d) cu d (Nat.le_refl _)
 rwa [show d+1+(d+1)=(bl d a b).length by rw [jT];omega] at this
namespace ap6
theorem aH {p q:Prop} (k:q) (e:p=q:=by simp only [e1,e2,e3,e4,p1,p2,p3,q1,q2,q3,l1,t0,t1,r1,r2,r3,r4,Nat.zero_add,Nat.reduceMul,Nat.reduceAdd,b1,b2,b3,b4,b5,b6,i1,i2,i3,i4,i5,i6,Nat.reduceBEq,hl,List.length_map,List.set_cons_zero,List.set_cons_succ,Nat.reduceEqDiff,reduceIte,if_true,if_false,dU,eo,aP bg,aP bw,aP ao,cH,dO,LV.kill,bN];exact rfl):p:=e.mpr k
end ap6
open ap6 in
theorem apD (d:Nat) (k:List Rat) (po:List aF) (hk:yr k d) (hl:po.length=k.length-d-1):av Tryz.prog 82 [.agg [ah d,.list 3 (k.map ae),.list 12 (po.map aT)]] (bL true):=by
 have fG:LV.pure (.agg [ah d,.list 3 (k.map ae),.list 12 (po.map aT)])=true:=by simp [LV.pure,aG,aW ao,aW bw]
 have h9:=hk.d6
 have hm:=hk.max
 have hn:=hk.len
 have hKp:av Tryz.prog 152 [.list 3 (k.map ae),ah d] (ah (k.length-d-1)):=ahs k d J J
 refine aN Tryz.func82 ?_
 refine aR ?_
 refine aY 18 an ?_
 refine ax ?_
 refine cp aq (azZ k d hk) ?_
 refine aL ?_
 refine ak (a6 (v:=true) rfl rfl ((rfl)) rfl) lZ ?_
 refine ak (a6 (v:=true) rfl rfl ((rfl)) rfl) il ?_
 refine ak (a6 (v:=true) rfl rfl ((rfl)) rfl) vc ?_
 refine ak (a6 (v:=true) rfl rfl ((rfl)) rfl) lZ ?_
 refine ak (a6 (v:=true) rfl rfl ((rfl)) rfl) il ?_
 refine ak (a6 (v:=true) rfl rfl ((rfl)) rfl) lZ ?_
 refine ak (a6 (v:=true) rfl rfl ((rfl)) rfl) il ?_
 refine gL (a6 (v:=true) rfl rfl ((rfl)) rfl) (.cons eJ (.cons eJ .nil)) (hKp) ?_
 refine ak (a6 (v:=true) rfl rfl ((rfl)) rfl) (.bin rfl rfl rfl) ?_
 refine ak rfl (.mM rfl ((rfl))) ?_
 refine ax ?_
 exact dB (x:=bL true) (by refine Eq.trans (b:=LV.v (Value.bool (((k.length-d-1:Nat):Int)==((k.length-d-1:Nat):Int)))) rfl ?_;rw [beq_self_eq_true]) (.pure rfl)
namespace amu
theorem aH {p q:Prop} (k:q) (e:p=q:=by simp only [e1,e2,e3,e4,p1,p2,p3,q1,q2,q3,l1,t0,t1,r1,r2,r3,r4,Nat.zero_add,Nat.reduceMul,Nat.reduceAdd,b1,b2,b3,b4,b5,b6,i1,i2,i3,i4,i5,i6,Nat.reduceBEq,fB,gr,List.length_map,kW,kJ,iA,List.length_cons,List.length_nil,List.nil_append,List.map_nil,List.take_nil,List.append_nil,List.set_cons_zero,List.set_cons_succ,Nat.reduceEqDiff,reduceIte,if_true,if_false,dU,eo,aP bg,aP bw,aP ao,cH,dO,LV.kill,bN,abg,aP jv];exact rfl):p:=e.mpr k
end amu
open amu in
theorem ak6 (d:Nat) (k:List Rat) (po:List aF) (R:Nat) (eN:1<=R) (hR:R<=1000) (hd:d<=100) (fY:k.length<=200) (jb:∀ x∈k,rl x<=1000) (fv:po.length<=200) (wJ:∀ q∈po,oF R q):av Tryz.prog 83 [.agg [ah d,.list 3 (k.map ae),.list 12 (po.map aT)]] (.agg [ah d,.list 3 (k.map ae),.list 12 ((po.map cS).map cX)]):=by
 have fG:LV.pure (.agg [ah d,.list 3 (k.map ae),.list 12 (po.map aT)])=true:=by simp [LV.pure,aG,aW ao,aW bw]
 have hsq:LV.pure (.agg [ah d,.list 3 (k.map ae),.list 12 ((po.map cS).map cX)])=true:=by simp [LV.pure,aG,aW ao,aW jv,-List.map_map]
 refine aN Tryz.func83 (ht:=(fun g=>LV.cP g _ (by simp [LV.pure,aG,aW ao,aW jv,-List.map_map]))) ?_
 have fB:True:=trivial
 have gr:True:=trivial
 refine aiA ?_
 refine ju ((aw.cell 3 rfl (fun Z μ w cs h=>ab8 23 12 _ _ Z μ w cs h)).trans (aw.tH _ 23 12 rfl)) ?_
 refine dG (fun(j:Nat) L=>(((((((St.mk L.slot (hp [(1,⟨3,[.agg [ah d,.list 3 (k.map ae),.list 12 (po.map aT)]],true⟩),(2,⟨3,[.agg [.v (.int .i64 0),.v (.slice none 0 0),.v (.slice none 0 0)]],true⟩),(3,⟨3,[.agg [ah d,.list 3 (k.map ae),.ref 23 12 0 j]],true⟩),(23,⟨12,((po.map cS).take j).map cX,true⟩)])).put (some 1) (.aA 1 3 0 0)).put (some 2) (.aA 2 3 0 0)).put (some 3) (.aA 3 3 0 0)).put (some 12) (.list 12 (po.map aT))).put (some 13) (ah po.length)).put (some 14) (ah j))) (fun j=>j<=po.length) (fun j=>po.length-j) 0 (Nat.zero_le _) ?_
 rintro j L1 hj
 refine az ?_
 refine aC rfl ?_ ?_<;>intro nH lJ
 ·have g7:j<po.length:=by omega
  have hO:av Tryz.prog 153 [aT (po.getD j default)] (cX (cS (po.getD j default))):=amN (po.getD j default) R J (wJ _ (qM g7))
  have gr:(po.map cS).take j++[cS (po.getD j default)]=(po.map cS).take (j+1):=zF cS po g7
  have fB:(((po.map cS).take j).map cX).take j=((po.map cS).take j).map cX:=List.take_of_length_le bm
  refine bu ?_
  refine aY 5 an ?_
  refine aJ ?_
  refine cp aK (hO) ?_
  refine ar ?_
  refine bI rfl (.ga (d:=23) (news:=[cX (cS (po.getD j default))]) rfl rfl rfl rfl bm (.inl rfl) ai Tryz.underlying137 Tryz.underlying137 aew (by first | exact yJ | (rw [jv.isAgg];exact yJ)) cs aoc (.inl ⟨22,0,_,rfl,by decide,rfl,rfl,by simp,rfl,by simp [aG,jv.pure]⟩) bm bm ai) ?_
  refine aZ ?_
  refine cq ((aw.kill _ 5).trans (aw.kill _ 22)) ?_
  refine ak rfl cB ?_
  refine aJ ?_
  exact vF
 ·obtain rfl:j=po.length:=by omega
  have hE:(po.map cS).take po.length=(po.map cS):=List.take_of_length_le aO
  simp only [hE]
  refine bu ?_
  exact fW [23] rfl rfl rfl cs (dJ cs rfl) afg (.agg (.cons (.pure rfl) (.cons (.pure (aW ao _)) (.cons (eM jv rfl rfl aO) .nil))))
namespace akJ
theorem aH {p q:Prop} (k:q) (e:p=q:=by simp only [e1,e2,e3,e4,p1,p2,p3,q1,q2,q3,l1,t0,t1,r1,r2,r3,r4,Nat.zero_add,Nat.reduceMul,Nat.reduceAdd,b1,b2,b3,b4,b5,b6,i1,i2,i3,i4,i5,i6,Nat.reduceBEq,fB,gr,egq,List.length_map,kW,kJ,iA,List.length_cons,List.length_nil,List.nil_append,List.map_nil,List.take_nil,List.append_nil,List.set_cons_zero,List.set_cons_succ,Nat.reduceEqDiff,reduceIte,if_true,if_false,dU,eo,aP bg,aP bw,aP ao,cH,dO,LV.kill,bN,abg,aP jv];exact rfl):p:=e.mpr k
end akJ
open akJ in
theorem aiB (d:Nat) (k:List Rat) (C:List Q4) (R4:Nat) (hR4:R4<=1000000000) (hd:d<=100) (fY:k.length<=200) (jb:∀ x∈k,rl x<=1000) (hCl:C.length<=200) (hCb:∀ q∈C,n5 R4 q/\0<q.w):av Tryz.prog 85 [.agg [ah d,.list 3 (k.map ae),.list 12 (C.map cX)]] (.agg [ah d,.list 3 (k.map ae),.list 12 ((C.map dX).map aT)]):=by
 have hsq:LV.pure (.agg [ah d,.list 3 (k.map ae),.list 12 (C.map cX)])=true:=by simp [LV.pure,aG,aW ao,aW jv]
 have hCo:=aAm k J (fun x hx=>Nat.le_trans (jb x hx) ai)
 refine aN Tryz.func85 (ht:=(fun g=>LV.cP g _ agc)) ?_
 have fB:True:=trivial
 have gr:True:=trivial
 have egq:True:=trivial
 refine aR ?_
 refine aY 7 an ?_
 refine ax ?_
 refine cp aK (hCo) ?_
 refine gy ?_
 refine ju ((aw.cell 3 rfl (fun Z μ w cs h=>ab8 24 12 _ _ Z μ w cs h)).trans (aw.tH _ 24 12 rfl)) ?_
 refine dG (fun(j:Nat) L=>(((((((St.mk L.slot (hp [(1,⟨3,[.agg [ah d,.list 3 (k.map ae),.list 12 (C.map cX)]],true⟩),(2,⟨3,[.agg [.v (.int .i64 0),.v (.slice none 0 0),.v (.slice none 0 0)]],true⟩),(3,⟨3,[.agg [ah d,.list 3 (k.map ae),.ref 24 12 0 j]],true⟩),(24,⟨12,((C.map dX).take j).map aT,true⟩)])).put (some 1) (.aA 1 3 0 0)).put (some 2) (.aA 2 3 0 0)).put (some 3) (.aA 3 3 0 0)).put (some 13) (.list 12 (C.map cX))).put (some 14) (ah C.length)).put (some 15) (ah j))) (fun j=>j<=C.length) (fun j=>C.length-j) 0 (Nat.zero_le _) ?_
 rintro j L1 hj
 refine az ?_
 refine aC rfl ?_ ?_<;>intro yH uA
 ·have g7:j<C.length:=by omega
  have hq:=hCb _ (azd (C:=C) g7)
  have hFP:av Tryz.prog 96 [cX (C.getD j default)] (aT (dX (C.getD j default))):=aos _ _ _ _ R4 hR4 hq.1.1 hq.1.2.1 hq.1.2.2.1 hq.1.2.2.2 hq.2
  have gr:(C.map dX).take j++[dX (C.getD j default)]=(C.map dX).take (j+1):=by rw [List.take_add_one,List.getElem?_map,List.getElem?_eq_getElem g7,List.getD_eq_getElem?_getD,List.getElem?_eq_getElem g7];rfl
  have fB:(((C.map dX).take j).map aT).take j=((C.map dX).take j).map aT:=List.take_of_length_le bm
  refine bu ?_
  refine aY 5 an ?_
  refine aJ ?_
  refine gL rfl (.cons (.pure (jv.pure _)) .nil) hFP ?_
  refine ar ?_
  refine bI rfl (.ga (d:=24) (news:=[aT (dX (C.getD j default))]) rfl rfl rfl rfl bm (.inl rfl) ai Tryz.underlying26 Tryz.underlying26 zq (by first | exact rT | (rw [bw.isAgg];exact rT)) cs B42 (.inl ⟨23,0,_,rfl,by decide,rfl,rfl,by simp,rfl,by simp [aG,bw.pure]⟩) bm bm ai) ?_
  refine aZ ?_
  refine cq ((aw.kill _ 5).trans (aw.kill _ 23)) ?_
  refine ak rfl cB ?_
  refine aJ ?_
  exact vF
 ·obtain rfl:j=C.length:=by omega
  have hE:(C.map dX).take C.length=(C.map dX):=List.take_of_length_le aO
  simp only [hE]
  refine bu ?_
  exact fW [24] rfl rfl rfl cs (dJ cs rfl) jI (.agg (.cons (.pure rfl) (.cons (.pure (aW ao _)) (.cons (eM bw rfl rfl aO) .nil))))
abbrev cI:=Nat × List Rat × List aF
def dv (c:cI):LV:=.agg [ah c.1,.list 3 (c.2.1.map ae),.list 12 (c.2.2.map aT)]
theorem fL:gE dv 3 true:=⟨fun c=>rfl,fun _=>rfl,fun c=>by simp [dv,LV.pure,aG,aW ao,aW bw]⟩
theorem am4 (b:Nat) (c:cI):(dv c).kill b=dv c:=LV.kt b _ (fL.pure c)
section
attribute [local irreducible] dv
namespace alx
theorem aH {p q:Prop} (k:q) (e:p=q:=by simp only [e1,e2,e3,e4,p1,p2,p3,q1,q2,q3,l1,t0,t1,r1,r2,r3,r4,Nat.zero_add,Nat.reduceMul,Nat.reduceAdd,b1,b2,b3,b4,b5,b6,i1,i2,i3,i4,i5,i6,Nat.reduceBEq,hds,kX,egd,cy,gr,fB,List.length_map,List.length_drop,List.length_range,kW,kJ,iA,List.length_cons,List.length_nil,List.nil_append,List.map_nil,List.take_nil,List.append_nil,List.set_cons_zero,List.set_cons_succ,Nat.reduceEqDiff,reduceIte,if_true,if_false,dU,eo,aP bg,aP bw,aP ao,cH,dO,LV.kill,bN,abg,aP jv,am4,aP fL];exact rfl):p:=e.mpr k
end alx
open alx in
theorem arh (d:Nat) (k D:List Rat) (po:List aF) (QC:Nat->List Q4) (n:Nat) (hn:D.length=n+1) (yK:n<=100) (ku:0<k.length) (fY:k.length<=200) (jb:∀ x∈k,rl x<=64) (hds:cT k k.length=D) (hSo:av Tryz.prog 82 [.agg [ah d,.list 3 (k.map ae),.list 12 (po.map aT)]] (bL true)) (hOf:av Tryz.prog 83 [.agg [ah d,.list 3 (k.map ae),.list 12 (po.map aT)]] (.agg [ah d,.list 3 (k.map ae),.list 12 ((po.map cS).map cX)])) (hCu:∀ i,i<n->av Tryz.prog 86 [.agg [ah d,.list 3 (k.map ae),.list 12 ((po.map cS).map cX)],ae (D.getD i 0),ae (D.getD (i+1) 0)] (.agg [ah d,.list 3 ((bl d (D.getD i 0) (D.getD (i+1) 0)).map ae),.list 12 ((QC i).map cX)])) (hBk:∀ i,i<n->av Tryz.prog 85 [.agg [ah d,.list 3 ((bl d (D.getD i 0) (D.getD (i+1) 0)).map ae),.list 12 ((QC i).map cX)]] (dv ((d,bl d (D.getD i 0) (D.getD (i+1) 0),(QC i).map dX):cI))):av Tryz.prog 39 [.agg [ah d,.list 3 (k.map ae),.list 12 (po.map aT)]] (.list 3 (((List.range n).map fun i=>((d,bl d (D.getD i 0) (D.getD (i+1) 0),(QC i).map dX):cI)).map dv)):=by
 have fG:LV.pure (.agg [ah d,.list 3 (k.map ae),.list 12 (po.map aT)])=true:=by simp [LV.pure,aG,aW ao,aW bw]
 have hsq:LV.pure (.agg [ah d,.list 3 (k.map ae),.list 12 ((po.map cS).map cX)])=true:=by simp [LV.pure,aG,aW ao,aW jv,-List.map_map]
 have hDa:=aqR k ku J (fun x hx=>Nat.le_trans (jb x hx) ai)
 have kX:D.length-1=n:=by omega
 refine aN Tryz.func39 (ht:=(fun g=>LV.cP g _ (eB fL 3 _))) ?_
 have egd:True:=trivial
 have gr:True:=trivial
 have fB:True:=trivial
 refine bB ?_
 refine cp aK (hSo) ?_
 refine aJ ?_
 refine eE (b:=_) rfl (rfl) ?_
 refine bB ?_
 refine cp aK (hOf) ?_
 refine bf ?_
 refine cp aK (hDa) ?_
 refine aR ?_
 refine ak rfl (.z5 (a:=1) ao rfl Tryz.underlying25 cJ rfl om) ?_
 refine aZ ?_
 refine ju (aw.own (t:=3) 34 3 rfl rfl) ?_
 refine dG (fun(i:Nat) L=>((((((((St.mk L.slot (hp [(1,⟨3,[.agg [ah d,.list 3 (k.map ae),.list 12 (po.map aT)]],true⟩),(4,⟨3,[.agg [ah d,.list 3 (k.map ae),.list 12 ((po.map cS).map cX)]],true⟩),(34,⟨3,((List.range i).map fun i=>((d,bl d (D.getD i 0) (D.getD (i+1) 0),(QC i).map dX):cI)).map dv,true⟩)])).put (some 1) (.aA 1 3 0 0)).put (some 3) (.ref 34 3 0 i)).put (some 4) (.aA 4 3 0 0)).put (some 5) (.list 3 (D.map ae))).put (some 17) (.list 3 ((D.drop 1).map ae))).put (some 18) (ah n)).put (some 19) (ah i))) (fun i=>i<=n) (fun i=>n-i) 0 (Nat.zero_le _) ?_
 rintro i L1 hi
 refine az ?_
 refine aC rfl ?_ ?_<;>intro yZ y8
 ·have dA:i<n:=by omega
  have egd:(D.drop 1).getD i 0=D.getD (i+1) 0:=by rw [List.getD_eq_getElem?_getD,List.getElem?_drop,List.getD_eq_getElem?_getD,Nat.add_comm 1 i]
  have au7:LV.pure (.agg [ah d,.list 3 ((bl d (D.getD i 0) (D.getD (i+1) 0)).map ae),.list 12 ((QC i).map cX)])=true:=by simp [LV.pure,aG,aW ao,aW jv]
  have hcu:=hCu i dA
  have jN:=hBk i dA
  have hpc:LV.pure (dv ((d,bl d (D.getD i 0) (D.getD (i+1) 0),(QC i).map dX):cI))=true:=fL.pure _
  have axh:aG [dv ((d,bl d (D.getD i 0) (D.getD (i+1) 0),(QC i).map dX):cI)]=true:=by simp only [aG,hpc,Bool.and_self]
  have gr:((List.range i).map fun i=>((d,bl d (D.getD i 0) (D.getD (i+1) 0),(QC i).map dX):cI))++[((d,bl d (D.getD i 0) (D.getD (i+1) 0),(QC i).map dX):cI)]=((List.range (i+1)).map fun i=>((d,bl d (D.getD i 0) (D.getD (i+1) 0),(QC i).map dX):cI)):=ark (fun i=>((d,bl d (D.getD i 0) (D.getD (i+1) 0),(QC i).map dX):cI)) i
  have fB:(((List.range i).map fun i=>((d,bl d (D.getD i 0) (D.getD (i+1) 0),(QC i).map dX):cI)).map dv).take i=((List.range i).map fun i=>((d,bl d (D.getD i 0) (D.getD (i+1) 0),(QC i).map dX):cI)).map dv:=List.take_of_length_le aO
  refine aR ?_
  refine ak rfl (by first | exact .ajw ao rfl Tryz.underlying25 cJ rfl (by first | omega | (simp only [List.length_drop];omega)) (by first | omega | (simp only [List.length_drop];omega)) | exact .tB rfl Tryz.underlying25 cJ rfl (by first | omega | (simp only [List.length_drop];omega)) (by first | omega | (simp only [List.length_drop];omega))) ?_
  refine az ?_
  refine aY 10 an ?_
  refine ax ?_
  refine ak rfl (by first | exact .ajw ao rfl Tryz.underlying25 cJ rfl J J | exact .tB rfl Tryz.underlying25 cJ rfl J J) ?_
  refine ak rfl (by first | exact .afD ao rfl cJ | exact .alZ ao rfl rfl cJ J | exact .fu rfl rfl rfl rfl rfl rfl cJ) ?_
  refine ar ?_
  refine aH ?_
  refine cp fJ (hcu) ?_
  refine gL rfl (.cons (.pure au7) .nil) jN ?_
  try refine aH ?_
  refine eI rfl rfl (wU (z:=.agg [.v (.int .i64 0),.v (.slice none 0 0),.v (.slice none 0 0)]) (v:=dv ((d,bl d (D.getD i 0) (D.getD (i+1) 0),(QC i).map dX):cI)) Tryz.underlying88 Z28 rfl rfl jI rfl (fL.au _) (fL.isAgg _) hpc ai ai) ?_
  refine bI rfl (.ga (d:=34) (sz:=3) (news:=[dv ((d,bl d (D.getD i 0) (D.getD (i+1) 0),(QC i).map dX):cI)]) (z:=.agg [.v (.int .i64 0),.v (.slice none 0 0),.v (.slice none 0 0)]) rfl rfl rfl rfl aO (.inl rfl) ai Tryz.underlying88 Tryz.underlying88 Z28 jI rfl B28 (.inl ⟨33,0,_,rfl,by decide,rfl,rfl,by simp,rfl,axh⟩) bm bm ai) ?_
  refine ax ?_
  refine cq ((aw.kill _ 7).trans (aw.kill _ 33)) ?_
  refine ak rfl cB ?_
  refine aJ ?_
  exact jS
 ·obtain rfl:n=i:=by omega
  refine bu ?_
  exact mL [34] rfl rfl (eM (l:=((List.range n).map fun i=>((d,bl d (D.getD i 0) (D.getD (i+1) 0),(QC i).map dX):cI))) fL rfl rfl aO)
end
open aiD in
theorem aoj (l:List (Rat × Rat)) (wd:Rat) (hl:l.length<=1000) (hb:∀ s∈l,cZ 1000000 s) (hwd:rl wd<=1000000):av Tryz.prog 88 [.list 6 (l.map aD),ae wd] (bL (yE l wd)):=by
 refine aN Tryz.func88 ?_
 refine gy ?_
 refine dG (fun(i:Nat) L=>(((((St.mk L.slot (hp [(3,⟨3,[ae wd],true⟩)])).put (some 3) (.aA 3 3 0 0)).put (some 7) (.list 6 (l.map aD))).put (some 8) (ah l.length)).put (some 9) (ah i))) (fun i=>i<=l.length/\∀ j,j<i->¬wd<(l.getD j default).2-(l.getD j default).1) (fun i=>l.length-i) 0 ⟨Nat.zero_le _,fun j h=>absurd h (Nat.not_lt_zero _)⟩ ?_
 rintro i L1 ⟨hi,lG⟩
 refine az ?_
 refine aC rfl ?_ ?_<;>intro l8 rC
 ·have dA:i<l.length:=by omega
  obtain⟨jm,vK⟩:=hb _ (ah2 dA)
  have hw:=iq (l.getD i default).2 (l.getD i default).1
  refine dp ?_
  refine aY 5 an ?_
  refine ar ?_
  refine cp aK (agR (l.getD i default) J) ?_
  refine ar ?_
  refine cp aq (lL ((l.getD i default).2-(l.getD i default).1) wd J) ?_
  refine aJ ?_
  refine aC rfl ?_ ?_<;>intro abb yU
  ·have hR:yE l wd=true:=by
    unfold yE
    rw [List.any_eq_true]
    exact⟨_,ah2 dA,decide_eq_true (ry.1 yU)⟩
   refine bo ?_
   rw [hR]
   exact mF
  ·have aur:∀ j,j<i+1->¬wd<(l.getD j default).2-(l.getD j default).1:=fun j hj=>by
    rcases Nat.lt_succ_iff_lt_or_eq.1 hj with g | rfl
    ·exact lG j g
    ·exact fun e=>by have:=ry.2 e;omega
   refine aJ ?_
   refine cq (aw.kill _ 6) ?_
   refine ak rfl cB ?_
   refine aJ ?_
   exact iJ (i+1) ⟨J,aur⟩
 ·obtain rfl:l.length=i:=by omega
  have hR:yE l wd=false:=by
   unfold yE
   rw [List.any_eq_false]
   intro s hs
   obtain⟨j,hj,rfl⟩:=List.getElem_of_mem hs
   have:=lG j hj
   rw [List.getD_eq_getElem?_getD,List.getElem?_eq_getElem hj] at this
   simpa using this
  refine bo ?_
  rw [hR]
  exact mF
section
variable {D W na:Nat} {wd:Rat} {lk:iV} {x:ez} {st:List ez} {m:Nat} {cl:List gX}
theorem aus (h:W<=m):lR D W na wd lk (x :: st,m,cl)=(st,m,cl++[mr na x (false,0,0)]):=by rw [lR,if_pos h]
theorem aCx (h:¬W<=m) (hd:(lk (x.1.take na) (x.1.drop na)).1=true):lR D W na wd lk (x :: st,m,cl)=(st,m+1,cl):=by rw [lR,if_neg h,if_pos hd]
theorem aak (h:¬W<=m) (hd:(lk (x.1.take na) (x.1.drop na)).1=false) (hk:nJ D wd x (lk (x.1.take na) (x.1.drop na))=true) :
  lR D W na wd lk (x :: st,m,cl)=(st,m+1,cl++[mr na x (lk (x.1.take na) (x.1.drop na))]):=by
 rw [lR,if_neg h,if_neg (by rw [hd];decide),if_pos hk]
theorem ais (h:¬W<=m) (hd:(lk (x.1.take na) (x.1.drop na)).1=false) (hk:nJ D wd x (lk (x.1.take na) (x.1.drop na))=false) :
  lR D W na wd lk (x :: st,m,cl)=(lU x :: lQ x :: st,m+1,cl):=by
 rw [lR,if_neg h,if_neg (by rw [hd];decide),if_neg (by rw [hk];decide)]
theorem auX {v:Bool × Nat × Nat} (hk:k6 v=3\/k6 v=4) (hw:cM wd=0):nJ D wd x v=true:=by
 unfold nJ;rw [decide_eq_true hk,decide_eq_true (ah1 hw)];rfl
theorem aCX {v:Bool × Nat × Nat} (hk:k6 v=3\/k6 v=4) (hw:yE x.1 wd=false):nJ D wd x v=true:=by
 unfold nJ;rw [decide_eq_true hk,hw];simp
theorem agp {v:Bool × Nat × Nat} (hk:D<=x.2.1):nJ D wd x v=true:=by
 unfold nJ;rw [decide_eq_true hk,Bool.or_true]
theorem ajt {v:Bool × Nat × Nat} (hk:¬(k6 v=3\/k6 v=4)) (hd:¬D<=x.2.1):nJ D wd x v=false:=by
 unfold nJ;rw [decide_eq_false hk,decide_eq_false hd];rfl
theorem agC {v:Bool × Nat × Nat} (h0:¬cM wd=0) (hw:yE x.1 wd=true) (hd:¬D<=x.2.1):nJ D wd x v=false:=by
 unfold nJ;rw [decide_eq_false (show ¬wd=0 from fun e=>h0 (by rw [e];rfl)),hw,decide_eq_false hd];simp
end
namespace akV
theorem aH {p q:Prop} (k:q) (e:p=q:=by simp only [e1,e2,e3,e4,p1,p2,p3,q1,q2,q3,l1,t0,t1,r1,r2,r3,r4,Nat.zero_add,Nat.reduceMul,Nat.reduceAdd,b1,b2,b3,b4,b5,b6,i1,i2,i3,i4,i5,i6,Nat.reduceBEq,afG,aCH,htz,List.drop_zero,avi,avU,List.map_cons,List.reverse_cons,List.reverse_nil,List.append_assoc,List.singleton_append,eY,mr,adC,amw,ekv,ekK,fB,edk,esc,tF,apj,htA,hrp,jo,vdL,hAl,fy0,fyc,aP bS,aP m8,aP aaI,aP aa8,List.length_map,List.length_append,List.length_replicate,hAB,kW,kJ,iA,List.length_cons,List.length_nil,List.nil_append,List.map_nil,List.take_nil,List.append_nil,List.set_cons_zero,List.set_cons_succ,Nat.reduceEqDiff,reduceIte,if_true,if_false,dU,eo,aP bg,aP bw,aP ao,cH,dO,LV.kill,bN];exact rfl):p:=e.mpr k
end akV
open akV in
theorem atA (f na n D W:Nat) (cap:List LV) (lk:iV) (I:ez->Prop) (hL:adi Tryz.prog f cap D na n lk I) (fG:aG cap=true) (hcs:∀ x∈cap,x.au=1/\x.isAgg=false) (A B:List Sp) (hna:A.length=na) (hA0:0<A.length) (hB0:0<B.length) (hn:A.length+B.length=n) (yK:n<=10) (yF:I (A++B,0,List.replicate n 0)) (wd:Rat) (hwd:rl wd<=100) (n0:Nat) (cz:List gX) (hD9:D<=24) (hW9:W<=4096) (gU:n0<=4096) (aEe:cz.length<=100000000):yM Tryz.prog 40 ⟨7,[.agg [.agg [ah D,ah W,ae wd],.ref 1 4 0 cz.length,ah n0]],true⟩ ⟨4,cz.map eY,true⟩ [.aA 0 7 0 0,.list 6 (A.map aD),.list 6 (B.map aD),.cV f cap] (.a7 []) ⟨7,[.agg [.agg [ah D,ah W,ae wd],.ref 1 4 0 (rQ D W na wd lk ([(A++B,0,List.replicate n 0)],n0,cz)).2.2.length,ah (rQ D W na wd lk ([(A++B,0,List.replicate n 0)],n0,cz)).2.1]],true⟩ [⟨4,(rQ D W na wd lk ([(A++B,0,List.replicate n 0)],n0,cz)).2.2.map eY,true⟩]:=by
 have afV:=hL.sp _ yF
 have hsA:∀ s∈A,cZ 1000000 s/\s.1<=s.2:=fun s hs=>⟨(afV s (List.mem_append_left _ hs)).1.le ai,(afV s (List.mem_append_left _ hs)).2⟩
 have hsB:∀ s∈B,cZ 1000000 s/\s.1<=s.2:=fun s hs=>⟨(afV s (List.mem_append_right _ hs)).1.le ai,(afV s (List.mem_append_right _ hs)).2⟩
 have hfA:=apQ A hA0 J hsA
 have hPB:=ahQ B hB0 J hsB
 have hpA:=eB bS 6 A
 have hpB:=eB bS 6 B
 have atV:=eB bS 6 (A++B)
 have hAl:(A++B).length=n:=by rw [List.length_append];exact hn
 have htA:(A.map aD).take A.length=A.map aD:=List.take_of_length_le aO
 have hAB:A.map aD++B.map aD=(A++B).map aD:=List.map_append.symm
 have hrp:List.replicate n (eW 0)=(List.replicate n (0:Int)).map eW:=by rw [List.map_replicate]
 have hpz:aG ((List.replicate n (0:Int)).map eW)=true:=aW m8 _
 have yo:=uW wd J
 have htz:((List.replicate n (0:Int)).map eW).take n=(List.replicate n (0:Int)).map eW:=List.take_of_length_le aO
 have aDm:LV.pure (.cV f cap)=true:=by simpa [LV.pure] using fG
 have zt:=abw D W na wd lk ([(A++B,0,List.replicate n 0)],n0,cz)
 have aC5:fh D [(A++B,0,List.replicate n 0)]<=100000000:=by
  have xc:2 ^ (D-0)<=2 ^ 24:=Nat.pow_le_pow_right ai J
  rw [abu]
  show 2*2 ^ (D-0)-1+0<=_
  omega
 refine fnC Tryz.func40 ?_
 have adC:True:=trivial
 have amw:True:=trivial
 have ekv:True:=trivial
 have ekK:True:=trivial
 have fB:True:=trivial
 have edk:True:=trivial
 have esc:True:=trivial
 have tF:True:=trivial
 have apj:True:=trivial
 refine aJ ?_
 refine yD [] rfl rfl (.cons (.pure hpA) .nil) hfA (aW bS _) rfl ?_
 refine ar ?_
 refine cp aK (hPB) ?_
 refine bI rfl (.ga (d:=20) (news:=B.map aD) rfl rfl rfl rfl aO (.inr rfl) ai Tryz.underlying49 Tryz.underlying49 xr aj0 cs B54 (.inr (.inl rfl)) bm bm ai) ?_
 refine ax ?_
 refine cq ((aw.hand (t:=8) (b:=20) (l:=A++B) bS rfl rfl (by rw [List.length_append])).trans (aw.refl _)) ?_
 try refine aH ?_
 refine aJ ?_
 try refine aH ?_
 refine eI rfl rfl (.ajn (n:=n) (m:=n) m8 Tryz.underlying22 (show cU _ _ (eW 0) from Z3) T3 B3 rfl rfl J J J) ?_
 refine ar ?_
 try refine aH ?_
 refine eI rfl rfl (axP (z:=jo ([],0,[])) (v:=.agg [.list 6 ((A++B).map aD),iL 0,.ref 24 1 0 n]) Tryz.underlying148 ajX rfl rfl vJ rfl rfl rfl aO aO ai ai) ?_
 refine ax ?_
 refine ju (((aw.ayp 26 [24] rfl rfl (.agg (.cons (.pure atV) (.cons (.pure rfl) (.cons (acj rfl rfl hpz aO) .nil)))))).trans (aw.kill _ 24)) ?_
 refine lp4 (fun(st jk:List ez) (m:Nat) (cw:List gX) L=>(((((St.mk L.slot (hp [(0,⟨7,[.agg [.agg [ah D,ah W,ae wd],.ref 1 4 0 cw.length,ah m]],true⟩),(1,⟨4,cw.map eY,true⟩),(26,⟨3,(st.reverse++jk).map jo,true⟩)])).put (some 0) (.aA 0 7 0 0)).put (some 1) (.list 6 (A.map aD))).put (some 3) (.cV f cap)).put (some 9) (.ref 26 3 0 st.length))) (fun st jk m cw=>yq D W na wd lk (st,m,cw) (rQ D W na wd lk ([(A++B,0,List.replicate n 0)],n0,cz))/\(∀ x∈st,I x)/\m<=4096/\cw.length+fh D st<=200000000) (fun st jk m cw=>fh D st) ([(A++B,0,List.replicate n 0)]) ([]) n0 cz ⟨zt,fun y hy=>by rw [List.mem_singleton.1 hy];exact yF,gU,J⟩ ?_
 rintro st jk m cw L1 ⟨hE,hI,hm9,hc9⟩
 refine bf ?_
 refine aC rfl ?_ ?_<;>intro aal xq
 ·obtain⟨x,st,rfl⟩:∃ x s,st=x :: s:=by
   cases st with
   | nil=>simp at xq
   | cons x s=>exact⟨x,s,rfl⟩
  have esc:=atK x st jk
  have hln:(x :: st).length=st.length+1:=rfl
  have nd:=hI x aO
  have sD:∀ y∈st,I y:=fun y hy=>hI y (by simp [hy])
  have hlk:=hL.look x nd
  have hlx:=(hL.len x nd).1
  have bE:=(hL.len x nd).2
  have hdx:=hL.dep x nd
  have sM:=hL.sp x nd
  have hkd:=hL.kd x nd
  have hmw:=adD D x
  have hmc:=abu (D:=D) (x:=x) (st:=st)
  have tP:st.length+1<=fh D (x :: st):=apA (D:=D) (x :: st)
  have sJ:=hE.step
  have adC:x.1.take A.length=x.1.take na:=by rw [hna]
  have amw:x.1.drop A.length=x.1.drop na:=by rw [hna]
  have fB:(x.1.map aD).take A.length=(x.1.take na).map aD:=by rw [hna,List.map_take]
  have edk:(x.1.map aD).drop A.length=(x.1.drop na).map aD:=by rw [hna,List.map_drop]
  have hPt:=ahQ (x.1.take na) (by rw [List.length_take];omega) (by rw [List.length_take];omega) (fun s hs=>⟨(sM s (List.mem_of_mem_take hs)).1.le ai,(sM s (List.mem_of_mem_take hs)).2⟩)
  have hPd:=ahQ (x.1.drop na) (by rw [List.length_drop];omega) (by rw [List.length_drop];omega) (fun s hs=>⟨(sM s (List.mem_of_mem_drop hs)).1.le ai,(sM s (List.mem_of_mem_drop hs)).2⟩)
  have ann:LV.pure (.agg [.list 6 ((x.1.take na).map aD),.list 6 ((x.1.drop na).map aD),ah 1,ah 0])=true:=agO (x.1.take na,x.1.drop na,1,0)
  have xW:LV.pure (.agg [.list 6 ((x.1.take na).map aD),.list 6 ((x.1.drop na).map aD),ah (k6 (lk (x.1.take na) (x.1.drop na))),ah (kV (lk (x.1.take na) (x.1.drop na)))])=true:=agO (x.1.take na,x.1.drop na,k6 (lk (x.1.take na) (x.1.drop na)),kV (lk (x.1.take na) (x.1.drop na)))
  have azy:aG [.agg [.list 6 ((x.1.take na).map aD),.list 6 ((x.1.drop na).map aD),ah 1,ah 0]]=true:=by simp only [aG,ann,Bool.and_self]
  have aAJ:aG [.agg [.list 6 ((x.1.take na).map aD),.list 6 ((x.1.drop na).map aD),ah (k6 (lk (x.1.take na) (x.1.drop na))),ah (kV (lk (x.1.take na) (x.1.drop na)))]]=true:=by simp only [aG,xW,Bool.and_self]
  have hpt:=eB bS 6 (x.1.take na)
  have hpd:=eB bS 6 (x.1.drop na)
  have apj:(cw.map eY).take cw.length=cw.map eY:=List.take_of_length_le aO
  refine bf ?_
  refine ak rfl jz ?_
  try refine aH ?_
  refine ak rfl (.tB rfl Tryz.underlying148 vJ rfl uq uq) ?_
  try refine aH ?_
  refine ak rfl (.fu (b:=26) (sz:=3) (i:=st.length) (o:=0) (x:=jo x) (r:=jo x) (n:=3) (ag:=true) rfl rfl rfl (aA7 x st jk) (aaI.au _) (dJ (aaI.au _) rfl) vJ) ?_
  refine bq ?_
  refine ak rfl jz ?_
  refine ak rfl (.adV rfl Tryz.underlying148 vJ rfl om om) ?_
  refine ax ?_
  refine aY 14 an ?_
  refine ax ?_
  try refine aH ?_
  refine ak rfl (by first | exact .apu (h:=A.length) bS rfl Tryz.underlying49 lE rfl om | exact .adV rfl Tryz.underlying49 lE rfl om om) ?_
  try refine aH ?_
  refine cp aK (hPt) ?_
  refine ax ?_
  try refine aH ?_
  refine ak rfl (.z5 (a:=A.length) bS rfl Tryz.underlying49 lE rfl om) ?_
  try refine aH ?_
  refine cp aK (hPd) ?_
  refine aR ?_
  refine aY 10 an ?_
  refine bu ?_
  refine aC rfl ?_ ?_<;>intro aiU fw
  ·have qV:W<=m:=by omega
   refine ar ?_
   refine fS 7 [0] an ?_
   refine az ?_
   try refine aH ?_
   refine eI rfl rfl (wU (z:=eY ([],[],0,0)) (v:=.agg [.list 6 ((x.1.take na).map aD),.list 6 ((x.1.drop na).map aD),ah 1,ah 0]) Tryz.underlying43 uC rfl rfl nP rfl rfl rfl ann ai ai) ?_
   refine bI rfl (.ga (d:=1) (news:=[.agg [.list 6 ((x.1.take na).map aD),.list 6 ((x.1.drop na).map aD),ah 1,ah 0]]) rfl rfl rfl rfl aO (.inl rfl) ai Tryz.underlying43 Tryz.underlying43 uC nP rfl B51 (.inl ⟨70,0,_,rfl,by decide,rfl,rfl,by simp,rfl,azy⟩) bm bm ai) ?_
   try refine aH ?_
   refine aL ?_
   try refine aH ?_
   refine aR ?_
   exact oP st (x :: jk) m (cw++[mr na x (false,0,0)]) ⟨(aus (D:=D) (wd:=wd) qV ▸ sJ),sD,hm9,xG⟩ (he:=((((aw.kill _ 10).trans (aw.kill _ 11)).trans (aw.kill _ 70))).trans (aw.of_eq (aj (aj (aj (aj (bC (by first | exact cl | (refine aH ?_;refine iy ?_ ?_<;>repeat (first | exact trivial | refine And.intro rfl ?_)))) cl) cl) cl) cl)))
  ·have qV:¬W<=m:=by omega
   refine bf ?_
   refine ak rfl cB ?_
   refine bu ?_
   try refine aH ?_
   refine mG [] rfl rfl (.cV (f:=f) (cap:=cap) (args:=[.list 6 ((x.1.take na).map aD),.list 6 ((x.1.drop na).map aD)]) rfl (.cons (.pure hpt) (.cons (.pure hpd) .nil)) ⟨fG,hcs⟩ hlk.1 ai (fun _ h=>by cases h)) (hlk.2 _) ?_
   refine bo ?_
   refine aC rfl ?_ ?_<;>intro ayI so
   ·refine ax ?_
    exact oP st (x :: jk) (m+1) cw ⟨(aCx (D:=D) (wd:=wd) qV so ▸ sJ),sD,J,J⟩ (he:=((((aw.kill _ 10).trans (aw.kill _ 11)).trans (aw.kill _ 12))).trans (aw.of_eq (aj (aj (aj (aj (bC (by first | exact cl | (refine aH ?_;refine iy ?_ ?_<;>repeat (first | exact trivial | refine And.intro rfl ?_)))) cl) cl) cl) cl)))
   ·refine ax ?_
    refine cq (aw.bV (t:=12) (b:=12) rfl rfl rfl rfl rfl) ?_
    try refine aH ?_
    refine aZ ?_
    refine fZ (fun L=>∃  (L1:St),(True)/\L=(((((((St.mk L1.slot (hp [(0,⟨7,[.agg [.agg [ah D,ah W,ae wd],.ref 1 4 0 cw.length,ah (m+1)]],true⟩),(1,⟨4,cw.map eY,true⟩),(26,⟨3,(st.reverse++(x :: jk)).map jo,true⟩),(10,⟨3,[.agg [.list 6 (x.1.map aD),ah x.2.1,.list 1 (x.2.2.map eW)]],true⟩),(11,⟨4,[.agg [.list 6 ((x.1.take na).map aD),.list 6 ((x.1.drop na).map aD),ah (k6 (lk (x.1.take na) (x.1.drop na))),ah (kV (lk (x.1.take na) (x.1.drop na)))]],true⟩)])).put (some 0) (.aA 0 7 0 0)).put (some 1) (.list 6 (A.map aD))).put (some 3) (.cV f cap)).put (some 9) (.ref 26 3 0 st.length)).put (some 10) (.aA 10 3 0 0)).put (some 11) (.aA 11 4 0 0))) ?_ ?_
    ·refine aC rfl ?_ ?_<;>intro aEq h91
     ·have ekv:k6 (lk (x.1.take na) (x.1.drop na))=(lk (x.1.take na) (x.1.drop na)).2.1:=if_neg J
      have ekK:kV (lk (x.1.take na) (x.1.drop na))=(lk (x.1.take na) (x.1.drop na)).2.2:=if_neg J
      refine aap ?_
      refine gu 0 rfl rfl an (.pure lZ) jq gv ?_
      refine gu 1 rfl rfl an (.pure il) jq gv ?_
      refine gu 2 rfl rfl an (.pure lZ) jq gv ?_
      refine gu 3 rfl rfl an (.pure il) jq gv ?_
      refine aV 4 _ an rfl ?_
      refine ar ?_
      refine aE ?_
      refine aV 5 _ an rfl ?_
      refine ar ?_
      refine aE ?_
      refine aV 6 _ an rfl ?_
      refine ar ?_
      refine aE ?_
      refine aV 7 _ an rfl ?_
      refine ar ?_
      refine aE ?_
      refine eO an ?_
      refine ar ?_
      exact acN
     ·have ekv:k6 (lk (x.1.take na) (x.1.drop na))=1:=if_pos J
      have ekK:kV (lk (x.1.take na) (x.1.drop na))=0:=if_pos J
      refine aL ?_
      exact acN
    ·rintro _ ⟨aDK,-,rfl⟩
     refine aR ?_
     refine dy 101 rfl ?_ ?_<;>intro aC9 aC7
     ·refine bq ?_
      refine aY 31 an ?_
      refine aR ?_
      refine cp aK (yo) ?_
      refine aL ?_
      refine dy 115 rfl ?_ ?_<;>intro aCG adR
      ·refine tk ?_
       refine fS 7 [0] an ?_
       refine az ?_
       try refine aH ?_
       refine eI rfl rfl (wU (z:=eY ([],[],0,0)) (v:=.agg [.list 6 ((x.1.take na).map aD),.list 6 ((x.1.drop na).map aD),ah (k6 (lk (x.1.take na) (x.1.drop na))),ah (kV (lk (x.1.take na) (x.1.drop na)))]) Tryz.underlying43 uC rfl rfl nP rfl rfl rfl xW ai ai) ?_
       refine bI rfl aaq ?_
       try refine aH ?_
       refine aL ?_
       try refine aH ?_
       refine aR ?_
       exact oP st (x :: jk) (m+1) (cw++[mr na x (lk (x.1.take na) (x.1.drop na))]) ⟨(aak (D:=D) (wd:=wd) qV so zH ▸ sJ),sD,J,xG⟩ (he:=((((aw.kill _ 10).trans (aw.kill _ 11)).trans (aw.kill _ 143))).trans (aw.of_eq (aj (aj (aj (aj (bC (by first | exact cl | (refine aH ?_;refine iy ?_ ?_<;>repeat (first | exact trivial | refine And.intro rfl ?_)))) cl) cl) cl) cl)))
      ·refine aR ?_
       refine cp aq (aoj x.1 wd J (fun s hs=>(sM s hs).1.le ai) J) ?_
       refine ax ?_
       refine dy 127 rfl ?_ ?_<;>intro aCy ady
       ·refine dp ?_
        refine fS 7 [0] an ?_
        refine az ?_
        try refine aH ?_
        refine eI rfl rfl (wU (z:=eY ([],[],0,0)) (v:=.agg [.list 6 ((x.1.take na).map aD),.list 6 ((x.1.drop na).map aD),ah (k6 (lk (x.1.take na) (x.1.drop na))),ah (kV (lk (x.1.take na) (x.1.drop na)))]) Tryz.underlying43 uC rfl rfl nP rfl rfl rfl xW ai ai) ?_
        refine bI rfl aaq ?_
        try refine aH ?_
        refine aL ?_
        try refine aH ?_
        refine aR ?_
        exact oP st (x :: jk) (m+1) (cw++[mr na x (lk (x.1.take na) (x.1.drop na))]) ⟨(aak (D:=D) (wd:=wd) qV so zH ▸ sJ),sD,J,xG⟩ (he:=((((aw.kill _ 10).trans (aw.kill _ 11)).trans (aw.kill _ 143))).trans (aw.of_eq (aj (aj (aj (aj (bC (by first | exact cl | (refine aH ?_;refine iy ?_ ?_<;>repeat (first | exact trivial | refine And.intro rfl ?_)))) cl) cl) cl) cl)))
       ·refine bo ?_
        refine aC rfl ?_ ?_<;>intro aij ah9
        ·refine ar ?_
         refine fS 7 [0] an ?_
         refine az ?_
         try refine aH ?_
         refine eI rfl rfl (wU (z:=eY ([],[],0,0)) (v:=.agg [.list 6 ((x.1.take na).map aD),.list 6 ((x.1.drop na).map aD),ah (k6 (lk (x.1.take na) (x.1.drop na))),ah (kV (lk (x.1.take na) (x.1.drop na)))]) Tryz.underlying43 uC rfl rfl nP rfl rfl rfl xW ai ai) ?_
         refine bI rfl aaq ?_
         try refine aH ?_
         refine aL ?_
         try refine aH ?_
         refine aR ?_
         exact oP st (x :: jk) (m+1) (cw++[mr na x (lk (x.1.take na) (x.1.drop na))]) ⟨(aak (D:=D) (wd:=wd) qV so zH ▸ sJ),sD,J,xG⟩ (he:=((((aw.kill _ 10).trans (aw.kill _ 11)).trans (aw.kill _ 143))).trans (aw.of_eq (aj (aj (aj (aj (bC (by first | exact cl | (refine aH ?_;refine iy ?_ ?_<;>repeat (first | exact trivial | refine And.intro rfl ?_)))) cl) cl) cl) cl)))
        ·have hmh:=aiL (D:=D) (x:=x) (st:=st) J
         have jC:nJ D wd x (lk (x.1.take na) (x.1.drop na))=false:=by first | exact agC adR (by simpa using ady) J | exact ajt J J
         refine aZ ?_
         refine gL rfl (.cons (.pure (sn x)) .nil) (aht x n D hlx bE J yK hdx J (hL.tm x nd) 1000 ai sM) ?_
         refine dj ?_
         try refine aH ?_
         refine bI rfl ai8 ?_
         refine ax ?_
         exact oP (lU x :: lQ x :: st) ([]) (m+1) cw ⟨(ais (D:=D) (wd:=wd) qV so jC ▸ sJ),fun y hy=>by
          simp only [List.mem_cons] at hy
          rcases hy with rfl | rfl | hy
          ·exact(hL.half x nd J).1
          ·exact(hL.half x nd J).2
          ·exact sD y hy,J,J⟩ (he:=((((((aw.kill _ 10).trans (aw.kill _ 11)).trans (aw.kill _ 14)).trans (aw.kill _ 15)).trans (aw.kill _ 155))).trans (aw.of_eq (aj (aj (aj (aj (bC (by first | exact cl | (refine aH ?_;refine iy ?_ ?_<;>repeat (first | exact trivial | refine And.intro rfl ?_)))) cl) cl) cl) cl)))
     ·refine bq ?_
      refine aY 31 an ?_
      refine aL ?_
      refine dy 107 rfl ?_ ?_<;>intro aDu aD5
      ·refine aZ ?_
       refine cp aK (yo) ?_
       refine aL ?_
       refine dy 115 rfl ?_ ?_<;>intro aCG adR
       ·refine tk ?_
        refine fS 7 [0] an ?_
        refine az ?_
        try refine aH ?_
        refine eI rfl rfl (wU (z:=eY ([],[],0,0)) (v:=.agg [.list 6 ((x.1.take na).map aD),.list 6 ((x.1.drop na).map aD),ah (k6 (lk (x.1.take na) (x.1.drop na))),ah (kV (lk (x.1.take na) (x.1.drop na)))]) Tryz.underlying43 uC rfl rfl nP rfl rfl rfl xW ai ai) ?_
        refine bI rfl aaq ?_
        try refine aH ?_
        refine aL ?_
        try refine aH ?_
        refine aR ?_
        exact oP st (x :: jk) (m+1) (cw++[mr na x (lk (x.1.take na) (x.1.drop na))]) ⟨(aak (D:=D) (wd:=wd) qV so zH ▸ sJ),sD,J,xG⟩ (he:=((((aw.kill _ 10).trans (aw.kill _ 11)).trans (aw.kill _ 143))).trans (aw.of_eq (aj (aj (aj (aj (bC (by first | exact cl | (refine aH ?_;refine iy ?_ ?_<;>repeat (first | exact trivial | refine And.intro rfl ?_)))) cl) cl) cl) cl)))
       ·refine aR ?_
        refine cp aq (aoj x.1 wd J (fun s hs=>(sM s hs).1.le ai) J) ?_
        refine ax ?_
        refine dy 127 rfl ?_ ?_<;>intro aCy ady
        ·refine dp ?_
         refine fS 7 [0] an ?_
         refine az ?_
         try refine aH ?_
         refine eI rfl rfl (wU (z:=eY ([],[],0,0)) (v:=.agg [.list 6 ((x.1.take na).map aD),.list 6 ((x.1.drop na).map aD),ah (k6 (lk (x.1.take na) (x.1.drop na))),ah (kV (lk (x.1.take na) (x.1.drop na)))]) Tryz.underlying43 uC rfl rfl nP rfl rfl rfl xW ai ai) ?_
         refine bI rfl aaq ?_
         try refine aH ?_
         refine aL ?_
         try refine aH ?_
         refine aR ?_
         exact oP st (x :: jk) (m+1) (cw++[mr na x (lk (x.1.take na) (x.1.drop na))]) ⟨(aak (D:=D) (wd:=wd) qV so zH ▸ sJ),sD,J,xG⟩ (he:=((((aw.kill _ 10).trans (aw.kill _ 11)).trans (aw.kill _ 143))).trans (aw.of_eq (aj (aj (aj (aj (bC (by first | exact cl | (refine aH ?_;refine iy ?_ ?_<;>repeat (first | exact trivial | refine And.intro rfl ?_)))) cl) cl) cl) cl)))
        ·refine bo ?_
         refine aC rfl ?_ ?_<;>intro aij ah9
         ·refine ar ?_
          refine fS 7 [0] an ?_
          refine az ?_
          try refine aH ?_
          refine eI rfl rfl (wU (z:=eY ([],[],0,0)) (v:=.agg [.list 6 ((x.1.take na).map aD),.list 6 ((x.1.drop na).map aD),ah (k6 (lk (x.1.take na) (x.1.drop na))),ah (kV (lk (x.1.take na) (x.1.drop na)))]) Tryz.underlying43 uC rfl rfl nP rfl rfl rfl xW ai ai) ?_
          refine bI rfl aaq ?_
          try refine aH ?_
          refine aL ?_
          try refine aH ?_
          refine aR ?_
          exact oP st (x :: jk) (m+1) (cw++[mr na x (lk (x.1.take na) (x.1.drop na))]) ⟨(aak (D:=D) (wd:=wd) qV so zH ▸ sJ),sD,J,xG⟩ (he:=((((aw.kill _ 10).trans (aw.kill _ 11)).trans (aw.kill _ 143))).trans (aw.of_eq (aj (aj (aj (aj (bC (by first | exact cl | (refine aH ?_;refine iy ?_ ?_<;>repeat (first | exact trivial | refine And.intro rfl ?_)))) cl) cl) cl) cl)))
         ·have hmh:=aiL (D:=D) (x:=x) (st:=st) J
          have jC:nJ D wd x (lk (x.1.take na) (x.1.drop na))=false:=by first | exact agC adR (by simpa using ady) J | exact ajt J J
          refine aZ ?_
          refine gL rfl (.cons (.pure (sn x)) .nil) (aht x n D hlx bE J yK hdx J (hL.tm x nd) 1000 ai sM) ?_
          refine dj ?_
          try refine aH ?_
          refine bI rfl ai8 ?_
          refine ax ?_
          exact oP (lU x :: lQ x :: st) ([]) (m+1) cw ⟨(ais (D:=D) (wd:=wd) qV so jC ▸ sJ),fun y hy=>by
           simp only [List.mem_cons] at hy
           rcases hy with rfl | rfl | hy
           ·exact(hL.half x nd J).1
           ·exact(hL.half x nd J).2
           ·exact sD y hy,J,J⟩ (he:=((((((aw.kill _ 10).trans (aw.kill _ 11)).trans (aw.kill _ 14)).trans (aw.kill _ 15)).trans (aw.kill _ 155))).trans (aw.of_eq (aj (aj (aj (aj (bC (by first | exact cl | (refine aH ?_;refine iy ?_ ?_<;>repeat (first | exact trivial | refine And.intro rfl ?_)))) cl) cl) cl) cl)))
      ·refine anh ?_
       refine aC rfl ?_ ?_<;>intro aij ah9
       ·refine ar ?_
        refine fS 7 [0] an ?_
        refine az ?_
        try refine aH ?_
        refine eI rfl rfl (wU (z:=eY ([],[],0,0)) (v:=.agg [.list 6 ((x.1.take na).map aD),.list 6 ((x.1.drop na).map aD),ah (k6 (lk (x.1.take na) (x.1.drop na))),ah (kV (lk (x.1.take na) (x.1.drop na)))]) Tryz.underlying43 uC rfl rfl nP rfl rfl rfl xW ai ai) ?_
        refine bI rfl aaq ?_
        try refine aH ?_
        refine aL ?_
        try refine aH ?_
        refine aR ?_
        exact oP st (x :: jk) (m+1) (cw++[mr na x (lk (x.1.take na) (x.1.drop na))]) ⟨(aak (D:=D) (wd:=wd) qV so zH ▸ sJ),sD,J,xG⟩ (he:=((((aw.kill _ 10).trans (aw.kill _ 11)).trans (aw.kill _ 143))).trans (aw.of_eq (aj (aj (aj (aj (bC (by first | exact cl | (refine aH ?_;refine iy ?_ ?_<;>repeat (first | exact trivial | refine And.intro rfl ?_)))) cl) cl) cl) cl)))
       ·have hmh:=aiL (D:=D) (x:=x) (st:=st) J
        have jC:nJ D wd x (lk (x.1.take na) (x.1.drop na))=false:=by first | exact agC adR (by simpa using ady) J | exact ajt J J
        refine aZ ?_
        refine gL rfl (.cons (.pure (sn x)) .nil) (aht x n D hlx bE J yK hdx J (hL.tm x nd) 1000 ai sM) ?_
        refine dj ?_
        try refine aH ?_
        refine bI rfl ai8 ?_
        refine ax ?_
        exact oP (lU x :: lQ x :: st) ([]) (m+1) cw ⟨(ais (D:=D) (wd:=wd) qV so jC ▸ sJ),fun y hy=>by
         simp only [List.mem_cons] at hy
         rcases hy with rfl | rfl | hy
         ·exact(hL.half x nd J).1
         ·exact(hL.half x nd J).2
         ·exact sD y hy,J,J⟩ (he:=((((((aw.kill _ 10).trans (aw.kill _ 11)).trans (aw.kill _ 14)).trans (aw.kill _ 15)).trans (aw.kill _ 155))).trans (aw.of_eq (aj (aj (aj (aj (bC (by first | exact cl | (refine aH ?_;refine iy ?_ ?_<;>repeat (first | exact trivial | refine And.intro rfl ?_)))) cl) cl) cl) cl)))
 ·obtain rfl:st=[]:=by
   cases st with
   | nil=>rfl
   | cons x s=>simp at xq
  have hR:=hE.nil
  refine ax ?_
  rw [hR]
  refine⟨_,aw.kill _ 26,?_⟩
  refine aH ?_
  exact aAw rfl rfl (by show (⟨_,_,_⟩:a8)=⟨_,_,_⟩;simp only [cW,LV.bJ,mg,ah,LV.cP (pI [1]) (ae wd) (ao.pure wd)];rfl) aO rfl (aaS _) rfl
theorem aso {l:List (Nat × a8)} {c:Nat} (h:∀ x∈l.map (·.1),x≠c):hp l c=none:=by
 induction l with
 | nil=>rfl
 | cons q t ih =>
  obtain⟨d,y⟩:=q
  have e:Nat.beq c d=false:=by
   rw [<-Bool.not_eq_true,Nat.beq_eq]
   exact fun e=>h d aO e.symm
  simp only [hp,e,cond_false]
  exact ih fun x hx=>h x (by simp only [List.map_cons,List.mem_cons];exact .inr hx)
abbrev ll:=Nat × List gX
def pg (d w:Nat) (wd:Rat) (lk:cI->cI->iV) (dm:cI->Sp) (c e:cI) (s:ll):ll:=(rQ d w 1 wd (lk c e) ([([dm c]++[dm e],0,List.replicate 2 0)],s.1,s.2)).2
def ny (d w:Nat) (wd:Rat) (lk:cI->cI->iV) (dm:cI->Sp) (c:cI) (l:List cI) (s:ll):ll:=l.foldl (fun s e=>pg d w wd lk dm c e s) s
def pG (d w:Nat) (wd:Rat) (lk:cI->cI->iV) (dm:cI->Sp) (l m:List cI) (s:ll):ll:=l.foldl (fun s c=>ny d w wd lk dm c m s) s
theorem aw8 {D W na:Nat} {wd:Rat} {lk:iV} (C:Nat) {s:RunT} (hW:W<=4096) (h1:s.2.1<=4096) (h:s.2.2.length+fh D s.1<=C):(rQ D W na wd lk s).2.1<=4096/\(rQ D W na wd lk s).2.2.length<=C:=by
 have:=(abF (D:=D) (W:=W) (na:=na) (wd:=wd) (lk:=lk) (fun s=>s.2.1<=4096/\s.2.2.length+fh D s.1<=C) (fun x st n cs hI=>by
  have hs:=agu (D:=D) (W:=W) (na:=na) (wd:=wd) (lk:=lk) (x:=x) (st:=st) (n:=n) (cs:=cs)
  have hl:(lR D W na wd lk (x :: st,n,cs)).2.2.length<=cs.length+1:=by
   rw [lR]
   split
   ·simp
   ·split
    ·simp
    ·split<;>simp
  have hn:(lR D W na wd lk (x :: st,n,cs)).2.1<=4096:=by
   have pC:n<=4096:=hI.1
   rw [lR]
   split
   ·exact pC
   ·split
    ·show n+1<=4096;omega
    ·split<;>(show n+1<=4096;omega)
  have pz:cs.length+fh D (x :: st)<=C:=hI.2
  exact⟨hn,J⟩) (fh D s.1) (Nat.le_refl _) ⟨h1,h⟩ (abw D W na wd lk s)).1
 exact⟨this.1,by have:=this.2;omega⟩
theorem aqH {d w:Nat} {wd:Rat} {lk:cI->cI->iV} {dm:cI->Sp} {c e:cI} {s:ll} (hd:d<=10) (hW:w<=4096) (h1:s.1<=4096) {m:Nat} (h:s.2.length<=m):(pg d w wd lk dm c e s).1<=4096/\(pg d w wd lk dm c e s).2.length<=m+2048:=by
 refine aw8 (m+2048) hW h1 ?_
 have hp:2 ^ (d-0)<=2 ^ 10:=Nat.pow_le_pow_right ai J
 have e10:(2:Nat) ^ 10=1024:=rfl
 show s.2.length+((2*2 ^ (d-0)-1)+0)<=_
 omega
theorem axo {d w:Nat} {wd:Rat} {lk:cI->cI->iV} {dm:cI->Sp} {c:cI} {l:List cI} {j:Nat} {s:ll} (h:j<l.length):ny d w wd lk dm c (l.drop j) s=ny d w wd lk dm c (l.drop (j+1)) (pg d w wd lk dm c (l.getD j default) s):=by
 rw [List.drop_eq_getElem_cons h,List.getD_eq_getElem?_getD,List.getElem?_eq_getElem h];rfl
theorem aCk {d w:Nat} {wd:Rat} {lk:cI->cI->iV} {dm:cI->Sp} {l m:List cI} {j:Nat} {s:ll} (h:j<l.length):pG d w wd lk dm (l.drop j) m s=pG d w wd lk dm (l.drop (j+1)) m (ny d w wd lk dm (l.getD j default) m s):=by
 rw [List.drop_eq_getElem_cons h,List.getD_eq_getElem?_getD,List.getElem?_eq_getElem h];rfl
theorem ari {P:Program} {L L0:St} {id:Nat} {ops:Array Oper} {d:Bool} {Q:iS->St->Prop} (hw:aw L L0) (h:cx P (.region id ops d) Q L0):cx P (.region id ops d) Q L:=by
 unfold cx at h ⊢
 obtain⟨L1,h1,h2⟩:=h
 exact⟨L1,hw.trans h1,h2⟩
theorem ath {L:St} {b4 b14:a8} {p:LV} {m n:Nat} {l:List gX} (hpp:p.pure=true) (h4:aG b4.vals=true) (kg:aG b14.vals=true)
  (hL:L.heap=hp [(4,b4),(42,⟨7,[.agg [p,.ref 1001041 4 0 m,ah n]],true⟩),(14,b14),(1001041,⟨4,l.map eY,true⟩)]) :
  aw L ⟨fun t=>((L.slot t).kill 144).bJ (gR 1001041 144),hp [(4,b4),(42,⟨7,[.agg [p,.ref 144 4 0 m,ah n]],true⟩),(144,⟨4,l.map eY,true⟩),(14,b14)]⟩:=by
 refine(aw.asy (b:=1001041) (b':=144) hL ai ai ai).trans (aw.of_eq ?_)
 simp only [St.mk.injEq,true_and]
 have hbq:∀ a b:Nat,Nat.beq a b=(a==b):=fun a b=>by rw [Bool.eq_iff_iff,Nat.beq_eq,beq_iff_eq]
 have k4:bN 144 b4.vals=b4.vals:=adj 144 _ h4
 have k14:bN 144 b14.vals=b14.vals:=adj 144 _ kg
 have kc:bN 144 (l.map eY)=l.map eY:=aP aa8 ..
 have kr:bN 144 [LV.agg [p,.ref 1001041 4 0 m,ah n]]=[LV.agg [p,.ref 1001041 4 0 m,ah n]]:=by
  simp only [bN,LV.kill,LV.kt _ _ hpp,ah];rfl
 have r4:cW (gR 1001041 144) b4.vals=b4.vals:=mg _ _ h4
 have r14:cW (gR 1001041 144) b14.vals=b14.vals:=mg _ _ kg
 have rc:cW (gR 1001041 144) (l.map eY)=l.map eY:=mg _ _ (aaS _)
 have rr:cW (gR 1001041 144) [LV.agg [p,.ref 1001041 4 0 m,ah n]]=[LV.agg [p,.ref 144 4 0 m,ah n]]:=by
  simp only [cW,LV.bJ,LV.cP _ _ hpp,ah];rfl
 refine iy ?_ ?_
 all_goals
  simp only [mR,hbq,Nat.reduceBEq,cond_false,cond_true,List.map_cons,List.map_nil,k4,k14,kc,kr,r4,r14,rc,rr]
  simp only [gR,Nat.reduceEqDiff,reduceIte,adG,hp,hbq,Nat.reduceBEq,cond_false,cond_true,and_self]
theorem aoE {l:List cI} {i:Nat} (h:i<l.length):(l.map dv)[((i:Nat):Int).toNat]?=some (dv (l.getD i default)):=by
 rw [Int.toNat_natCast,List.getElem?_map,List.getD_eq_getElem?_getD,List.getElem?_eq_getElem h];rfl
section
attribute [local irreducible] dv
namespace apw
theorem aH {p q:Prop} (k:q) (e:p=q:=by simp only [e1,e2,e3,e4,p1,p2,p3,q1,q2,q3,l1,t0,t1,r1,r2,r3,r4,Nat.zero_add,Nat.reduceMul,Nat.reduceAdd,b1,b2,b3,b4,b5,b6,i1,i2,i3,i4,i5,i6,Nat.reduceBEq,hc5,hc7,fy0,fyc,hnM,mg _ _ (aaS _),List.length_map,kW,kJ,iA,List.length_cons,List.length_nil,List.nil_append,List.map_nil,List.take_nil,List.append_nil,aP bS,aP aa8,List.getD_cons_zero,List.getD_cons_succ,List.set_cons_zero,List.set_cons_succ,Nat.reduceEqDiff,reduceIte,if_true,if_false,dU,eo,aP bg,aP bw,aP ao,cH,dO,LV.kill,bN,am4,aP fL];exact rfl):p:=e.mpr k
end apw
open apw in
theorem ass (d1 d2:Nat) (k1 k2:List Rat) (cg b8:List aF) (jJ:cg.length<=1000) (mc:b8.length<=1000) (uz:∀ x∈cg,x.p.z=0) (yi:∀ x∈b8,x.p.z=0) (CA CB:List cI) (hA:CA.length<=10) (hB:CB.length<=10) (d w:Nat) (wd:Rat) (hd:d<=10) (hw:w<=4096) (hwd:rl wd<=100) (lk:cI->cI->iV) (dm:cI->Sp) (I:cI->cI->ez->Prop) (hVa:av Tryz.prog 37 [.agg [ah d,ah w,ae wd]] (bL true)) (z9:av Tryz.prog 39 [.agg [ah d1,.list 3 (k1.map ae),.list 12 (cg.map aT)]] (.list 3 (CA.map dv))) (hP2:av Tryz.prog 39 [.agg [ah d2,.list 3 (k2.map ae),.list 12 (b8.map aT)]] (.list 3 (CB.map dv))) (hD1:∀ c∈CA,av Tryz.prog 41 [dv c] (aD (dm c))) (hD2:∀ c∈CB,av Tryz.prog 41 [dv c] (aD (dm c))) (hLk:∀ c∈CA,∀ e∈CB,adi Tryz.prog 42 [.bV (dv c),.bV (dv e)] d 1 2 (lk c e) (I c e)) (yF:∀ c∈CA,∀ e∈CB,I c e ([dm c]++[dm e],0,List.replicate 2 0)):av Tryz.prog 14 [.agg [ah d1,.list 3 (k1.map ae),.list 12 (cg.map aT)],.agg [ah d2,.list 3 (k2.map ae),.list 12 (b8.map aT)],.agg [ah d,ah w,ae wd]] (.a7 [.list 4 ((pG d w wd lk dm CA CB (0,[])).2.map eY),iL 0]):=by
 have hc5:(LV.agg [ah d,ah w,ae wd]).au=5:=by simp [LV.au,cF,ao.au]
 have hc7:(LV.agg [.agg [ah d,ah w,ae wd],.v (.slice none 0 0),ah 0]).au=7:=by simp [LV.au,cF,ao.au]
 have aa0:LV.pure (.agg [ah d1,.list 3 (k1.map ae),.list 12 (cg.map aT)])=true:=by simp [LV.pure,aG,aW ao,aW bw]
 have z6:LV.pure (.agg [ah d2,.list 3 (k2.map ae),.list 12 (b8.map aT)])=true:=by simp [LV.pure,aG,aW ao,aW bw]
 have ma:LV.pure (.agg [ah d,ah w,ae wd])=true:=ayS d w wd
 have hS0:∀ x:aF,x.p.z=0->av Tryz.prog 38 [ae x.p.z] (iL 0):=fun x h=>by
  rw [h]
  have:=uW 0 (by have:rl 0=1:=rfl;omega)
  rwa [show cM 0=0 from by decide +kernel] at this
 have hbR:∀ m n:Nat,cW (xP 42 144 65) [.agg [.agg [ah d,ah w,ae wd],.ref 1 4 0 m,ah n]]=[.agg [.agg [ah d,ah w,ae wd],.ref 144 4 0 m,ah n]]:=fun m n=>by
  simp only [cW,LV.bJ,ah,LV.cP _ (ae wd) (ao.pure wd)];rfl
 have hnR:∀ m n:Nat,cW (kR 42 65) [.agg [.agg [ah d,ah w,ae wd],.ref 1 4 0 m,ah n]]=[.agg [.agg [ah d,ah w,ae wd],.ref 1001041 4 0 m,ah n]]:=fun m n=>by
  simp only [cW,LV.bJ,ah,LV.cP _ (ae wd) (ao.pure wd)];rfl
 have hnM:∀ m n:Nat,cW (gR 1001041 144) [.agg [.agg [ah d,ah w,ae wd],.ref 1001041 4 0 m,ah n]]=[.agg [.agg [ah d,ah w,ae wd],.ref 144 4 0 m,ah n]]:=fun m n=>by
  simp only [cW,LV.bJ,ah,LV.cP _ (ae wd) (ao.pure wd)];rfl
 have hnC:∀ l:List gX,cW (kR 42 65) (l.map eY)=l.map eY:=fun l=>mg _ _ (aaS _)
 have akP:=eB fL 3 CA
 have aj5:=eB fL 3 CB
 have je:kR 42 65 1=1001041:=rfl
 refine aN Tryz.func14 (ht:=(jh (by simp only [LV.pure,aaS]) rfl)) ?_
 refine dp ?_
 refine gL rfl (.cons (.pure ma) .nil) (hVa) ?_
 refine aJ ?_
 refine eE (b:=_) rfl (rfl) ?_
 refine aR ?_
 refine ak rfl (afE (v0:=.agg [ah d1,.list 3 (k1.map ae),.list 12 (cg.map aT)]) (v1:=.agg [ah d2,.list 3 (k2.map ae),.list 12 (b8.map aT)]) Tryz.underlying83 jI Z83 lz rfl rfl lz lz aa0 z6) ?_
 refine ax ?_
 refine bF ?_
 refine az ?_
 refine bY (b:=_) rfl ai ?_
 refine az ?_
 first | refine ak rfl (.yf rfl Tryz.underlying83 jI rfl rfl ai rfl aa0) ?_ | refine ak rfl (.yf rfl Tryz.underlying83 jI rfl rfl ai rfl z6) ?_
 refine dp ?_
 refine ju (aw.kill _ 9) ?_
 refine dG (fun(i:Nat) L=>(((((((((St.mk L.slot (hp [(3,⟨3,[.agg [ah d1,.list 3 (k1.map ae),.list 12 (cg.map aT)]],true⟩),(4,⟨3,[.agg [ah d2,.list 3 (k2.map ae),.list 12 (b8.map aT)]],true⟩),(5,⟨5,[.agg [ah d,ah w,ae wd]],true⟩)])).put (some 3) (.aA 3 3 0 0)).put (some 4) (.aA 4 3 0 0)).put (some 5) (.aA 5 5 0 0)).put (some 22) (.agg [.agg [ah d1,.list 3 (k1.map ae),.list 12 (cg.map aT)],.agg [ah d2,.list 3 (k2.map ae),.list 12 (b8.map aT)]])).put (some 23) (ah 0)).put (some 27) (.list 12 (cg.map aT))).put (some 28) (ah cg.length)).put (some 29) (ah i))) (fun i=>i<=cg.length) (fun i=>cg.length-i) 0 (Nat.zero_le _) ?_
 rintro i L2 hi
 refine az ?_
 refine aC rfl ?_ ?_<;>intro abB yb
 ·have dA:i<cg.length:=by omega
  have yo:=hS0 _ (uz _ (qM dA))
  refine im ?_
  refine cp aK (yo) ?_
  refine aJ ?_
  refine eE (b:=_) rfl (rfl) ?_
  refine aJ ?_
  refine cq (aw.kill _ 11) ?_
  refine ak rfl cB ?_
  refine aJ ?_
  exact jS
 ·refine az ?_
  refine cq (aw.kill _ 9) ?_
  refine ax ?_
  refine bF ?_
  refine az ?_
  refine bY (b:=_) rfl ai ?_
  refine az ?_
  first | refine ak rfl (.yf rfl Tryz.underlying83 jI rfl rfl ai rfl aa0) ?_ | refine ak rfl (.yf rfl Tryz.underlying83 jI rfl rfl ai rfl z6) ?_
  refine dp ?_
  refine ju (aw.kill _ 9) ?_
  refine dG (fun(i:Nat) L=>(((((((((St.mk L.slot (hp [(3,⟨3,[.agg [ah d1,.list 3 (k1.map ae),.list 12 (cg.map aT)]],true⟩),(4,⟨3,[.agg [ah d2,.list 3 (k2.map ae),.list 12 (b8.map aT)]],true⟩),(5,⟨5,[.agg [ah d,ah w,ae wd]],true⟩)])).put (some 3) (.aA 3 3 0 0)).put (some 4) (.aA 4 3 0 0)).put (some 5) (.aA 5 5 0 0)).put (some 22) (.agg [.agg [ah d1,.list 3 (k1.map ae),.list 12 (cg.map aT)],.agg [ah d2,.list 3 (k2.map ae),.list 12 (b8.map aT)]])).put (some 23) (ah 1)).put (some 27) (.list 12 (b8.map aT))).put (some 28) (ah b8.length)).put (some 29) (ah i))) (fun i=>i<=b8.length) (fun i=>b8.length-i) 0 (Nat.zero_le _) ?_
  rintro i L2 hi
  refine az ?_
  refine aC rfl ?_ ?_<;>intro abB yb
  ·have dA:i<b8.length:=by omega
   have yo:=hS0 _ (yi _ (qM dA))
   refine im ?_
   refine cp aK (yo) ?_
   refine aJ ?_
   refine eE (b:=_) rfl (rfl) ?_
   refine aJ ?_
   refine cq (aw.kill _ 11) ?_
   refine ak rfl cB ?_
   refine aJ ?_
   exact jS
  ·refine az ?_
   refine cq (aw.kill _ 9) ?_
   refine ax ?_
   refine bF ?_
   refine az ?_
   refine eE (b:=_) rfl ai ?_
   refine bf ?_
   refine ak rfl (show aB _ _ _ _ (.agg [.agg [ah d,ah w,ae wd],.v (.slice none 0 0),ah 0]) from .build (zs:=[.agg [.v (.int .i64 0),.v (.int .i64 0),ae 0],.v (.slice none 0 0),.v (.int .i64 0)]) (by simpa [lay,LV.au,cF,LV.isAgg,ao.au] using anM) Z87 (by simp only [List.forall_mem_cons];exact⟨⟨_,rfl,(show lay (.agg [ah d,ah w,ae wd])=lay (.agg [.v (.int .i64 0),.v (.int .i64 0),ae 0]) by simp [lay,LV.au,cF,LV.isAgg,ao.au]),kH⟩,fun _ h=>by cases h⟩)) ?_
   refine bf ?_
   refine cp aK (z9) ?_
   refine aZ ?_
   refine ju (aw.kill _ 3) ?_
   refine ju (aw.kill _ 5) ?_
   refine ju (aw.ayf (b:=42) (d:=144) (csz:=4) ai rfl rfl (fun Z μ w part h=>ayt (d:=144) (c:=4) Z μ w part h)) ?_
   refine jL (fun(i:Nat) (s:ll) L=>((((((St.mk L.slot (hp [(4,⟨3,[.agg [ah d2,.list 3 (k2.map ae),.list 12 (b8.map aT)]],true⟩),(42,⟨7,[.agg [.agg [ah d,ah w,ae wd],.ref 144 4 0 s.2.length,ah s.1]],true⟩),(144,⟨4,s.2.map eY,true⟩)])).put (some 4) (.aA 4 3 0 0)).put (some 12) (.aA 42 7 0 0)).put (some 44) (.list 3 (CA.map dv))).put (some 45) (ah CA.length)).put (some 46) (ah i))) (fun i s=>i<=CA.length/\pG d w wd lk dm (CA.drop i) CB s=pG d w wd lk dm CA CB (0,[])/\s.1<=4096/\s.2.length<=i*20480) (fun i s=>CA.length-i) 0 (0,[]) ⟨Nat.zero_le _,rfl,Nat.zero_le _,Nat.zero_le _⟩ ?_
   rintro i s L3 ⟨hi,hR,jm,vK⟩
   refine az ?_
   refine aC rfl ?_ ?_<;>intro acJ h47
   ·have dA:i<CA.length:=by omega
    have hcA:=anJ dA
    have azx:=hD1 _ hcA
    refine az ?_
    refine ak rfl (.lV (r:=dv (CA.getD i default)) rfl Tryz.underlying88 jI rfl J (aoE dA) (fL.au _)) ?_
    try refine aH ?_
    refine ak rfl (.afD fL rfl jI) ?_
    refine ar ?_
    try refine aH ?_
    refine bI rfl (.store rfl rfl rfl rfl rfl rfl (adg _ _ (fL.au _).symm (fL.isAgg _).symm) (show bp _ _ (dv (CA.getD i default)).au (dv (CA.getD i default)).isAgg by rw [fL.au,fL.isAgg];exact jI) ⟨LV.eF (fL.pure _),LV.dZ (fL.pure _)⟩) ?_
    refine aZ ?_
    refine cp aK (hP2) ?_
    refine aZ ?_
    refine ju (aw.bR (t:=46) (x:=ah i) (y:=ah i) [14] rfl rfl (.pure rfl)) ?_
    refine jL (fun(j:Nat) (r:ll) L=>((((((((((St.mk L.slot (hp [(4,⟨3,[.agg [ah d2,.list 3 (k2.map ae),.list 12 (b8.map aT)]],true⟩),(42,⟨7,[.agg [.agg [ah d,ah w,ae wd],.ref 144 4 0 r.2.length,ah r.1]],true⟩),(144,⟨4,r.2.map eY,true⟩),(14,⟨3,[dv (CA.getD i default)],false⟩)])).put (some 4) (.aA 4 3 0 0)).put (some 12) (.aA 42 7 0 0)).put (some 14) (.aA 14 3 0 0)).put (some 44) (.list 3 (CA.map dv))).put (some 45) (ah CA.length)).put (some 46) (ah i)).put (some 51) (.list 3 (CB.map dv))).put (some 52) (ah CB.length)).put (some 53) (ah j))) (fun j r=>j<=CB.length/\ny d w wd lk dm (CA.getD i default) (CB.drop j) r=ny d w wd lk dm (CA.getD i default) CB s/\r.1<=4096/\r.2.length<=i*20480+j*2048) (fun j r=>CB.length-j) 0 s ⟨Nat.zero_le _,rfl,jm,J⟩ ?_
    rintro j r L4 ⟨hj,hQ,ib,nv⟩
    refine az ?_
    refine aC rfl ?_ ?_<;>intro axD h54
    ·have g7:j<CB.length:=by omega
     have hcB:=anJ g7
     have avr:=hD2 _ hcB
     have aiF:LV.pure (dv (CA.getD i default))=true:=fL.pure _
     have anB:LV.pure (dv (CB.getD j default))=true:=fL.pure _
     have hQ2:ny d w wd lk dm (CA.getD i default) (CB.drop (j+1)) (pg d w wd lk dm (CA.getD i default) (CB.getD j default) r)=ny d w wd lk dm (CA.getD i default) CB s:=by rw [<-axo g7];exact hQ
     obtain⟨wu,tZ⟩:=aqH (wd:=wd) (lk:=lk) (dm:=dm) (c:=(CA.getD i default)) (e:=(CB.getD j default)) hd hw ib nv
     have fG:aG ([.bV (dv (CA.getD i default)),.bV (dv (CB.getD j default))]:List LV)=true:=by simp only [aG,LV.pure,aiF,anB,Bool.and_self]
     have hcs:∀ x∈([.bV (dv (CA.getD i default)),.bV (dv (CB.getD j default))]:List LV),x.au=1/\x.isAgg=false:=fun x hx=>by
      simp only [List.mem_cons,List.not_mem_nil,or_false] at hx
      rcases hx with e | e<;>rw [e]<;>exact⟨rfl,rfl⟩
     have ay7:=atA 42 1 2 d w ([.bV (dv (CA.getD i default)),.bV (dv (CB.getD j default))]:List LV) (lk (CA.getD i default) (CB.getD j default)) (I (CA.getD i default) (CB.getD j default)) (hLk _ hcA _ hcB) fG hcs [dm (CA.getD i default)] [dm (CB.getD j default)] rfl aO aO rfl ai (yF _ hcA _ hcB) wd hwd r.1 r.2 J hw ib J
     refine az ?_
     refine ak rfl (.lV (r:=dv (CB.getD j default)) rfl Tryz.underlying88 jI rfl J (aoE g7) (fL.au _)) ?_
     try refine aH ?_
     refine ak rfl (.afD fL rfl jI) ?_
     refine ar ?_
     try refine aH ?_
     refine bI rfl (.store rfl rfl rfl rfl rfl rfl (adg _ _ (fL.au _).symm (fL.isAgg _).symm) (show bp _ _ (dv (CB.getD j default)).au (dv (CB.getD j default)).isAgg by rw [fL.au,fL.isAgg];exact jI) ⟨LV.eF (fL.pure _),LV.dZ (fL.pure _)⟩) ?_
     refine aL ?_
     refine ayh rfl 8 an rfl ?_
     simp only [List.take_succ_cons,List.take_zero]
     refine ar ?_
     try refine aH ?_
     refine ak rfl (.fu (b:=14) (sz:=3) (i:=0) (o:=0) (x:=dv (CA.getD i default)) (r:=dv (CA.getD i default)) (n:=3) (ag:=true) rfl rfl rfl rfl (fL.au _) (dJ (fL.au _) (fL.isAgg _)) jI) ?_
     refine cp aK (azx) ?_
     try refine aH ?_
     refine eI rfl rfl (.ahW (a:=dm (CA.getD i default)) (z:=(0,0)) bS Tryz.underlying49 xr lE rfl ai ai) ?_
     try refine aH ?_
     refine ak rfl (.fu (b:=16) (sz:=3) (i:=0) (o:=0) (x:=dv (CB.getD j default)) (r:=dv (CB.getD j default)) (n:=3) (ag:=true) rfl rfl rfl rfl (fL.au _) (dJ (fL.au _) (fL.isAgg _)) jI) ?_
     refine cp aK (avr) ?_
     try refine aH ?_
     refine eI rfl rfl (.ahW (a:=dm (CB.getD j default)) (z:=(0,0)) bS Tryz.underlying49 xr lE rfl ai ai) ?_
     try refine aH ?_
     refine mG [14,16,60,63] rfl rfl (.mk (caps:=([.bV (dv (CA.getD i default)),.bV (dv (CB.getD j default))]:List LV)) (.cons (.aA rfl rfl rfl (fL.au _) (dJ (fL.au _) (fL.isAgg _)) aiF rfl) (.cons (.aA rfl rfl rfl (fL.au _) (dJ (fL.au _) (fL.isAgg _)) anB rfl) .nil)) hcs) rfl ?_
     try refine aH ?_
     refine at0 rfl (aqA (f:=40) (b:=42) (c:=144) (sz:=7) (csz:=4) (vals:=[.agg [.agg [ah d,ah w,ae wd],.ref 1 4 0 r.2.length,ah r.1]]) (cvals:=r.2.map eY) 65 rfl ai ai (by rw [hbR];rfl) (by rw [mg _ _ (aaS _)];rfl) (.cons (.bJ (y:=.aA 0 7 0 0) ⟨by simp,by simp⟩) (.cons (.cf (.ref (blk:=⟨6,[aD (dm (CA.getD i default))],false⟩) rfl rfl (by simp [aG,bS.pure]) aO rfl)) (.cons (.cf (.ref (blk:=⟨6,[aD (dm (CB.getD j default))],false⟩) rfl rfl (by simp [aG,bS.pure]) aO rfl)) (.cons (.cf (.pure (show LV.pure (.cV 42 ([.bV (dv (CA.getD i default)),.bV (dv (CB.getD j default))]:List LV))=true by simpa [LV.pure] using fG))) .nil)))) .ptr ay7 aO (fun k hk=>aso (by intro x hx;simp only [List.map_cons,List.map_nil,List.mem_cons,List.not_mem_nil,or_false] at hx;unfold dK;omega))) ?_
     simp only [qh,je,hnR,hnC]
     refine aH ?_
     refine aL ?_
     refine ari (((aw.kill _ 16).trans (aw.kill _ 60)).trans (aw.kill _ 63)) ?_
     try refine aH ?_
     refine ari (ath ma (by simp only [aG,z6,Bool.and_self]) (by simp only [aG,aiF,Bool.and_self]) rfl) ?_
     try refine aH ?_
     refine ar ?_
     refine ak rfl cB ?_
     refine aJ ?_
     exact fU (j+1) (pg d w wd lk dm (CA.getD i default) (CB.getD j default) r) ⟨J,hQ2,wu,J⟩ (he:=aw.of_eq (aj (aj (aj (aj (aj (aj (aj (aj (aj (bC (by first | exact cl | (refine aH ?_;refine iy ?_ ?_<;>repeat (first | exact trivial | refine And.intro rfl ?_)))) cl) cl) cl) (show LV.bJ (gR 1001041 144) (LV.kill 144 (LV.list 3 (CA.map dv)))=LV.list 3 (CA.map dv) from by rw [LV.kt _ _ akP,LV.cP _ _ akP])) cl) cl) (show LV.bJ (gR 1001041 144) (LV.kill 144 (LV.list 3 (CB.map dv)))=LV.list 3 (CB.map dv) from by rw [LV.kt _ _ aj5,LV.cP _ _ aj5])) cl) cl))
    ·obtain rfl:CB.length=j:=by omega
     have yP:r=ny d w wd lk dm (CA.getD i default) CB s:=by rw [<-hQ,List.drop_length];rfl
     have hR2:pG d w wd lk dm (CA.drop (i+1)) CB r=pG d w wd lk dm CA CB (0,[]):=by rw [yP,<-aCk dA];exact hR
     refine az ?_
     refine cq (aw.kill _ 14) ?_
     refine ak rfl cB ?_
     refine aJ ?_
     exact fU (i+1) r ⟨J,hR2,ib,J⟩
   ·obtain rfl:CA.length=i:=by omega
    have hR3:s=pG d w wd lk dm CA CB (0,[]):=by rw [<-hR,List.drop_length];rfl
    refine mH ?_
    subst hR3
    exact ahB [144] rfl rfl (eM (l:=(pG d w wd lk dm CA CB (0,[])).2) aa8 rfl rfl rfl) rfl (.pure rfl)
end
theorem azI {P:Program} {H:bK} {ρ:Operand->LV} {T:TypeId} [z:ZI P T (.agg [.agg [aS ⟨0,0,0⟩,aS ⟨0,0,0⟩,aS ⟨0,0,0⟩],aS ⟨0,0,0⟩])] [s:SI P T [(27,true),(9,true)]] :
  aB P H ρ (.build T #[]) (dV ⟨⟨0,0,0⟩,⟨0,0,0⟩,⟨0,0,0⟩,⟨0,0,0⟩⟩):=by
 have:=aB.bd (H:=H) (ρ:=ρ) (ps:=#[]) (z:=z) (s:=s) (by simp [lay,LV.au,cF,bg.au,bg.isAgg,qL]) (by
  intro q hq
  simp at hq)
 simp only [iD,List.map,List.foldl] at this
 exact this
def M30:M3:=⟨⟨0,0,0⟩,⟨0,0,0⟩,⟨0,0,0⟩,⟨0,0,0⟩⟩
def vlM (m:M3):Rat:=de m.a (gI m.b m.c)
def kL (m:M3):M3:=if vlM m=0 then M30 else zB m
def ivE (m:M3):Int:=if vlM m=0 then 9 else 0
open adE in
theorem atr (m:M3) (R:Nat) (hR:R<=40000000) (hm:qq R m) (hv:de m.a (gI m.b m.c)=0):av Tryz.prog 108 [dV m] (.a7 [dV M30,iL 9]):=by
 have fX:=hm
 obtain⟨iI,dY,n6,mn⟩:=hm
 have fx:=yV dY n6
 have hV:=anW m R J fX
 have ib:rl 1=1:=rfl
 have hrv:=zV iI fx
 have hQ:av Tryz.prog 169 [ae 1,ae (de m.a (gI m.b m.c))] (.a7 [ae (fT m.a m.b m.c),iL 3]):=by
  have:=td 1 (de m.a (gI m.b m.c)) J
  rwa [if_pos hv] at this
 have r7:av Tryz.prog 107 [iL 1] (ae 1):=uk 1 ai ai
 refine aN Tryz.func108 (ht:=(jh (dN.pure _) rfl)) ?_
 refine bf ?_
 refine fS 8 [6] an ?_
 refine cp aK (r7) ?_
 refine ak rfl afq ?_
 refine gL rfl (.cons (.pure (dN.pure m)) .nil) hV ?_
 refine cp aq (hQ) ?_
 refine gy ?_
 refine bY (b:=_) rfl (rfl) ?_
 refine aL ?_
 refine ak rfl azI ?_
 refine bI rfl (.yQ (e:=dV) (l:=[⟨⟨0,0,0⟩,⟨0,0,0⟩,⟨0,0,0⟩,⟨0,0,0⟩⟩]) (a:=M30) rfl rfl rfl aO) ?_
 refine aZ ?_
 exact sN [] rfl rfl rfl (dN.au M30) (dJ (dN.au M30) rfl) uM (.pure (dN.pure M30)) rfl (.pure rfl)
theorem ax5 (m:M3) (R:Nat) (hR:R<=40000000) (hm:qq R m):av Tryz.prog 108 [dV m] (.a7 [dV (kL m),iL (ivE m)]):=by
 by_cases hv:vlM m=0
 ·unfold kL ivE
  rw [if_pos hv,if_pos hv]
  exact atr m R hR hm hv
 ·unfold kL ivE
  rw [if_neg hv,if_neg hv]
  exact asN m R hR hm hv
theorem abI (n:Nat):(ah n).pure=true:=rfl
theorem aBQ {m:M3} {R:Nat} (hm:qq R m):cj (24*R+40) (kL m).a/\cj (24*R+40) (kL m).b:=by
 have qC:rl 0=1:=rfl
 have ib:rl 1=1:=rfl
 unfold kL
 split
 ·exact⟨⟨by show rl 0<=_;omega,by show rl 0<=_;omega,by show rl 0<=_;omega⟩,⟨by show rl 0<=_;omega,by show rl 0<=_;omega,by show rl 0<=_;omega⟩⟩
 ·obtain⟨iI,dY,n6,mn⟩:=hm
  have fx:=yV dY n6
  have eX:=yV n6 iI
  have qj:=yV iI dY
  have hrv:=zV iI fx
  have hrf:rl (fT m.a m.b m.c)<=20*R+30:=by
   have:=oT 1 (de m.a (gI m.b m.c))
   unfold fT
   omega
  have m9:∀ q:V3,cj (4*R+5) q->cj (24*R+40) (iZ (fT m.a m.b m.c) q):=fun q ⟨wg,q2',q3'⟩=>by
   have e1x:=cO (fT m.a m.b m.c) q.x
   have e2x:=cO (fT m.a m.b m.c) q.y
   have e3x:=cO (fT m.a m.b m.c) q.z
   exact⟨by show rl (fT m.a m.b m.c*q.x)<=_;omega,by show rl (fT m.a m.b m.c*q.y)<=_;omega,by show rl (fT m.a m.b m.c*q.z)<=_;omega⟩
  exact⟨⟨(m9 _ fx).1,(m9 _ eX).1,(m9 _ qj).1⟩,⟨(m9 _ fx).2.1,(m9 _ eX).2.1,(m9 _ qj).2.1⟩⟩
theorem axK {u v:V3} {R:Nat} (hu:cj R u) (hv:cj R v):qq (R+1) (jD u v):=by
 have e0:rl (-1)=1:=by decide +kernel
 have qC:rl 0=1:=rfl
 have ib:rl 1=1:=rfl
 have e5:=cO (-1) v.x
 have e6:=cO (-1) v.y
 obtain⟨u1,u2,u3⟩:=hu
 obtain⟨v1,v2,v3⟩:=hv
 exact⟨⟨by show rl u.x<=_;omega,by show rl (-1*v.x)<=_;omega,by show rl 0<=_;omega⟩,⟨by show rl u.y<=_;omega,by show rl (-1*v.y)<=_;omega,by show rl 0<=_;omega⟩,⟨by show rl 0<=_;omega,by show rl 0<=_;omega,by show rl 1<=_;omega⟩,⟨by show rl 0<=_;omega,by show rl 0<=_;omega,by show rl 0<=_;omega⟩⟩
theorem acZ {l:List aF} {i:Nat} (h:i<l.length):(l.map aF.p).getD i default=(l.getD i default).p:=by
 rw [List.getD_eq_getElem?_getD,List.getElem?_map,List.getD_eq_getElem?_getD,List.getElem?_eq_getElem h];rfl
open adE in
theorem aCr (d1 d2:Nat) (k1 k2:List Rat) (cg b8:List aF) (S T:oE) (RS:Nat) (hRS:RS<=20000000) (hSb:nw RS S) (hTb:nw RS T) (s t:Sp) (x y:Rat) (u v:V3) (R:Nat) (hR:R<=3700000) (hub:cj R u) (hvb:cj R v) (hlA:0<cg.length) (hlB:0<b8.length) (aAL:cg.length<=1000) (azq:b8.length<=1000) (aet:∀ q∈(cg.map aF.p),cj 90000000 q) (adZ:∀ q∈(b8.map aF.p),cj 90000000 q) (hS1:av Tryz.prog 100 [.agg [ah d1,.list 3 (k1.map ae),.list 12 (cg.map aT)]] (lM S)) (hS2:av Tryz.prog 100 [.agg [ah d2,.list 3 (k2.map ae),.list 12 (b8.map aT)]] (lM T)) (hD1:av Tryz.prog 41 [.agg [ah d1,.list 3 (k1.map ae),.list 12 (cg.map aT)]] (aD s)) (hD2:av Tryz.prog 41 [.agg [ah d2,.list 3 (k2.map ae),.list 12 (b8.map aT)]] (aD t)) (hM1:av Tryz.prog 105 [aD s] (ae x)) (hM2:av Tryz.prog 105 [aD t] (ae y)) (hT1:av Tryz.prog 104 [.agg [ah d1,.list 3 (k1.map ae),.list 12 (cg.map aT)],ae x] (.a7 [aS u,iL 0])) (hT2:av Tryz.prog 104 [.agg [ah d2,.list 3 (k2.map ae),.list 12 (b8.map aT)],ae y] (.a7 [aS v,iL 0])) (zw:av Tryz.prog 111 [.agg [ah d1,.list 3 (k1.map ae),.list 12 (cg.map aT)]] (.a7 [aS (cg.getD 0 default).p,aS (cg.getD (cg.length-1) default).p])) (vV:av Tryz.prog 111 [.agg [ah d2,.list 3 (k2.map ae),.list 12 (b8.map aT)]] (.a7 [aS (b8.getD 0 default).p,aS (b8.getD (b8.length-1) default).p])):av Tryz.prog 46 [.agg [ah d1,.list 3 (k1.map ae),.list 12 (cg.map aT)],.agg [ah d2,.list 3 (k2.map ae),.list 12 (b8.map aT)]] (ah (oK S T u v (cg.map aF.p) (b8.map aF.p))):=by
 have aa0:LV.pure (.agg [ah d1,.list 3 (k1.map ae),.list 12 (cg.map aT)])=true:=by simp [LV.pure,aG,aW ao,aW bw]
 have z6:LV.pure (.agg [ah d2,.list 3 (k2.map ae),.list 12 (b8.map aT)])=true:=by simp [LV.pure,aG,aW ao,aW bw]
 have hpD:LV.pure (.agg [.agg [aD S.x,aD (mB T.x)],.agg [aD S.y,aD (mB T.y)]])=true:=by simp only [LV.pure,aG,bS.pure,Bool.and_self]
 have fv:∀ l1 l2:List V3,LV.pure (.agg [.list 9 (l1.map aS),.list 9 (l2.map aS)])=true:=fun l1 l2=>by simp only [LV.pure,aG,aW bg,Bool.and_self]
 have ao4:=aqX hTb.1
 have aqF:=aqX hTb.2.1
 have vh:cZ (4*RS+1) (d2S S.x (mB T.x) S.y (mB T.y)):=axQ hSb.1 ao4 hSb.2.1 aqF
 have r7:av Tryz.prog 107 [iL 1] (ae 1):=uk 1 ai ai
 have h1m:av Tryz.prog 107 [iL (-1)] (ae (-1)):=by
  have:=uk (-1) ai ai
  rwa [show (((-1:Int)):Rat)=-1 from by decide +kernel] at this
 have qR:=axK hub hvb
 have hSc:=acV (-1) v (R+1) J (by have:rl (-1)=1:=an;omega) (hvb.le J)
 have au0:=ax5 (jD u v) (R+1) J qR
 have hiv:=aBQ qR
 have au8:cj 90000000 (kL (jD u v)).a:=hiv.1.le J
 have aBx:cj 90000000 (kL (jD u v)).b:=hiv.2.le J
 have z9:av Tryz.prog 110 [.list 12 (cg.map aT)] (.list 9 ((cg.map aF.p).map aS)):=apV cg hlA aAL
 have hP2:av Tryz.prog 110 [.list 12 (b8.map aT)] (.list 9 ((b8.map aF.p).map aS)):=apV b8 hlB azq
 have mm:∀ (l:List aF) (i:Nat),i<l.length->(∀ q∈l.map aF.p,cj 90000000 q)->cj 90000000 (l.getD i default).p:=fun l i hi h=>h _ (List.mem_map.2 ⟨_,qM hi,rfl⟩)
 have aAg:∀ q∈[(cg.getD 0 default).p],cj 90000000 q:=fun q hq=>by rw [List.mem_singleton.1 hq];exact mm cg 0 hlA aet
 have avG:∀ q∈[(cg.getD (cg.length-1) default).p],cj 90000000 q:=fun q hq=>by rw [List.mem_singleton.1 hq];exact mm cg _ J aet
 have avV:∀ q∈[(b8.getD 0 default).p],cj 90000000 q:=fun q hq=>by rw [List.mem_singleton.1 hq];exact mm b8 0 hlB adZ
 have atl:∀ q∈[(b8.getD (b8.length-1) default).p],cj 90000000 q:=fun q hq=>by rw [List.mem_singleton.1 hq];exact mm b8 _ J adZ
 have kT:iU (d2S S.x (mB T.x) S.y (mB T.y)) 0=false->vlM (jD u v)≠0->(oK S T u v (cg.map aF.p) (b8.map aF.p))=if (ue (jB (kL (jD u v)).a [(cg.getD 0 default).p] (b8.map aF.p)) (jB (kL (jD u v)).a [(cg.getD (cg.length-1) default).p] (b8.map aF.p))) && (ue (jB (kL (jD u v)).b (cg.map aF.p) [(b8.getD 0 default).p]) (jB (kL (jD u v)).b (cg.map aF.p) [(b8.getD (b8.length-1) default).p])) then 3 else 2:=fun h1 h2=>by
  have hg:kL (jD u v)=zB (jD u v):=if_neg h2
  unfold oK
  rw [if_neg (by rw [h1];decide),if_neg (show ¬de (vP u v) (gI (wB u v) w7)=0 from h2),hg]
  unfold aoP amI
  rw [acZ hlA,acZ hlB,List.length_map,List.length_map,acZ (show cg.length-1<cg.length by omega),acZ (show b8.length-1<b8.length by omega)]
  rfl
 refine aN Tryz.func46 (ht:=(fun g=>LV.cP g _ (abI _))) ?_
 refine bf ?_
 refine aY 6 an ?_
 refine ar ?_
 refine cp aK (hS1) ?_
 refine ar ?_
 refine cp aK (hS2) ?_
 refine aR ?_
 refine aY 15 an ?_
 refine ax ?_
 refine cp aK (aoH T.x RS J hTb.1) ?_
 refine ak rfl (afE (v0:=aD S.x) (v1:=aD (mB T.x)) Tryz.underlying169 lE aoS lz rfl rfl lz lz (bS.pure _) (bS.pure _)) ?_
 refine ax ?_
 refine cp aK (aoH T.y RS J hTb.2.1) ?_
 refine ak rfl (afE (v0:=aD S.y) (v1:=aD (mB T.y)) Tryz.underlying169 lE aoS lz rfl rfl lz lz (bS.pure _) (bS.pure _)) ?_
 refine ak rfl (afE (v0:=.agg [aD S.x,aD (mB T.x)]) (v1:=.agg [aD S.y,aD (mB T.y)]) Tryz.underlying170 amX aBH lz rfl rfl lz lz pu pu) ?_
 refine gL rfl (.cons (.pure hpD) .nil) (ayl S.x (mB T.x) S.y (mB T.y) RS J hSb.1 ao4 hSb.2.1 aqF) ?_
 refine bq ?_
 refine cp aq (aee (d2S S.x (mB T.x) S.y (mB T.y)) 0 (by have:=vh.1;have:rl 0=1:=rfl;omega) (by have:=vh.2;have:rl 0=1:=rfl;omega)) ?_
 refine aL ?_
 refine aC rfl ?_ ?_<;>intro aaF h41
 ·have zc:(oK S T u v (cg.map aF.p) (b8.map aF.p))=0:=if_pos h41
  refine aR ?_
  refine dB (x:=ah (oK S T u v (cg.map aF.p) (b8.map aF.p))) ?_ ?_
  ·first | rw [zc] | rw [pR.trans (if_neg ac5)]
   rfl
  ·exact .pure (abI _)
 ·have lG:iU (d2S S.x (mB T.x) S.y (mB T.y)) 0=false:=by simpa using h41
  refine aJ ?_
  refine fS 9 [7] an ?_
  refine aL ?_
  refine cp aK (hD1) ?_
  refine cp aK (hM1) ?_
  refine cp aq (hT1) ?_
  refine bq ?_
  refine fS 9 [7] an ?_
  refine aL ?_
  refine cp aK (hD2) ?_
  refine cp aK (hM2) ?_
  refine cp aq (hT2) ?_
  refine bq ?_
  refine aY 3 an ?_
  refine cp aK (h1m) ?_
  refine ar ?_
  refine cp aq (hSc) ?_
  refine ax ?_
  refine fS 19 [17] an ?_
  refine ax ?_
  refine pH (ajk rfl rfl) ?_
  refine ax ?_
  refine pH (ajk rfl rfl) ?_
  refine cp aK (r7) ?_
  refine pH (ay8 rfl) ?_
  refine ak rfl (agY rfl rfl rfl) ?_
  refine ak rfl (agF (a:=vP u v) (b:=wB u v) (c:=w7) rfl) ?_
  refine gL rfl (.cons (.pure (dN.pure (jD u v))) .nil) au0 ?_
  refine ax ?_
  refine bI rfl (.yQ (e:=dV) (l:=[⟨⟨0,0,0⟩,⟨0,0,0⟩,⟨0,0,0⟩,⟨0,0,0⟩⟩]) (a:=kL (jD u v)) rfl rfl rfl aO) ?_
  refine bB ?_
  refine aC rfl ?_ ?_<;>intro aDD h80
  ·have hvz:vlM (jD u v)=0:=by
    refine Decidable.byContradiction fun e=>?_
    rw [show ivE (jD u v)=0 from if_neg e] at h80
    simp at h80
   have zc:(oK S T u v (cg.map aF.p) (b8.map aF.p))=2:=by
    unfold oK
    rw [if_neg (by rw [lG];decide),if_pos (show de (vP u v) (gI (wB u v) w7)=0 from hvz)]
   refine aR ?_
   refine dB (x:=ah (oK S T u v (cg.map aF.p) (b8.map aF.p))) ?_ ?_
   ·first | rw [zc] | rw [pR.trans (if_neg ac5)]
    rfl
   ·exact .pure (abI _)
  ·have hvn:vlM (jD u v)≠0:=fun e=>by
    rw [show ivE (jD u v)=9 from if_pos e] at h80
    simp at h80
   have pR:=kT lG hvn
   refine bf ?_
   refine aY 8 an ?_
   refine aL ?_
   refine cp aK (z9) ?_
   refine aL ?_
   refine cp aK (hP2) ?_
   refine aR ?_
   refine cp aK (zw) ?_
   refine bB ?_
   refine aY 15 an ?_
   refine aL ?_
   refine ak rfl (.fu rfl rfl rfl rfl (dN.au _) (adH _) ij) ?_
   refine aL ?_
   refine mG [] rfl rfl (.cV (f:=109) (cap:=[]) (args:=[aS (cg.getD 0 default).p]) rfl (.cons (.pure (bg.pure _)) .nil) ⟨rfl,by simp⟩ (yx (cg.getD 0 default).p).1 ai (fun _ h=>by cases h)) ((yx (cg.getD 0 default).p).2 _) ?_
   refine ax ?_
   refine mG [] rfl rfl (.cV (f:=109) (cap:=[]) (args:=[aS (cg.getD (cg.length-1) default).p]) rfl (.cons (.pure (bg.pure _)) .nil) ⟨rfl,by simp⟩ (yx (cg.getD (cg.length-1) default).p).1 ai (fun _ h=>by cases h)) ((yx (cg.getD (cg.length-1) default).p).2 _) ?_
   refine aL ?_
   refine gL rfl (.cons (.pure (bg.pure _)) (.cons (.pure (fv [(cg.getD 0 default).p] (b8.map aF.p))) (.cons (.pure (fv [(cg.getD (cg.length-1) default).p] (b8.map aF.p))) .nil))) (ano (kL (jD u v)).a 90000000 J au8 [(cg.getD 0 default).p] (b8.map aF.p) [(cg.getD (cg.length-1) default).p] (b8.map aF.p) aO aO aAg ky ky adZ aO aO avG ky ky adZ) ?_
   refine az ?_
   refine cp aK (vV) ?_
   refine bf ?_
   refine aY 15 an ?_
   refine aL ?_
   refine ak rfl (.fu rfl rfl rfl rfl (dN.au _) (adQ _) ij) ?_
   refine aJ ?_
   refine mG [] rfl rfl (.cV (f:=109) (cap:=[]) (args:=[aS (b8.getD 0 default).p]) rfl (.cons (.pure (bg.pure _)) .nil) ⟨rfl,by simp⟩ (yx (b8.getD 0 default).p).1 ai (fun _ h=>by cases h)) ((yx (b8.getD 0 default).p).2 _) ?_
   refine ax ?_
   refine mG [] rfl rfl (.cV (f:=109) (cap:=[]) (args:=[aS (b8.getD (b8.length-1) default).p]) rfl (.cons (.pure (bg.pure _)) .nil) ⟨rfl,by simp⟩ (yx (b8.getD (b8.length-1) default).p).1 ai (fun _ h=>by cases h)) ((yx (b8.getD (b8.length-1) default).p).2 _) ?_
   refine ar ?_
   refine gL rfl (.cons (.pure (bg.pure _)) (.cons (.pure (fv (cg.map aF.p) [(b8.getD 0 default).p])) (.cons (.pure (fv (cg.map aF.p) [(b8.getD (b8.length-1) default).p])) .nil))) (ano (kL (jD u v)).b 90000000 J aBx (cg.map aF.p) [(b8.getD 0 default).p] (cg.map aF.p) [(b8.getD (b8.length-1) default).p] ky ky aet aO aO avV ky ky aet aO aO atl) ?_
   refine bf ?_
   refine dy 126 rfl ?_ ?_<;>intro aEt apM
   ·refine ax ?_
    refine aC rfl ?_ ?_<;>intro aDc akw
    ·have zc:(oK S T u v (cg.map aF.p) (b8.map aF.p))=3:=pR.trans (if_pos (by rw [show (ue (jB (kL (jD u v)).a [(cg.getD 0 default).p] (b8.map aF.p)) (jB (kL (jD u v)).a [(cg.getD (cg.length-1) default).p] (b8.map aF.p)))=true from apM,show (ue (jB (kL (jD u v)).b (cg.map aF.p) [(b8.getD 0 default).p]) (jB (kL (jD u v)).b (cg.map aF.p) [(b8.getD (b8.length-1) default).p]))=true from akw];rfl))
     refine aR ?_
     refine dB (x:=ah (oK S T u v (cg.map aF.p) (b8.map aF.p))) ?_ ?_
     ·first | rw [zc] | rw [pR.trans (if_neg ac5)]
      rfl
     ·exact .pure (abI _)
    ·have zc:(oK S T u v (cg.map aF.p) (b8.map aF.p))=2:=pR.trans (if_neg (by rw [show (ue (jB (kL (jD u v)).b (cg.map aF.p) [(b8.getD 0 default).p]) (jB (kL (jD u v)).b (cg.map aF.p) [(b8.getD (b8.length-1) default).p]))=false from akw];simp))
     refine bf ?_
     refine dB (x:=ah (oK S T u v (cg.map aF.p) (b8.map aF.p))) ?_ ?_
     ·first | rw [zc] | rw [pR.trans (if_neg ac5)]
      rfl
     ·exact .pure (abI _)
   ·refine dp ?_
    refine dB (x:=ah (oK S T u v (cg.map aF.p) (b8.map aF.p))) ?_ ?_
    ·first | rw [zc] | rw [pR.trans (if_neg ac5)]
     rfl
    ·exact .pure (abI _)
def vL (X Y:oE) (K:Nat):Bool × Nat × Nat:=if meB X Y then(false,K,0) else(true,0,0)
open vj in
theorem ayL (e1 e2:Nat) (k1 k2 k3 k4:List Rat) (cg b8 jQ poD:List aF) (s t:Sp) (X Y:oE) (R:Nat) (hR:R<=1000000) (hbX:nw R X) (hbY:nw R Y) (K:Nat) (hU1:av Tryz.prog 43 [.agg [ah e1,.list 3 (k1.map ae),.list 12 (cg.map aT)],ae s.1,ae s.2] (.a7 [.agg [ah e1,.list 3 (k3.map ae),.list 12 (jQ.map aT)],iL 0])) (hU2:av Tryz.prog 43 [.agg [ah e2,.list 3 (k2.map ae),.list 12 (b8.map aT)],ae t.1,ae t.2] (.a7 [.agg [ah e2,.list 3 (k4.map ae),.list 12 (poD.map aT)],iL 0])) (hX1:av Tryz.prog 45 [.agg [ah e1,.list 3 (k3.map ae),.list 12 (jQ.map aT)]] (lM X)) (hX2:av Tryz.prog 45 [.agg [ah e2,.list 3 (k4.map ae),.list 12 (poD.map aT)]] (lM Y)) (hKi:av Tryz.prog 46 [.agg [ah e1,.list 3 (k3.map ae),.list 12 (jQ.map aT)],.agg [ah e2,.list 3 (k4.map ae),.list 12 (poD.map aT)]] (ah K)):av Tryz.prog 42 [.list 6 ([s].map aD),.list 6 ([t].map aD),.bV (.agg [ah e1,.list 3 (k1.map ae),.list 12 (cg.map aT)]),.bV (.agg [ah e2,.list 3 (k2.map ae),.list 12 (b8.map aT)])] (vdL (vL X Y K)):=by
 have hus:aD s=.agg [ae s.1,ae s.2]:=by unfold aD;rfl
 have hut:aD t=.agg [ae t.1,ae t.2]:=by unfold aD;rfl
 have aa0:LV.pure (.agg [ah e1,.list 3 (k1.map ae),.list 12 (cg.map aT)])=true:=by simp [LV.pure,aG,aW ao,aW bw]
 have z6:LV.pure (.agg [ah e2,.list 3 (k2.map ae),.list 12 (b8.map aT)])=true:=by simp [LV.pure,aG,aW ao,aW bw]
 have aDW:LV.pure (.agg [ah e1,.list 3 (k3.map ae),.list 12 (jQ.map aT)])=true:=by simp [LV.pure,aG,aW ao,aW bw]
 have agS:LV.pure (.agg [ah e2,.list 3 (k4.map ae),.list 12 (poD.map aT)])=true:=by simp [LV.pure,aG,aW ao,aW bw]
 have hMB:=aBr X Y R J hbX hbY
 refine aN Tryz.func42 (ht:=(fun g=>LV.cP g _ (aBu _))) ?_
 refine az ?_
 refine fS 14 [12] an ?_
 refine ak rfl (.wC rfl jI aa0) ?_
 refine ar ?_
 refine ak rfl (.lV (n:=0) (r:=.agg [ae s.1,ae s.2]) rfl Tryz.underlying49 lE rfl ai (by show some (aD s)=_;rw [hus]) (by rw [<-hus];exact bS.au _)) ?_
 refine aJ ?_
 refine ak rfl (.lV (n:=0) (r:=.agg [ae s.1,ae s.2]) rfl Tryz.underlying49 lE rfl ai (by show some (aD s)=_;rw [hus]) (by rw [<-hus];exact bS.au _)) ?_
 refine aL ?_
 refine cp fJ (hU1) ?_
 refine bq ?_
 refine fS 14 [12] an ?_
 refine ak rfl (.wC rfl jI z6) ?_
 refine ar ?_
 refine ak rfl (.lV (n:=0) (r:=.agg [ae t.1,ae t.2]) rfl Tryz.underlying49 lE rfl ai (by show some (aD t)=_;rw [hut]) (by rw [<-hut];exact bS.au _)) ?_
 refine aJ ?_
 refine ak rfl (.lV (n:=0) (r:=.agg [ae t.1,ae t.2]) rfl Tryz.underlying49 lE rfl ai (by show some (aD t)=_;rw [hut]) (by rw [<-hut];exact bS.au _)) ?_
 refine aL ?_
 refine cp fJ (hU2) ?_
 refine bB ?_
 refine aY 6 an ?_
 refine ar ?_
 refine cp aK (hX1) ?_
 refine ar ?_
 refine cp aK (hX2) ?_
 refine gL rfl (.cons (.pure (vS.pure _)) (.cons (.pure (vS.pure _)) .nil)) hMB ?_
 refine aJ ?_
 refine aC rfl ?_ ?_<;>intro ayZ h42
 ·have hv:(vL X Y K)=(true,0,0):=if_neg (by simpa using h42)
  refine bf ?_
  exact fW [] rfl rfl rfl cs (dJ cs rfl) T92 (by rw [hv];exact .pure pu)
 ·have hv:(vL X Y K)=(false,K,0):=if_pos (by simpa using h42)
  refine az ?_
  refine cp aq (hKi) ?_
  refine aZ ?_
  exact fW [] rfl rfl rfl cs (dJ cs rfl) T92 (by rw [hv];exact .pure pu)
def cK (a b:Rat) (s:Sp):Sp:=(a+(b-a)*s.1,a+(b-a)*s.2)
theorem ajO (x:Rat):x/2*2=x:=Rat.div_mul_cancel ai
theorem ajs (a b:Rat) (s:Sp):iW (cK a b s)=a+(b-a)*iW s:=by
 have h1:=ajO (s.1+s.2)
 have h2:=ajO (a+(b-a)*s.1+(a+(b-a)*s.2))
 show (a+(b-a)*s.1+(a+(b-a)*s.2))/2=a+(b-a)*((s.1+s.2)/2)
 grind
theorem aoW (a b:Rat) (s:Sp):nW (cK a b s)=cK a b (nW s):=by
 have:=ajs a b s
 unfold nW
 rw [this];rfl
theorem amD (a b:Rat) (s:Sp):oD (cK a b s)=cK a b (oD s):=by
 have:=ajs a b s
 unfold oD
 rw [this];rfl
theorem aqS (a b:Rat):cK a b pJ=(a,b):=by
 show (a+(b-a)*0,a+(b-a)*1)=(a,b)
 rw [show a+(b-a)*0=a by grind,show a+(b-a)*1=b by grind]
theorem uY {a b:Rat} (h:a<b) (x:Rat):(a+(b-a)*x-a)/(b-a)=x:=by
 have hn:b-a≠0:=by grind
 rw [show a+(b-a)*x-a=x*(b-a) by grind,Rat.mul_div_cancel hn]
theorem aaz {a b x y:Rat} (h:a<b) (hx:x<y):a+(b-a)*x<a+(b-a)*y:=by
 have h1:0<b-a:=by grind
 have h2:0<y-x:=by grind
 have:=Rat.mul_pos h1 h2
 grind
theorem anN {a b x y:Rat} (h:a<b) (hx:x<=y):a+(b-a)*x<=a+(b-a)*y:=by
 have h1:0<=b-a:=by grind
 have h2:0<=y-x:=by grind
 have:=Rat.mul_nonneg h1 h2
 grind
theorem aqN {a b x:Rat} (h:a<b) (h0:0<=x) (h1:x<=1):a<=a+(b-a)*x/\a+(b-a)*x<=b:=by
 have e1:=anN h h0
 have e2:=anN h h1
 constructor<;>grind
theorem ub {a b x:Rat} {A:Nat} (ha:Go.Lg.rl a<=A) (hb:Go.Lg.rl b<=A) (hx:Go.Lg.rl x<=1):Go.Lg.rl (a+(b-a)*x)<=3*A+5:=by
 have h1:=iq b a
 have h2:=cO (b-a) x
 have h3:=jx a ((b-a)*x)
 omega
def qt (D:Nat) (a b c d:Rat) (x:ez):Prop:=∃ (s t:Sp) (i j:Int),x.1=[cK a b s,cK c d t]/\x.2.2=[i,j]/\(0<=i/\i<=x.2.1/\0<=j/\j<=x.2.1)/\x.2.1<=D/\lX x.2.1 s/\lX x.2.1 t
theorem agN (D:Nat) (a b c d:Rat):qt D a b c d ([(a,b)]++[(c,d)],0,List.replicate 2 0):=by
 have h0:jg 0 (0:Rat):=aj8 0
 have h1:jg 0 (1:Rat):=aj8 1
 refine⟨pJ,pJ,0,0,?_,rfl,⟨Int.le_refl _,Int.le_refl _,Int.le_refl _,Int.le_refl _⟩,Nat.zero_le _,⟨h0,h1,by decide +kernel,by decide +kernel,by decide +kernel⟩,⟨h0,h1,by decide +kernel,by decide +kernel,by decide +kernel⟩⟩
 rw [aqS,aqS];rfl
theorem aix {D:Nat} {a b c d:Rat} {x:ez} (h:qt D a b c d x) (hd:x.2.1<D):qt D a b c d (lU x)/\qt D a b c d (lQ x):=by
 obtain⟨s,t,i,j,e,f,⟨i1,i2,j1,j2⟩,_,hs,ht⟩:=h
 have ha:eT x=0\/eT x=1:=by
  have:=aaW (t:=x.2.2) x.2.2.length (Nat.le_refl _) (by rw [f];exact Nat.succ_pos _)
  have hl:x.2.2.length=2:=by rw [f];rfl
  unfold eT;omega
 unfold lU lQ xu
 rcases ha with g | g
 ·rw [g,e,f]
  exact⟨⟨nW s,t,i+1,j,by rw [<-aoW];rfl,rfl,⟨J,by show i+1<=((x.2.1+1:Nat):Int);omega,j1,by show j<=((x.2.1+1:Nat):Int);omega⟩,hd,hs.half.1,ht.succ⟩,
   ⟨oD s,t,i+1,j,by rw [<-amD];rfl,rfl,⟨J,by show i+1<=((x.2.1+1:Nat):Int);omega,j1,by show j<=((x.2.1+1:Nat):Int);omega⟩,hd,hs.half.2,ht.succ⟩⟩
 ·rw [g,e,f]
  exact⟨⟨s,nW t,i,j+1,by rw [<-aoW];rfl,rfl,⟨i1,by show i<=((x.2.1+1:Nat):Int);omega,J,by show j+1<=((x.2.1+1:Nat):Int);omega⟩,hd,hs.succ,ht.half.1⟩,
   ⟨s,oD t,i,j+1,by rw [<-amD];rfl,rfl,⟨i1,by show i<=((x.2.1+1:Nat):Int);omega,J,by show j+1<=((x.2.1+1:Nat):Int);omega⟩,hd,hs.succ,ht.half.2⟩⟩
theorem att {P:Program} {f:Nat} {cap:List LV} {D:Nat} (hD:D<=24) {a b c d:Rat} (cu:a<b) (ur:c<d) (ha:Go.Lg.rl a<=300) (hb:Go.Lg.rl b<=300) (hc:Go.Lg.rl c<=300) (hd:Go.Lg.rl d<=300) (lk:iV)
  (hl:∀ s t:Sp,lX D s->lX D t->av P f ([.list 6 ([cK a b s].map aD),.list 6 ([cK c d t].map aD)]++cap) (vdL (lk [cK a b s] [cK c d t])))
  (hk:∀ s t:Sp,lX D s->lX D t->(lk [cK a b s] [cK c d t]).2.1<=4/\(lk [cK a b s] [cK c d t]).2.2<=4):adi P f cap D 1 2 lk (qt D a b c d):=by
 have hle:∀ {n:Nat} {s:Sp},n<=D->lX n s->lX D s:=fun hn h=>⟨h.1.le hn,h.2.1.le hn,h.2.2⟩
 refine⟨fun x h=>?_,fun x h t ht=>?_,fun x h=>?_,fun x h s hs=>?_,fun x h hd=>aix h hd,fun x h=>?_,fun x h=>?_⟩
 ·obtain⟨s,t,i,j,e,f,_⟩:=h;rw [e,f];exact⟨rfl,rfl⟩
 ·obtain⟨s,t',i,j,e,f,⟨i1,i2,j1,j2⟩,hd,_⟩:=h
  rw [f] at ht
  simp only [List.mem_cons,List.not_mem_nil,or_false] at ht
  rcases ht with rfl | rfl<;>omega
 ·obtain⟨_,_,_,_,_,_,_,hd,_⟩:=h;exact hd
 ·obtain⟨s',t',i,j,e,f,_,hd9,k1,k2⟩:=h
  rw [e] at hs
  simp only [List.mem_cons,List.not_mem_nil,or_false] at hs
  rcases hs with rfl | rfl
  ·have hr:=k1.rl J
   have h1:=ub ha hb hr.1
   have h2:=ub ha hb hr.2
   exact⟨⟨by show Go.Lg.rl (a+(b-a)*s'.1)<=_;omega,by show Go.Lg.rl (a+(b-a)*s'.2)<=_;omega⟩,Rat.le_of_lt (aaz cu k1.2.2.2.1)⟩
  ·have hr:=k2.rl J
   have h1:=ub hc hd hr.1
   have h2:=ub hc hd hr.2
   exact⟨⟨by show Go.Lg.rl (c+(d-c)*t'.1)<=_;omega,by show Go.Lg.rl (c+(d-c)*t'.2)<=_;omega⟩,Rat.le_of_lt (aaz ur k2.2.2.2.1)⟩
 ·obtain⟨s',t',i,j,e,f,_,hd,k1,k2⟩:=h
  rw [e];exact hl s' t' (hle hd k1) (hle hd k2)
 ·obtain⟨s',t',i,j,e,f,_,hd,k1,k2⟩:=h
  rw [e];exact hk s' t' (hle hd k1) (hle hd k2)
def ck (D N:Nat) (x:Rat):Prop:=∃ z:Int,x*((D:Int):Rat)=(z:Rat)/\z.natAbs<=N
theorem yz (m n:Nat):(((m*n:Nat):Int):Rat)=((m:Int):Rat)*((n:Int):Rat):=by push_cast;rfl
theorem ab6 {D:Nat} (h:0<D):(0:Rat)<((D:Int):Rat):=Rat.intCast_pos.2 J
theorem ck.rl {D N k:Nat} {x:Rat} (h:ck D N x) (hD:0<D) (hN:N<4294967296 ^ k) (ef:D<4294967296 ^ k) (hk:1<=k):Go.Lg.rl x<=k:=by
 obtain⟨z,e,hz⟩:=h
 have hp:=ab6 hD
 have:x=(z:Rat)/((D:Int):Rat):=by rw [<-e,Rat.mul_div_cancel cA]
 rw [this,<-ac1]
 have:=zM (k:=k) (decide (z<0) != decide ((D:Int)<0)) (n:=z.natAbs) (d:=(D:Int).natAbs) J (by simpa using ef)
 omega
theorem ck.div {D N k:Nat} {x y:Rat} (h:ck D N x) (g:ck D N y) (hD:0<D) (hN:N<4294967296 ^ k) (hk:1<=k):Go.Lg.rl (x/y)<=k:=by
 obtain⟨z,e,hz⟩:=h
 obtain⟨u,f,hu⟩:=g
 have hp:=ab6 hD
 have:x/y=(z:Rat)/(u:Rat):=by
  rw [<-e,<-f]
  by_cases hy:y=0
  ·subst hy;rw [Rat.zero_mul,Rat.div_def,Rat.div_def];simp
  ·have h1:y*((D:Int):Rat)≠0:=by
    intro e0
    rcases Rat.mul_eq_zero.1 e0 with e1 | e1
    ·exact hy e1
    ·grind
   have h2:x/y*y=x:=Rat.div_mul_cancel hy
   have h3:x*((D:Int):Rat)/(y*((D:Int):Rat))*(y*((D:Int):Rat))=x*((D:Int):Rat):=Rat.div_mul_cancel h1
   have h4:x/y*(y*((D:Int):Rat))=x*((D:Int):Rat):=by rw [<-Rat.mul_assoc,h2]
   have h5:x/y=x*((D:Int):Rat)/(y*((D:Int):Rat)):=by rw [<-h4,Rat.mul_div_cancel h1]
   exact h5
 rw [this,<-ac1]
 have:=zM (k:=k) (decide (z<0) != decide (u<0)) (n:=z.natAbs) (d:=u.natAbs) J J
 omega
def uQ (E:Nat) (x:Rat):Prop:=∃ α β:Nat,x*((E:Int):Rat)=((α:Int):Rat)/\(1-x)*((E:Int):Rat)=((β:Int):Rat)
theorem uQ.sum {E:Nat} {x:Rat} {α β:Nat} (h1:x*((E:Int):Rat)=((α:Int):Rat)) (h2:(1-x)*((E:Int):Rat)=((β:Int):Rat)):α+β=E:=by
 have:(((α+β:Nat):Int):Rat)=((E:Int):Rat):=by
  push_cast
  push_cast at h1 h2
  rw [<-h1,<-h2];grind
 have:=Rat.intCast_inj.1 this
 omega
theorem aqx {n:Nat} {x:Rat} (h:jg n x) (h0:0<=x) (h1:x<=1):uQ (2 ^ n) x:=by
 obtain⟨z,e⟩:=h.mul
 have hp:=two_pos n
 have m0:=Rat.mul_nonneg h0 (Rat.le_of_lt hp)
 have m1:=Rat.mul_nonneg (show 0<=1-x by grind) (Rat.le_of_lt hp)
 have e2:(1-x)*(((2 ^ n:Nat):Int):Rat)=((((2 ^ n:Nat):Int)-z:Int):Rat):=by
  push_cast
  push_cast at e
  rw [<-e];grind
 rw [e] at m0
 rw [e2] at m1
 have z0:0<=z:=Rat.intCast_nonneg.1 m0
 have z1:0<=((2 ^ n:Nat):Int)-z:=Rat.intCast_nonneg.1 m1
 refine⟨z.toNat,(((2 ^ n:Nat):Int)-z).toNat,?_,?_⟩
 ·rw [Int.toNat_of_nonneg z0];exact e
 ·rw [Int.toNat_of_nonneg z1];exact e2
theorem adq {a:Rat} {E:Nat} (ha:uQ E a):∀ (n:Nat) {D N:Nat} (f:Nat->Rat),(∀ i,i<=n->ck D N (f i))->ck (D*E ^ n) (N*E ^ n) (fE (1-a) a n f)
 | 0,D,N,f,h=>by
  have:=h 0 (Nat.le_refl _)
  simpa [fE] using this
 | n+1,D,N,f,h=>by
  rw [fE,Nat.pow_succ,Nat.mul_comm (E ^ n) E,<-Nat.mul_assoc,<-Nat.mul_assoc]
  refine adq ha n _ fun i hi=>?_
  obtain⟨α,β,e1,e2⟩:=ha
  have es:=uQ.sum e1 e2
  obtain⟨z,f1,g1⟩:=h i J
  obtain⟨u,f2,g2⟩:=h (i+1) J
  refine⟨(β:Int)*z+(α:Int)*u,?_,?_⟩
  ·rw [yz,Rat.intCast_add,Rat.intCast_mul,Rat.intCast_mul,<-e1,<-e2,<-f1,<-f2]
   grind
  ·have h1:=Int.natAbs_add_le ((β:Int)*z) ((α:Int)*u)
   rw [Int.natAbs_mul,Int.natAbs_mul,Int.natAbs_natCast,Int.natAbs_natCast] at h1
   have h2:=Nat.mul_le_mul_left β g1
   have h3:=Nat.mul_le_mul_left α g2
   have h4:N*E=β*N+α*N:=by rw [<-es,Nat.mul_comm,Nat.add_mul,Nat.add_comm]
   omega
theorem ank {a b:Rat} {E:Nat} (ha:uQ E a) (hb:uQ E b) {n j D N:Nat} (hj:j<=n) {f:Nat->Rat} (h:∀ i,i<=n->ck D N (f i)):ck (D*E ^ n) (N*E ^ n) (oX a b n f j):=by
 have h1:∀ m,m<=n-j->ck (D*E ^ j) (N*E ^ j) (sI b j f m):=fun m hm=>by
  rw [rD]
  exact adq hb j _ fun i hi=>h _ J
 unfold oX
 rw [rD]
 have:=adq ha (n-j) (fun i=>sI b j f (0+i)) fun i hi=>h1 (0+i) J
 rw [Nat.mul_assoc,Nat.mul_assoc,<-Nat.pow_add,Nat.add_sub_cancel' hj] at this
 exact this
structure cvC (po:List aF) (d D N:Nat):Prop where
 n:∀ k i,i<=d->ck D N ((bj po k).getD i 0)
 w:∀ i,i<=d->ck D N ((aX po).getD i 0)
theorem aAS {po:List aF} {d R:Nat} (h:jW po d R) {x y:Rat} (fx:0<=x) (eX:x<1) (gW:0<=y) (jZ:y<=1) {D N E k:Nat} (hD:0<D) (hE:0<E) (hx:uQ E x) (hy:uQ E y) (hc:cvC po d D N)
  (hN:N*E ^ d<4294967296 ^ k) (ef:D*E ^ d<4294967296 ^ k) (hk:1<=k):jW (jR po x y) d k:=by
 have hl:=h.hl
 have hDE:0<D*E ^ d:=Nat.mul_pos hD (Nat.pow_pos hE)
 refine⟨by rw [qy,hl],h.hd,h.h6,fun q hq=>?_⟩
 obtain⟨j,hj,rfl⟩:=List.mem_map.1 hq
 have hj:j<po.length:=by simpa using hj
 have hw:ck (D*E ^ d) (N*E ^ d) ((dI (aX po) x y).getD j 0):=by
  rw [adI h eX J]
  exact ank hx hy J fun i hi=>hc.w i hi
 have hn:∀ k,ck (D*E ^ d) (N*E ^ d) ((dI (bj po k) x y).getD j 0):=fun k=>by
  rw [abK h eX k J]
  exact ank hx hy J fun i hi=>hc.n k i hi
 exact⟨⟨(hn 0).div hw hDE hN hk,(hn 1).div hw hDE hN hk,(hn 2).div hw hDE hN hk⟩,hw.rl hDE hN ef hk,af5 h fx eX gW jZ J⟩
theorem anR {p:List Rat} {x:Rat} {R:Nat} (hp:∀ z∈p,rl z<=R) (hx:rl x<=4):rl (cL p x)<=(R+11)*2 ^ p.length:=by
 have h5:=iq 1 x
 rw [show rl 1=1 from rfl] at h5
 have kI:0<2 ^ p.length:=Nat.pow_pos ai
 have h:∀ z∈p,(rl z+11)*2 ^ p.length<=(R+11)*2 ^ p.length:=fun z hz=>Nat.mul_le_mul_right _ (by have:=hp z hz;omega)
 have h1:1<=(R+11)*2 ^ p.length:=Nat.mul_pos J kI
 exact fR h1 (fun z hz=>by have:=ag9 (C:=11) J p.length p rfl h z hz;omega) _
theorem auu {po:List aF} {d:Nat} {W x:Rat} (h3:d<=3) (h:mq po d 100) (hW:rl W<=200) (hx:rl x<=4):cj 3700000 (ai5 W po x):=by
 have h5:=h.d5
 have hd:=h.c.hd
 have w:=h.w
 have hw:=anR w.2 hx
 have gO:2 ^ (aX po).length<=2 ^ 4:=Nat.pow_le_pow_right ai J
 have hw2:rl (cL (aX po) x)<=111*2 ^ 4:=Nat.le_trans hw (Nat.mul_le_mul_left _ gO)
 have ht:∀ k,rl (cL (fD po k) x)<=48802*2 ^ 6:=fun k=>by
  have t:=h.t k
  have h1:=anR t.2 hx
  have h2:2 ^ (fD po k).length<=2 ^ 6:=Nat.pow_le_pow_right ai J
  exact Nat.le_trans h1 (Nat.le_trans (Nat.mul_le_mul_left _ h2) J)
 have m0:=cO (cL (aX po) x) (cL (aX po) x)
 have m1:=cO W (cL (aX po) x*cL (aX po) x)
 have m2:=oT 1 (W*(cL (aX po) x*cL (aX po) x))
 have r1:rl 1=1:=rfl
 have g:∀ k,rl (1/(W*(cL (aX po) x*cL (aX po) x))*cL (fD po k) x)<=3700000:=fun k=>by
  have m3:=cO (1/(W*(cL (aX po) x*cL (aX po) x))) (cL (fD po k) x)
  have:=ht k
  omega
 exact⟨g 0,g 1,g 2⟩
theorem axN {po:List aF} {d:Nat} {W:Rat} (h:mq po d 100) (hW:rl W<=200):nw 20000000 (abk W po):=by
 have g:∀ k,cZ 20000000 (zD W po k):=fun k=>(aqe (h.qu k) (show cZ 200 (W,W) from ⟨hW,hW⟩)).le J
 exact⟨g 0,g 1,g 2⟩
theorem az0 (S T:oE) (u v:V3) (l m:List V3):oK S T u v l m<=4:=by
 unfold oK
 split
 ·omega
 ·split
  ·omega
  ·split<;>omega
theorem awY {s:Sp} (h:s.1<s.2):(iW s-s.1)/(s.2-s.1)=1/2:=by
 have e:=ajO (s.1+s.2)
 have hn:s.2-s.1≠0:=by grind
 have:iW s-s.1=1/2*(s.2-s.1):=by
  show (s.1+s.2)/2-s.1=_
  grind
 rw [this,Rat.mul_div_cancel hn]
structure gJ where
 d:Nat
 a:Rat
 b:Rat
 po:List aF
def hY (q:gJ):cI:=(q.d,bl q.d q.a q.b,q.po)
structure yR (q:gJ) (Dp D N:Nat):Prop where
 d5:q.d<=3
 ab:q.a<q.b
 ra:rl q.a<=30
 rb:rl q.b<=30
 c:jW q.po q.d 1000
 cc:cvC q.po q.d D N
 D0:0<D
 hN:N*(2 ^ Dp) ^ q.d<4294967296 ^ 100
 hD:D*(2 ^ Dp) ^ q.d<4294967296 ^ 100
def ff (q:gJ) (s:Sp):List aF:=jR q.po ((s.1-q.a)/(q.b-q.a)) ((s.2-q.a)/(q.b-q.a))
def lkU (q:gJ) (s:Sp):V3:=ai5 (s.2-s.1) (ff q s) ((iW s-s.1)/(s.2-s.1))
def tb (p q:gJ):iV:=fun A B =>
 vL (nV ((ff p (A.getD 0 default)).map aF.p)) (nV ((ff q (B.getD 0 default)).map aF.p))
  (oK (abk ((A.getD 0 default).2-(A.getD 0 default).1) (ff p (A.getD 0 default))) (abk ((B.getD 0 default).2-(B.getD 0 default).1) (ff q (B.getD 0 default))) (lkU p (A.getD 0 default)) (lkU q (B.getD 0 default)) ((ff p (A.getD 0 default)).map aF.p) ((ff q (B.getD 0 default)).map aF.p))
structure sdK (q:gJ) (s:Sp):Prop where
 len:(ff q s).length=q.d+1
 cv:mq (ff q s) q.d 100
 pos:∀ z∈(ff q s).map aF.p,cj 100 z
 box:nw 100 (nV ((ff q s).map aF.p))
 spd:nw 20000000 (abk (s.2-s.1) (ff q s))
 tan:cj 3700000 (lkU q s)
 cut:av Tryz.prog 43 [.agg [ah q.d,.list 3 ((bl q.d q.a q.b).map ae),.list 12 (q.po.map aT)],ae s.1,ae s.2] (.a7 [.agg [ah q.d,.list 3 ((bl q.d s.1 s.2).map ae),.list 12 ((ff q s).map aT)],iL 0])
 bx:av Tryz.prog 45 [.agg [ah q.d,.list 3 ((bl q.d s.1 s.2).map ae),.list 12 ((ff q s).map aT)]] (lM (nV ((ff q s).map aF.p)))
 sp:av Tryz.prog 100 [.agg [ah q.d,.list 3 ((bl q.d s.1 s.2).map ae),.list 12 ((ff q s).map aT)]] (lM (abk (s.2-s.1) (ff q s)))
 dom:av Tryz.prog 41 [.agg [ah q.d,.list 3 ((bl q.d s.1 s.2).map ae),.list 12 ((ff q s).map aT)]] (aD s)
 mid:av Tryz.prog 105 [aD s] (ae (iW s))
 tg:av Tryz.prog 104 [.agg [ah q.d,.list 3 ((bl q.d s.1 s.2).map ae),.list 12 ((ff q s).map aT)],ae (iW s)] (.a7 [aS (lkU q s),iL 0])
 ends:av Tryz.prog 111 [.agg [ah q.d,.list 3 ((bl q.d s.1 s.2).map ae),.list 12 ((ff q s).map aT)]] (.a7 [aS ((ff q s).getD 0 default).p,aS ((ff q s).getD ((ff q s).length-1) default).p])
theorem alT {q:gJ} {Dp D N:Nat} (h:yR q Dp D N) (hDp:Dp<=23) {σ:Sp} (hs:lX Dp σ):sdK q (cK q.a q.b σ):=by
 obtain⟨s1,s2,s3,s4,s5⟩:=hs
 have zg:lX Dp σ:=⟨s1,s2,s3,s4,s5⟩
 have cu:=h.ab
 have amx:=zg.rl J
 have hra:=h.ra
 have hrb:=h.rb
 have h5:=h.d5
 have hc:=h.c
 have r1:=ub hra hrb amx.1
 have r2:=ub hra hrb amx.2
 have eC:ff q (cK q.a q.b σ)=jR q.po σ.1 σ.2:=by
  unfold ff
  rw [show ((cK q.a q.b σ).1-q.a)/(q.b-q.a)=σ.1 from uY cu σ.1,show ((cK q.a q.b σ).2-q.a)/(q.b-q.a)=σ.2 from uY cu σ.2]
 have eX:σ.1<1:=by grind
 have gW:0<=σ.2:=by grind
 have akI:σ.1<=1:=by grind
 have vx:=aqx s1 s3 akI
 have ri:=aqx s2 gW s5
 have hE:0<2 ^ Dp:=Nat.pow_pos ai
 have hR:=aAS hc s3 eX gW s5 (k:=100) h.D0 hE vx ri h.cc h.hN h.hD ai
 have oL:mq (ff q (cK q.a q.b σ)) q.d 100:=by rw [eC];exact⟨hR,J,by decide,by decide⟩
 have bE:(cK q.a q.b σ).1<(cK q.a q.b σ).2:=aaz cu s4
 have azD:=aqN cu s3 akI
 have aue:=aqN cu gW s5
 have e1:=iq 1 σ.1
 have e2:=iq 1 σ.2
 have rr1:rl 1=1:=rfl
 have ew:=iq (cK q.a q.b σ).2 (cK q.a q.b σ).1
 have r1':rl (cK q.a q.b σ).1<=95:=by show rl (q.a+(q.b-q.a)*σ.1)<=_;omega
 have r2':rl (cK q.a q.b σ).2<=95:=by show rl (q.a+(q.b-q.a)*σ.2)<=_;omega
 have hW:rl ((cK q.a q.b σ).2-(cK q.a q.b σ).1)<=200:=by omega
 have za:=atY bE
 have hmr:rl (iW (cK q.a q.b σ))<=95:=by
  rw [ajs]
  have hm:=(zg.half.1).rl (show Dp+1<=24 by omega)
  have:=ub hra hrb hm.2
  have e:(nW σ).2=iW σ:=rfl
  rw [e] at this
  omega
 have hlen:(ff q (cK q.a q.b σ)).length=q.d+1:=oL.c.hl
 have kI:∀ z∈(ff q (cK q.a q.b σ)).map aF.p,cj 100 z:=fun z hz=>by
  obtain⟨y,hy,rfl⟩:=List.mem_map.1 hz
  exact(oL.c.ok y hy).1
 have hbx:nw 100 (nV ((ff q (cK q.a q.b σ)).map aF.p)):=by
  have hb:∀ i,i<((ff q (cK q.a q.b σ)).map aF.p).length->cj 100 (((ff q (cK q.a q.b σ)).map aF.p).getD i default):=fun i hi=>by
   rw [List.getD_eq_getElem?_getD,List.getElem?_eq_getElem hi]
   exact kI _ (List.getElem_mem hi)
  have hl0:((ff q (cK q.a q.b σ)).map aF.p).length-1<((ff q (cK q.a q.b σ)).map aF.p).length:=by rw [List.length_map,hlen];omega
  exact⟨acz hb 0 _ hl0,acz hb 1 _ hl0,acz hb 2 _ hl0⟩
 have az9:=awY bE
 have hrh:rl ((iW (cK q.a q.b σ)-(cK q.a q.b σ).1)/((cK q.a q.b σ).2-(cK q.a q.b σ).1))<=4:=by rw [az9];decide +kernel
 have aqU:=asr q.d q.a q.b q.po J J cu J (cK q.a q.b σ).1 (cK q.a q.b σ).2 σ.1 σ.2 J J azD.1 bE aue.2 (uY cu σ.1) (uY cu σ.2) eX J J 1000 ai hc (fun k z hz=>Nat.le_trans (adN hc.ok k z hz) ai) (fun z hz=>Nat.le_trans (abZ hc.ok z hz) ai) s3 gW s5
 rw [<-eC] at aqU
 exact⟨hlen,oL,kI,hbx,axN oL hW,auu h5 oL hW hrh,aqU,az1 _ _ _ 100 ai oL.c,axu _ _ _ _ J J bE J 100 oL,af2 _ _ _ _ J J bE J,amt _ J,avX _ _ _ _ J J bE J 100 oL _ _ J za.1 za.2 rfl J,ayn _ _ _ 100 ai oL.c⟩
theorem ayR {p q:gJ} {Dp D N D' N':Nat} (hp:yR p Dp D N) (hq:yR q Dp D' N') (hDp:Dp<=23):adi Tryz.prog 42 [.bV (dv (hY p)),.bV (dv (hY q))] Dp 1 2 (tb p q) (qt Dp p.a p.b q.a q.b):=by
 have iM:=hp.ra
 have pj:=hp.rb
 have oR:=hq.ra
 have zr:=hq.rb
 refine att J hp.ab hq.ab J J J J (tb p q) (fun s t hs ht=>?_) (fun s t hs ht=>?_)
 ·have h1:=alT hp hDp hs
  have h2:=alT hq hDp ht
  have hpd:=hp.d5
  have hqd:=hq.d5
  have jJ:=h1.len
  have mc:=h2.len
  have hK:=aCr p.d q.d _ _ _ _ _ _ 20000000 ai h1.spd h2.spd _ _ _ _ _ _ 3700000 ai h1.tan h2.tan J J J J (fun z hz=>(h1.pos z hz).le ai) (fun z hz=>(h2.pos z hz).le ai) h1.sp h2.sp h1.dom h2.dom h1.mid h2.mid h1.tg h2.tg h1.ends h2.ends
  exact ayL p.d q.d _ _ _ _ p.po q.po _ _ _ _ _ _ 100 ai h1.box h2.box _ h1.cut h2.cut h1.bx h2.bx hK
 ·show (vL _ _ _).2.1<=4/\(vL _ _ _).2.2<=4
  unfold vL
  split
  ·exact⟨az0 _ _ _ _ _ _,Nat.zero_le _⟩
  ·exact⟨Nat.zero_le _,Nat.zero_le _⟩
theorem awK (d:Nat) (a t b:Rat) (po:List aF) (R R4:Nat) (h1:1<=d) (h6:d<=6) (bW:a<t) (df:t<b) (ha:rl a<=64) (ht:rl t<=64) (hb:rl b<=64) (hl:po.length=d+2) (eN:1<=R) (hR:R<=1000) (wJ:∀ q∈po,oF R q) (hQ:∀ q∈(po.map cS),n5 10000000 q) (hk:yr (bO d a t b) d) (hds:cT (bO d a t b) (bO d a t b).length=[a,t,b])
  (hR4:R4<=1000000000) (hA:∀ q∈kh d a t b (po.map cS),n5 R4 q/\0<q.w) (hZ:∀ q∈ka d a t b (po.map cS),n5 R4 q/\0<q.w) (hAl:(kh d a t b (po.map cS)).length<=200) (hZl:(ka d a t b (po.map cS)).length<=200) :
  av Tryz.prog 39 [.agg [ah d,.list 3 ((bO d a t b).map ae),.list 12 (po.map aT)]] (.list 3 ((([⟨d,a,t,(kh d a t b (po.map cS)).map dX⟩,⟨d,t,b,(ka d a t b (po.map cS)).map dX⟩]:List gJ).map hY).map dv)):=by
 have h3:=abl (d:=d) ha ht hb
 have hlen:=nN d a t b
 have hC:(po.map cS).length=d+2:=by rw [List.length_map,hl]
 have nv:∀ (x y:Rat),rl x<=64->rl y<=64->∀ z∈bl d x y,rl z<=1000:=fun x y hx hy z hz=>Nat.le_trans (aaR hx hy z hz) ai
 exact arh d (bO d a t b) [a,t,b] po (fun i=>if i=0 then kh d a t b (po.map cS) else ka d a t b (po.map cS)) 2 rfl ai J J h3 hds (apD d (bO d a t b) po hk J) (ak6 d (bO d a t b) po R eN hR J J (fun x hx=>Nat.le_trans (h3 x hx) ai) J wJ)
  (fun i hi=>by
   match i,hi with
   | 0,_=>exact az2 d a t b (po.map cS) 10000000 h1 h6 bW df ha ht hb hC ai ai hQ
   | 1,_=>exact axC d a t b (po.map cS) 10000000 h1 h6 bW df ha ht hb hC ai ai hQ)
  (fun i hi=>by
   match i,hi with
   | 0,_=>exact aiB d (bl d a t) _ R4 hR4 J (by rw [jT];omega) (nv a t ha ht) hAl hA
   | 1,_=>exact aiB d (bl d t b) _ R4 hR4 J (by rw [jT];omega) (nv t b ht hb) hZl hZ)
theorem ayj (d:Nat) (a t b:Rat):bO d a t b=kx d a [t] b:=by
 unfold bO kq kx
 simp
theorem aAZ {d:Nat} {a t b:Rat} (h1:1<=d) (bW:a<t) (df:t<b) (ht:rl t<=64):ahJ d a [t] b :=
 ⟨fun x hx=>by rw [List.mem_singleton.1 hx];exact⟨bW,df⟩,fun i hi=>by simp at hi,fun x hx=>by
  rw [List.mem_singleton.1 hx]
  have:=ace [t] t [t].length
  exact Nat.le_trans this h1,Nat.le_succ 1,fun x hx=>by rw [List.mem_singleton.1 hx];exact ht⟩
theorem awD {d:Nat} {a t b:Rat} (h1:1<=d) (h6:d<=6) (bW:a<t) (df:t<b) (ha:rl a<=64) (ht:rl t<=64) (hb:rl b<=64):yr (bO d a t b) d:=by
 rw [ayj]
 exact aoo h1 h6 ha hb cA (aAZ h1 bW df ht)
theorem an8 {d:Nat} {a t b:Rat}:∀ i,i+1<=d+1->cT (bO d a t b) (i+1)=[a]
 | 0,_=>by rw [cT,if_pos (.inl rfl),dS _ _ _ _ _ J,if_pos J];rfl
 | i+1,h=>by
  rw [abx J (by rw [dS _ _ _ _ _ J,dS _ _ _ _ _ J,if_pos J,if_pos J]),an8 i J]
theorem aCP {d:Nat} {a t b:Rat} (bW:a<t):cT (bO d a t b) (d+2)=[a,t]:=by
 rw [aeH J (by rw [dS _ _ _ _ _ J,dS _ _ _ _ _ J,if_neg J,if_pos J,if_pos J];grind),an8 d J,dS _ _ _ _ _ J,if_neg J,if_pos J];rfl
theorem arw {d:Nat} {a t b:Rat} (bW:a<t) (df:t<b):∀ i,i+1<=d+1->cT (bO d a t b) (d+2+(i+1))=[a,t,b]
 | 0,_=>by
  rw [<-Nat.add_assoc,aeH J (by rw [dS _ _ _ _ _ J,dS _ _ _ _ _ J,if_neg J,if_neg J,if_neg J,if_pos J];grind),Nat.add_zero,aCP bW,dS _ _ _ _ _ J,if_neg J,if_neg J];rfl
 | i+1,h=>by
  rw [<-Nat.add_assoc,abx J (by rw [dS _ _ _ _ _ J,dS _ _ _ _ _ J,if_neg J,if_neg J,if_neg J,if_neg J]),arw bW df i J]
theorem auN {d:Nat} {a t b:Rat} (bW:a<t) (df:t<b):cT (bO d a t b) (bO d a t b).length=[a,t,b]:=by
 have:=arw (d:=d) bW df d (Nat.le_refl _)
 rwa [show d+2+(d+1)=(bO d a t b).length by rw [nN];omega] at this
theorem ayg {x y f:Rat} (h0:0<=f) (h1:f<=1) (hx:0<x) (hy:0<y):0<x+f*(y-x):=by
 rcases Rat.le_total (a:=x) (b:=y) with g | g
 ·have:=Rat.mul_nonneg h0 (show 0<=y-x by grind)
  grind
 ·have:=Rat.mul_nonneg (show 0<=1-f by grind) (show 0<=x-y by grind)
  grind
theorem aBR {f:Nat->Rat} {v:List Rat} {j:Nat} (hf:∀ i,j<i->i<v.length->0<=f i/\f i<=1) (hv:∀ x∈v,0<x):∀ x∈nO f v j,0<x:=fun x hx=>by
 obtain⟨i,hi,rfl⟩:=acd hx
 rw [q7] at hi
 rw [vE f v j i hi]
 have a:=hv _ (dg hi)
 split
 ·rename_i g
  have h0:=hf i g hi
  have b:=hv _ (dg (show i-1<v.length by omega))
  exact ayg h0.1 h0.2 b a
 ·exact a
theorem aqO {F:Nat->Nat->Rat} {v:List Rat} {n:Nat} (hF:∀ r i,r<n->r<i->i<v.length->0<=F r i/\F r i<=1) (hv:∀ x∈v,0<x):∀ r,r<=n->∀ x∈cr F v r,0<x
 | 0,_=>hv
 | r+1,h=>aBR (fun i h1 h2=>hF r i J h1 (by rwa [vH] at h2)) (aqO hF hv r J)
theorem ck.scale {D N E:Nat} {x:Rat} (h:ck D N x):ck (D*E) (N*E) x:=by
 obtain⟨z,e,g⟩:=h
 refine⟨z*(E:Int),?_,?_⟩
 ·rw [yz,<-Rat.mul_assoc,e,Rat.intCast_mul]
 ·rw [Int.natAbs_mul,Int.natAbs_natCast];exact Nat.mul_le_mul_right _ g
theorem azE {D N E:Nat} {x y f:Rat} (hf:uQ E f) (hx:ck D N x) (hy:ck D N y):ck (D*E) (N*E) (x+f*(y-x)):=by
 obtain⟨α,β,e1,e2⟩:=hf
 have es:=uQ.sum e1 e2
 obtain⟨z,f1,g1⟩:=hx
 obtain⟨u,f2,g2⟩:=hy
 refine⟨(β:Int)*z+(α:Int)*u,?_,?_⟩
 ·rw [yz,Rat.intCast_add,Rat.intCast_mul,Rat.intCast_mul,<-e1,<-e2,<-f1,<-f2]
  grind
 ·have h1:=Int.natAbs_add_le ((β:Int)*z) ((α:Int)*u)
  rw [Int.natAbs_mul,Int.natAbs_mul,Int.natAbs_natCast,Int.natAbs_natCast] at h1
  have h2:=Nat.mul_le_mul_left β g1
  have h3:=Nat.mul_le_mul_left α g2
  have h4:N*E=β*N+α*N:=by rw [<-es,Nat.mul_comm,Nat.add_mul,Nat.add_comm]
  omega
theorem avx {f:Nat->Rat} {v:List Rat} {j D N E:Nat} (hf:∀ i,j<i->i<v.length->uQ E (f i)) (hv:∀ x∈v,ck D N x):∀ x∈nO f v j,ck (D*E) (N*E) x:=fun x hx=>by
 obtain⟨i,hi,rfl⟩:=acd hx
 rw [q7] at hi
 rw [vE f v j i hi]
 have a:=hv _ (dg hi)
 split
 ·rename_i g
  exact azE (hf i g hi) (hv _ (dg (show i-1<v.length by omega))) a
 ·exact a.scale
theorem amV {F:Nat->Nat->Rat} {v:List Rat} {n D N E:Nat} (hF:∀ r i,r<n->r<i->i<v.length->uQ E (F r i)) (hv:∀ x∈v,ck D N x):∀ r,r<=n->∀ x∈cr F v r,ck (D*E ^ r) (N*E ^ r) x
 | 0,_=>fun x hx=>by simpa using hv x hx
 | r+1,h=>fun x hx=>by
  rw [Nat.pow_succ,<-Nat.mul_assoc,<-Nat.mul_assoc]
  exact avx (fun i h1 h2=>hF r i J h1 (by rwa [vH] at h2)) (amV hF hv r J) x hx
def gi (c:cI):gJ:=⟨c.1,c.2.1.getD 0 0,c.2.1.getD (2*(c.1+1)-1) 0,c.2.2⟩
theorem wN (q:gJ):gi (hY q)=q:=by
 obtain⟨d,a,b,po⟩:=q
 show gJ.mk d ((bl d a b).getD 0 0) ((bl d a b).getD (2*(d+1)-1) 0) po=_
 rw [xZ,aai]
def ov (d w:Nat) (wd:Rat) (lA lB:List gJ):ll:=pG d w wd (fun c e=>tb (gi c) (gi e)) (fun c=>((gi c).a,(gi c).b)) (lA.map hY) (lB.map hY) (0,[])
theorem azg (d1 d2:Nat) (k1 k2:List Rat) (cg b8:List aF) (jJ:cg.length<=1000) (mc:b8.length<=1000) (uz:∀ x∈cg,x.p.z=0) (yi:∀ x∈b8,x.p.z=0) (lA lB:List gJ) (hA:lA.length<=10) (hB:lB.length<=10) (d w:Nat) (wd:Rat) (hd:d<=10) (hw:w<=4096) (hwd:rl wd<=100)
  (hVa:av Tryz.prog 37 [.agg [ah d,ah w,ae wd]] (bL true)) (z9:av Tryz.prog 39 [.agg [ah d1,.list 3 (k1.map ae),.list 12 (cg.map aT)]] (.list 3 ((lA.map hY).map dv))) (hP2:av Tryz.prog 39 [.agg [ah d2,.list 3 (k2.map ae),.list 12 (b8.map aT)]] (.list 3 ((lB.map hY).map dv)))
  (hKA:∀ q∈lA,∃ D N,yR q d D N) (hKB:∀ q∈lB,∃ D N,yR q d D N) :
  av Tryz.prog 14 [.agg [ah d1,.list 3 (k1.map ae),.list 12 (cg.map aT)],.agg [ah d2,.list 3 (k2.map ae),.list 12 (b8.map aT)],.agg [ah d,ah w,ae wd]] (.a7 [.list 4 ((ov d w wd lA lB).2.map eY),iL 0]):=by
 have uH:∀ (l:List gJ),(∀ q∈l,∃ D N,yR q d D N)->∀ c∈l.map hY,av Tryz.prog 41 [dv c] (aD ((gi c).a,(gi c).b)):=fun l hK c hc=>by
  obtain⟨q,hq,rfl⟩:=List.mem_map.1 hc
  obtain⟨D,N,h⟩:=hK q hq
  have h5:=h.d5
  have ha:=h.ra
  have hb:=h.rb
  rw [wN]
  exact af2 q.d q.a q.b q.po J J h.ab J
 refine ass d1 d2 k1 k2 cg b8 jJ mc uz yi (lA.map hY) (lB.map hY) ky ky d w wd hd hw hwd (fun c e=>tb (gi c) (gi e)) (fun c=>((gi c).a,(gi c).b)) (fun c e=>qt d (gi c).a (gi c).b (gi e).a (gi e).b) hVa z9 hP2 (uH lA hKA) (uH lB hKB) (fun c hc e he=>?_) (fun c hc e he=>agN ..)
 obtain⟨p,hp,rfl⟩:=List.mem_map.1 hc
 obtain⟨q,hq,rfl⟩:=List.mem_map.1 he
 obtain⟨D,N,h⟩:=hKA p hp
 obtain⟨D',N',h'⟩:=hKB q hq
 show adi _ _ _ d 1 2 (tb (gi (hY p)) (gi (hY q))) (qt d (gi (hY p)).a (gi (hY p)).b (gi (hY q)).a (gi (hY q)).b)
 rw [wN,wN]
 exact ayR h h' J
def qm (s:Sp) (x:Rat):Prop:=s.1<=x/\x<=s.2
def nA (x:ez) (t u:Rat):Prop:=x.1.length=2/\x.2.2.length=2/\qm (x.1.getD 0 default) t/\qm (x.1.getD 1 default) u
def iz (c:gX) (t u:Rat):Prop:=qm (c.1.getD 0 default) t/\qm (c.2.1.getD 0 default) u
theorem aoy {s:Sp} {x:Rat} (h:qm s x):qm (nW s) x\/qm (oD s) x:=by
 rcases Rat.le_total (a:=x) (b:=iW s) with g | g
 ·exact .inl ⟨h.1,g⟩
 ·exact .inr ⟨g,h.2⟩
theorem anj {x:ez} {t u:Rat} (h:nA x t u):nA (lU x) t u\/nA (lQ x) t u:=by
 obtain⟨h1,h2,h3,h4⟩:=h
 have ha:eT x=0\/eT x=1:=by
  have:=aaW (t:=x.2.2) x.2.2.length (Nat.le_refl _) J
  unfold eT;omega
 obtain⟨l,n,m⟩:=x
 match l,h1 with
 | [s,r],_ =>
  unfold lU lQ xu
  rcases ha with g | g
  ·rw [g]
   rcases aoy h3 with k | k
   ·exact .inl ⟨rfl,by simpa using h2,k,h4⟩
   ·exact .inr ⟨rfl,by simpa using h2,k,h4⟩
  ·rw [g]
   rcases aoy h4 with k | k
   ·exact .inl ⟨rfl,by simpa using h2,h3,k⟩
   ·exact .inr ⟨rfl,by simpa using h2,h3,k⟩
theorem afP {x:ez} {t u:Rat} {v:Bool × Nat × Nat} (h:nA x t u):iz (mr 1 x v) t u:=by
 obtain⟨h1,h2,h3,h4⟩:=h
 obtain⟨l,n,m⟩:=x
 match l,h1 with
 | [s,r],_=>exact⟨h3,h4⟩
theorem aEa {D W:Nat} {wd:Rat} {lk:iV} {t u:Rat} (hk:∀ x,nA x t u->(lk (x.1.take 1) (x.1.drop 1)).1=false) {s:RunT} (h:(∃ x∈s.1,nA x t u)\/∃ c∈s.2.2,iz c t u):∃ c∈(rQ D W 1 wd lk s).2.2,iz c t u:=by
 have:=abF (D:=D) (W:=W) (na:=1) (wd:=wd) (lk:=lk) (fun s=>(∃ x∈s.1,nA x t u)\/∃ c∈s.2.2,iz c t u) (fun x st n cs hI=>by
  have wX:∀ (y:List ez) (wD:List gX),(∀ z∈st,z∈y)->(∀ c∈cs,c∈wD)->(nA x t u->(∃ z∈y,nA z t u)\/∃ c∈wD,iz c t u)->(∃ z∈y,nA z t u)\/∃ c∈wD,iz c t u:=fun y wD hy hc hx=>by
   rcases hI with⟨z,hz,g⟩ | ⟨c,vb,g⟩
   ·rcases List.mem_cons.1 hz with rfl | hz
    ·exact hx g
    ·exact .inl ⟨z,hy z hz,g⟩
   ·exact .inr ⟨c,hc c vb,g⟩
  rw [lR]
  split
  ·exact wX st _ (fun z hz=>hz) (fun c hc=>List.mem_append_left _ hc) (fun g=>.inr ⟨_,List.mem_append_right _ (List.mem_singleton.2 rfl),afP g⟩)
  ·split
   ·rename_i hd
    exact wX st cs (fun z hz=>hz) (fun c hc=>hc) (fun g=>by rw [hk x g] at hd;cases hd)
   ·split
    ·exact wX st _ (fun z hz=>hz) (fun c hc=>List.mem_append_left _ hc) (fun g=>.inr ⟨_,List.mem_append_right _ (List.mem_singleton.2 rfl),afP g⟩)
    ·refine wX (lU x :: lQ x :: st) cs (fun z hz=>by simp [hz]) (fun c hc=>hc) (fun g=>?_)
     rcases anj g with g | g
     ·exact .inl ⟨_,by simp,g⟩
     ·exact .inl ⟨_,by simp,g⟩) (fh D s.1) (Nat.le_refl _) h (abw D W 1 wd lk s)
 obtain⟨h1,h2⟩:=this
 rcases h1 with⟨x,hx,_⟩ | h1
 ·rw [h2] at hx;cases hx
 ·exact h1
theorem ayk {D W:Nat} {wd:Rat} {lk:iV} {t u:Rat} {s:RunT} (h:∃ c∈s.2.2,iz c t u):∃ c∈(rQ D W 1 wd lk s).2.2,iz c t u:=by
 have:=abF (D:=D) (W:=W) (na:=1) (wd:=wd) (lk:=lk) (fun s=>∃ c∈s.2.2,iz c t u) (fun x st n cs hI=>by
  obtain⟨c,hc,g⟩:=hI
  rw [lR]
  split
  ·exact⟨c,List.mem_append_left _ hc,g⟩
  ·split
   ·exact⟨c,hc,g⟩
   ·split
    ·exact⟨c,List.mem_append_left _ hc,g⟩
    ·exact⟨c,hc,g⟩) (fh D s.1) (Nat.le_refl _) h (abw D W 1 wd lk s)
 exact this.1
theorem aA1 {D W:Nat} {wd:Rat} {lk:iV} {t u:Rat} {I:ez->Prop} (hH:∀ x,I x->x.2.1<D->I (lU x)/\I (lQ x)) (hk:∀ x,I x->nA x t u->(lk (x.1.take 1) (x.1.drop 1)).1=false) {s:RunT} (h0:∀ x∈s.1,I x) (h:(∃ x∈s.1,nA x t u)\/∃ c∈s.2.2,iz c t u) :
  ∃ c∈(rQ D W 1 wd lk s).2.2,iz c t u:=by
 have:=abF (D:=D) (W:=W) (na:=1) (wd:=wd) (lk:=lk) (fun s=>(∀ x∈s.1,I x)/\((∃ x∈s.1,nA x t u)\/∃ c∈s.2.2,iz c t u)) (fun x st n cs yF=>by
  obtain⟨hA,hI⟩:=yF
  have fx:=hA x aO
  have cQ:∀ y∈st,I y:=fun y hy=>hA y (by simp [hy])
  have wX:∀ (y:List ez) (wD:List gX),(∀ z∈st,z∈y)->(∀ c∈cs,c∈wD)->(nA x t u->(∃ z∈y,nA z t u)\/∃ c∈wD,iz c t u)->(∃ z∈y,nA z t u)\/∃ c∈wD,iz c t u:=fun y wD hy hc hx=>by
   rcases hI with⟨z,hz,g⟩ | ⟨c,vb,g⟩
   ·rcases List.mem_cons.1 hz with rfl | hz
    ·exact hx g
    ·exact .inl ⟨z,hy z hz,g⟩
   ·exact .inr ⟨c,hc c vb,g⟩
  rw [lR]
  split
  ·exact⟨cQ,wX st _ (fun z hz=>hz) (fun c hc=>List.mem_append_left _ hc) (fun g=>.inr ⟨_,List.mem_append_right _ (List.mem_singleton.2 rfl),afP g⟩)⟩
  ·split
   ·rename_i hd
    exact⟨cQ,wX st cs (fun z hz=>hz) (fun c hc=>hc) (fun g=>by rw [hk x fx g] at hd;cases hd)⟩
   ·split
    ·exact⟨cQ,wX st _ (fun z hz=>hz) (fun c hc=>List.mem_append_left _ hc) (fun g=>.inr ⟨_,List.mem_append_right _ (List.mem_singleton.2 rfl),afP g⟩)⟩
    ·rename_i jC
     have bE:x.2.1<D:=by
      rcases Nat.lt_or_ge x.2.1 D with g | g
      ·exact g
      ·exact absurd (agp (x:=x) (wd:=wd) g) jC
     have hh:=hH x fx bE
     refine⟨fun y hy=>?_,wX (lU x :: lQ x :: st) cs (fun z hz=>by simp [hz]) (fun c hc=>hc) (fun g=>?_)⟩
     ·simp only [List.mem_cons] at hy
      rcases hy with rfl | rfl | hy
      ·exact hh.1
      ·exact hh.2
      ·exact cQ y hy
     ·rcases anj g with g | g
      ·exact .inl ⟨_,by simp,g⟩
      ·exact .inl ⟨_,by simp,g⟩) (fh D s.1) (Nat.le_refl _) ⟨h0,h⟩ (abw D W 1 wd lk s)
 obtain⟨⟨_,h1⟩,h2⟩:=this
 rcases h1 with⟨x,hx,_⟩ | h1
 ·rw [h2] at hx;cases hx
 ·exact h1
section
variable {d w:Nat} {wd:Rat} {lk:cI->cI->iV} {dm:cI->Sp} {t u:Rat}
theorem at5 {c e:cI} {s:ll} (h:∃ x∈s.2,iz x t u):∃ x∈(pg d w wd lk dm c e s).2,iz x t u:=ayk h
theorem ajh {c:cI}:∀ (l:List cI) {s:ll},(∃ x∈s.2,iz x t u)->∃ x∈(ny d w wd lk dm c l s).2,iz x t u
 | [],_,h=>h
 | e :: l,s,h=>ajh l (s:=pg d w wd lk dm c e s) (at5 h)
theorem ak5 {c e:cI} (hp:∀ s,∃ x∈(pg d w wd lk dm c e s).2,iz x t u):∀ (l:List cI) {s:ll},e∈l->∃ x∈(ny d w wd lk dm c l s).2,iz x t u
 | e' :: l,s,h=>by
  rcases List.mem_cons.1 h with rfl | h
  ·exact ajh l (hp s)
  ·exact ak5 hp l (s:=pg d w wd lk dm c e' s) h
theorem amR {m:List cI}:∀ (l:List cI) {s:ll},(∃ x∈s.2,iz x t u)->∃ x∈(pG d w wd lk dm l m s).2,iz x t u
 | [],_,h=>h
 | c :: l,s,h=>amR l (s:=ny d w wd lk dm c m s) (ajh m h)
theorem alO {c e:cI} {m:List cI} (he:e∈m) (hp:∀ s,∃ x∈(pg d w wd lk dm c e s).2,iz x t u):∀ (l:List cI) {s:ll},c∈l->∃ x∈(pG d w wd lk dm l m s).2,iz x t u
 | c' :: l,s,h=>by
  rcases List.mem_cons.1 h with rfl | h
  ·exact amR l (ak5 hp m he)
  ·exact alO he hp l (s:=ny d w wd lk dm c' m s) h
end
theorem azM {d w:Nat} {wd:Rat} {lA lB:List gJ} {p q:gJ} (hp:p∈lA) (hq:q∈lB) {t u:Rat} (ht:qm (p.a,p.b) t) (hu:qm (q.a,q.b) u)
  (hk:∀ x,qt d p.a p.b q.a q.b x->nA x t u->(tb p q (x.1.take 1) (x.1.drop 1)).1=false):∃ x∈(ov d w wd lA lB).2,iz x t u:=by
 refine alO (c:=hY p) (e:=hY q) (List.mem_map.2 ⟨q,hq,rfl⟩) (fun s=>?_) _ (List.mem_map.2 ⟨p,hp,rfl⟩)
 show ∃ x∈(rQ d w 1 wd (tb (gi (hY p)) (gi (hY q))) ([([((gi (hY p)).a,(gi (hY p)).b)]++[((gi (hY q)).a,(gi (hY q)).b)],0,List.replicate 2 0)],s.1,s.2)).2.2,iz x t u
 rw [wN,wN]
 refine aA1 (I:=qt d p.a p.b q.a q.b) (fun x=>aix) hk (fun x hx=>?_) (.inl ⟨_,List.mem_singleton.2 rfl,rfl,rfl,ht,hu⟩)
 rw [List.mem_singleton.1 hx]
 exact agN ..
theorem aAB {po:List aF} {d R:Nat} (h:jW po d R) {x:Rat} (h0:0<=x) (h1:x<=1) {k:Nat} (hk:k<3) {lo hi:Rat} (hb:∀ i,i<=d->lo<=(po.getD i default).p.at k/\(po.getD i default).p.at k<=hi):lo<=(mS po x).at k/\(mS po x).at k<=hi:=by
 have hl:=h.hl
 have fx:0<=1-x:=by grind
 have eX:0<1-x+x:=by grind
 have l1:=ac8 h
 have l2:=aa4 h k
 have hw:∀ i,i<=d->0<(po.getD i default).w:=fun i hi=>(h.ok _ (qM (po:=po) (j:=i) J)).2.2
 have ew:cL (aX po) x=fE (1-x) x d (fun i=>(po.getD i default).w):=by
  rw [s6 J,l1]
  exact qN _ _ _ _ _ fun i hi=>abc J
 have en:cL (bj po k) x=fE (1-x) x d (fun i=>(po.getD i default).w*(po.getD i default).p.at k):=by
  rw [s6 J,l2]
  exact qN _ _ _ _ _ fun i hi=>aaj J
 have hp:0<cL (aX po) x:=by rw [ew];exact abE fx h0 eX d _ hw
 have k1:0<=hi*cL (aX po) x+(-1)*cL (bj po k) x:=by
  rw [ew,en,<-aa3]
  refine aiq fx h0 d _ fun i lT=>?_
  have:=Rat.mul_nonneg (Rat.le_of_lt (hw i lT)) (show 0<=hi-(po.getD i default).p.at k by have:=(hb i lT).2;grind)
  grind
 have k2:0<=(-lo)*cL (aX po) x+1*cL (bj po k) x:=by
  rw [ew,en,<-aa3]
  refine aiq fx h0 d _ fun i lT=>?_
  have:=Rat.mul_nonneg (Rat.le_of_lt (hw i lT)) (show 0<=(po.getD i default).p.at k-lo by have:=(hb i lT).1;grind)
  grind
 have ek:(mS po x).at k=1/cL (aX po) x*cL (bj po k) x:=by
  match k,hk with
  | 0,_=>rfl
  | 1,_=>rfl
  | 2,_=>rfl
 rw [ek]
 have qx:=(an9 hp Rat.le_refl).1
 have aQ:cL (aX po) x≠0:=by grind
 have hr:1/cL (aX po) x*cL (aX po) x=1:=Rat.div_mul_cancel aQ
 have m1:=Rat.mul_nonneg (Rat.le_of_lt qx) k1
 have m2:=Rat.mul_nonneg (Rat.le_of_lt qx) k2
 clear ek hb ew en k1 k2
 generalize 1/cL (aX po) x=r at *
 generalize cL (aX po) x=w at *
 generalize cL (bj po k) x=n at *
 have q1:r*(hi*w+-1*n)=hi*(r*w)-r*n:=by grind
 have q2:r*(-lo*w+1*n)=r*n-lo*(r*w):=by grind
 rw [q1,hr] at m1
 rw [q2,hr] at m2
 constructor<;>grind
theorem arE {po:List aF} {d R:Nat} (h:jW po d R) {x:Rat} (h0:0<=x) (h1:x<=1) {k:Nat} (hk:k<3):(jP (po.map aF.p) k d).1<=(mS po x).at k/\(mS po x).at k<=(jP (po.map aF.p) k d).2:=by
 refine aAB h h0 h1 hk fun i hi=>?_
 have:=anA (po.map aF.p) k d i hi
 rwa [acZ (by have:=h.hl;omega)] at this
theorem aBU {s t:Rat × Rat} {x:Rat} (h1:s.1<=x/\x<=s.2) (h2:t.1<=x/\x<=t.2):kf s t=true:=by
 unfold kf
 refine decide_eq_true ?_
 unfold fO gg
 split<;>split<;>grind
theorem asJ {pa pb:List aF} {d e R S:Nat} (ha:jW pa d R) (hb:jW pb e S) {x y:Rat} (fx:0<=x) (eX:x<=1) (gW:0<=y) (jZ:y<=1) (he:mS pa x=mS pb y):meB (nV (pa.map aF.p)) (nV (pb.map aF.p))=true:=by
 have l1:=ha.hl
 have l2:=hb.hl
 have g:∀ k,k<3->kf (jP (pa.map aF.p) k ((pa.map aF.p).length-1)) (jP (pb.map aF.p) k ((pb.map aF.p).length-1))=true:=fun k hk=>by
  have e1:(pa.map aF.p).length-1=d:=by rw [List.length_map];omega
  have e2:(pb.map aF.p).length-1=e:=by rw [List.length_map];omega
  rw [e1,e2]
  have b1:=arE ha fx eX hk
  have b2:=arE hb gW jZ hk
  rw [<-he] at b2
  exact aBU b1 b2
 show (kf _ _ && kf _ _ && kf _ _)=true
 rw [show kf (nV (pa.map aF.p)).x (nV (pb.map aF.p)).x=true from g 0 ai,show kf (nV (pa.map aF.p)).y (nV (pb.map aF.p)).y=true from g 1 ai,show kf (nV (pa.map aF.p)).z (nV (pb.map aF.p)).z=true from g 2 ai]
 rfl
def zJ (q:gJ) (t:Rat):V3:=mS q.po ((t-q.a)/(q.b-q.a))
theorem acI {a b t:Rat} (h:a<b) (h1:a<=t) (h2:t<=b):0<=(t-a)/(b-a)/\(t-a)/(b-a)<=1:=by
 have hp:0<b-a:=by grind
 have hi:=(an9 hp Rat.le_refl).1
 have hr:1/(b-a)*(b-a)=1:=Rat.div_mul_cancel cA
 have e:(t-a)/(b-a)=1/(b-a)*(t-a):=by rw [Rat.div_def,Rat.div_def,Rat.one_mul,Rat.mul_comm]
 have m1:=Rat.mul_nonneg (Rat.le_of_lt hi) (show 0<=t-a by grind)
 have m2:=Rat.mul_nonneg (Rat.le_of_lt hi) (show 0<=b-t by grind)
 rw [e]
 generalize 1/(b-a)=r at *
 constructor
 ·exact m1
 ·have:r*(b-t)=r*(b-a)-r*(t-a):=by grind
  rw [this,hr] at m2
  grind
theorem aqI {q:gJ} {R:Nat} (hc:jW q.po q.d R) (cu:q.a<q.b) {σ:Sp} (h0:0<=σ.1) (hl:σ.1<σ.2) (h1:σ.2<=1) {t:Rat} (ht:qm (cK q.a q.b σ) t) :
  ∃ x,0<=x/\x<=1/\mS (ff q (cK q.a q.b σ)) x=zJ q t:=by
 have bE:(cK q.a q.b σ).1<(cK q.a q.b σ).2:=aaz cu hl
 have ho:=acI bE ht.1 ht.2
 refine⟨_,ho.1,ho.2,?_⟩
 have eC:ff q (cK q.a q.b σ)=jR q.po σ.1 σ.2:=by
  unfold ff
  rw [show ((cK q.a q.b σ).1-q.a)/(q.b-q.a)=σ.1 from uY cu σ.1,show ((cK q.a q.b σ).2-q.a)/(q.b-q.a)=σ.2 from uY cu σ.2]
 rw [eC,asm hc h0 cA cA h1]
 unfold zJ
 congr 1
 have hW:q.b-q.a≠0:=by grind
 have hD:(cK q.a q.b σ).2-(cK q.a q.b σ).1=(q.b-q.a)*(σ.2-σ.1):=by
  show q.a+(q.b-q.a)*σ.2-(q.a+(q.b-q.a)*σ.1)=_
  grind
 have hD0:(cK q.a q.b σ).2-(cK q.a q.b σ).1≠0:=by grind
 have e1:(t-(cK q.a q.b σ).1)/((cK q.a q.b σ).2-(cK q.a q.b σ).1)*((cK q.a q.b σ).2-(cK q.a q.b σ).1)=t-(cK q.a q.b σ).1:=Rat.div_mul_cancel hD0
 have e2:(t-q.a)/(q.b-q.a)*(q.b-q.a)=t-q.a:=Rat.div_mul_cancel hW
 have e3:(cK q.a q.b σ).1=q.a+(q.b-q.a)*σ.1:=rfl
 have e4:(σ.1+(t-(cK q.a q.b σ).1)/((cK q.a q.b σ).2-(cK q.a q.b σ).1)*(σ.2-σ.1))*(q.b-q.a)=(t-q.a)/(q.b-q.a)*(q.b-q.a):=by
  rw [e2]
  rw [hD] at e1
  rw [hD,e3]
  rw [e3] at e1
  generalize (t-(q.a+(q.b-q.a)*σ.1))/((q.b-q.a)*(σ.2-σ.1))=z at *
  grind
 have e5:=congrArg (·/(q.b-q.a)) e4
 simp only [Rat.mul_div_cancel hW] at e5
 exact e5
theorem avn {p q:gJ} {D R S:Nat} (hp:jW p.po p.d R) (hq:jW q.po q.d S) (tA:p.a<p.b) (x7:q.a<q.b) {t u:Rat} (he:zJ p t=zJ q u) :
  ∀ x,qt D p.a p.b q.a q.b x->nA x t u->(tb p q (x.1.take 1) (x.1.drop 1)).1=false:=fun x hx hh=>by
 obtain⟨s,r,i,j,e,f,_,_,hs,hr⟩:=hx
 obtain⟨_,_,h3,h4⟩:=hh
 rw [e] at h3 h4 ⊢
 obtain⟨x,x0,x1,ex⟩:=aqI hp tA hs.2.2.1 hs.2.2.2.1 hs.2.2.2.2 h3
 obtain⟨y,y0,y1,ey⟩:=aqI hq x7 hr.2.2.1 hr.2.2.2.1 hr.2.2.2.2 h4
 have c1:∃ R',jW (ff p (cK p.a p.b s)) p.d R':=by
  have eC:ff p (cK p.a p.b s)=jR p.po s.1 s.2:=by
   unfold ff
   rw [show ((cK p.a p.b s).1-p.a)/(p.b-p.a)=s.1 from uY tA s.1,show ((cK p.a p.b s).2-p.a)/(p.b-p.a)=s.2 from uY tA s.2]
  rw [eC]
  obtain⟨_,_,g0,g1,g2⟩:=hs
  have oL:jW p.po p.d (R+1):=⟨hp.hl,hp.hd,hp.h6,fun z hz=>⟨(hp.ok z hz).1.le J,Nat.le_trans (hp.ok z hz).2.1 J,(hp.ok z hz).2.2⟩⟩
  exact⟨_,al0 oL g0 cA cA g2 (Nat.le_add_right _ (rl (1-s.2)+rl s.2+1)) (Nat.le_add_left _ (rl (1-s.1)+rl s.1+1)) J⟩
 have c2:∃ R',jW (ff q (cK q.a q.b r)) q.d R':=by
  have eC:ff q (cK q.a q.b r)=jR q.po r.1 r.2:=by
   unfold ff
   rw [show ((cK q.a q.b r).1-q.a)/(q.b-q.a)=r.1 from uY x7 r.1,show ((cK q.a q.b r).2-q.a)/(q.b-q.a)=r.2 from uY x7 r.2]
  rw [eC]
  obtain⟨_,_,g0,g1,g2⟩:=hr
  have oL:jW q.po q.d (S+1):=⟨hq.hl,hq.hd,hq.h6,fun z hz=>⟨(hq.ok z hz).1.le J,Nat.le_trans (hq.ok z hz).2.1 J,(hq.ok z hz).2.2⟩⟩
  exact⟨_,al0 oL g0 cA cA g2 (Nat.le_add_right _ (rl (1-r.2)+rl r.2+1)) (Nat.le_add_left _ (rl (1-r.1)+rl r.1+1)) J⟩
 obtain⟨_,c1⟩:=c1
 obtain⟨_,c2⟩:=c2
 have hm:=asJ c1 c2 x0 x1 y0 y1 (by rw [ex,ey,he])
 show (vL (nV ((ff p (cK p.a p.b s)).map aF.p)) (nV ((ff q (cK q.a q.b r)).map aF.p)) _).1=false
 unfold vL
 rw [if_pos hm]
theorem ay1 {d w:Nat} {wd:Rat} {lA lB:List gJ} {p q:gJ} (hp:p∈lA) (hq:q∈lB) {R S:Nat} (hpc:jW p.po p.d R) (hqc:jW q.po q.d S) (tA:p.a<p.b) (x7:q.a<q.b) {t u:Rat} (ht:qm (p.a,p.b) t) (hu:qm (q.a,q.b) u)
  (he:zJ p t=zJ q u):∃ x∈(ov d w wd lA lB).2,iz x t u:=azM hp hq ht hu (avn hpc hqc tA x7 he)
theorem agU {d:Nat} {a t b:Rat} {args:List Rat} (bW:a<t) (df:t<b) (ha:∀ r,r<d->a<=args.getD r 0/\args.getD r 0<=t) {r j:Nat} (hr:r<d) (hj:r<j) (hd:j<d+1):0<=gF (bO d a t b) d d args r j/\gF (bO d a t b) d d args r j<=1:=by
 have e0:(bO d a t b).getD (d-d+j) 0=a:=by rw [dS _ _ _ _ _ J,if_pos J]
 have hK:t<=(bO d a t b).getD (d+j-r) 0:=by
  rw [dS _ _ _ _ _ J,if_neg J]
  split
  ·exact Rat.le_refl
  ·exact Rat.le_of_lt df
 have h:=ha r hr
 unfold gF
 rw [e0]
 exact acI cA h.1 cA
theorem are {d:Nat} {a t b:Rat} {args:List Rat} (bW:a<t) (df:t<b) (ha:∀ r,r<d->t<=args.getD r 0/\args.getD r 0<=b) {r j:Nat} (hr:r<d) (hj:r<j) (hd:j<d+1):0<=gF (bO d a t b) d (d+1) args r j/\gF (bO d a t b) d (d+1) args r j<=1:=by
 have e0:(bO d a t b).getD (d+1-d+j) 0<=t:=by
  rw [dS _ _ _ _ _ J]
  split
  ·exact Rat.le_of_lt bW
  ·rw [if_pos J];exact Rat.le_refl
 have hK:(bO d a t b).getD (d+1+j-r) 0=b:=by rw [dS _ _ _ _ _ J,if_neg J,if_neg J]
 have h:=ha r hr
 unfold gF
 rw [hK]
 exact acI cA cA h.2
theorem adU {n m r:Nat} {x y:Rat} (h:r<n+m):(List.replicate n x++List.replicate m y).getD r 0=x\/(List.replicate n x++List.replicate m y).getD r 0=y:=by
 have hm:(List.replicate n x++List.replicate m y).getD r 0∈List.replicate n x++List.replicate m y:=dg lr
 rcases List.mem_append.1 hm with g | g
 ·exact .inl (List.mem_replicate.1 g).2
 ·exact .inr (List.mem_replicate.1 g).2
theorem adP {k:List Rat} {d pc:Nat} {v args:List Rat} (hv:∀ x∈v,0<x) (hl:pc+1<=v.length) (hp:d<=pc) (hF:∀ r j,r<d->r<j->j<d+1->0<=gF k d pc args r j/\gF k d pc args r j<=1):0<da k d pc v args:=by
 unfold da
 have hlen:((v.drop (pc-d)).take (d+1)).length=d+1:=by rw [List.length_take,List.length_drop];omega
 refine aqO (n:=d) (fun r i h1 h2 h3=>hF r i h1 h2 J) (fun x hx=>hv x (List.mem_of_mem_drop (List.mem_of_mem_take hx))) d (Nat.le_refl _) _ (dg ?_)
 rw [vH,hlen];omega
theorem ah8 {d:Nat} {a t b:Rat} {C:List Q4} (bW:a<t) (df:t<b) (hC:C.length=d+2) (hw:∀ q∈C,0<q.w):∀ q∈kh d a t b C,0<q.w:=fun q hq=>by
 obtain⟨j,hj,rfl⟩:=List.mem_map.1 hq
 have hj:j<d+1:=List.mem_range.1 hj
 refine adP (fun x hx=>?_) ky (Nat.le_refl _) (fun r i h1 h2 h3=>agU bW df (fun r hr=>?_) h1 h2 h3)
 ·obtain⟨z,hz,rfl⟩:=List.mem_map.1 hx;exact hw z hz
 ·rcases adU (n:=d-j) (m:=j) (x:=a) (y:=t) (r:=r) J with e | e<;>rw [e]<;>constructor<;>grind
theorem agT {d:Nat} {a t b:Rat} {C:List Q4} (bW:a<t) (df:t<b) (hC:C.length=d+2) (hw:∀ q∈C,0<q.w):∀ q∈ka d a t b C,0<q.w:=fun q hq=>by
 obtain⟨i,hi,rfl⟩:=List.mem_map.1 hq
 have hi:i<d+1:=List.mem_range.1 hi
 have hwm:∀ x∈C.map (·.w),0<x:=fun x hx=>by obtain⟨z,hz,rfl⟩:=List.mem_map.1 hx;exact hw z hz
 by_cases c:i=0
 ·rw [if_pos c]
  refine adP hwm ky (Nat.le_refl _) (fun r j h1 h2 h3=>agU bW df (fun r hr=>?_) h1 h2 h3)
  subst c
  rcases adU (n:=d-0) (m:=0) (x:=t) (y:=b) (r:=r) J with e | e
  ·rw [e];constructor<;>grind
  ·have:(List.replicate (d-0) t++List.replicate 0 b).getD r 0=t:=by
    rw [List.replicate_zero,List.append_nil]
    exact(List.mem_replicate.1 (dg (p:=List.replicate (d-0) t) (i:=r) (by simpa using hr))).2
   rw [this];constructor<;>grind
 ·rw [if_neg c]
  refine adP hwm ky J (fun r j h1 h2 h3=>are bW df (fun r hr=>?_) h1 h2 h3)
  rcases adU (n:=d-i) (m:=i) (x:=t) (y:=b) (r:=r) J with e | e<;>rw [e]<;>constructor<;>grind
theorem uQ.scale {E F:Nat} {x:Rat} (h:uQ E x):uQ (E*F) x:=by
 obtain⟨α,β,e1,e2⟩:=h
 refine⟨α*F,β*F,?_,?_⟩
 ·rw [yz,yz,<-Rat.mul_assoc,e1]
 ·rw [yz,yz,<-Rat.mul_assoc,e2]
theorem az6 {x p q:Rat} {M:Nat} {X P Q:Int} (hM:0<M) (hx:x*((M:Int):Rat)=(X:Rat)) (hp:p*((M:Int):Rat)=(P:Rat)) (hq:q*((M:Int):Rat)=(Q:Rat)) (h1:p<=x) (h2:x<=q) (hpq:p<q):uQ (Q-P).toNat ((x-p)/(q-p)):=by
 have hm:=ab6 hM
 have hn:q-p≠0:=by grind
 have a1:((X-P:Int):Rat)=(x-p)*((M:Int):Rat):=by rw [Rat.intCast_sub,<-hx,<-hp];grind
 have a2:((Q-X:Int):Rat)=(q-x)*((M:Int):Rat):=by rw [Rat.intCast_sub,<-hx,<-hq];grind
 have a3:((Q-P:Int):Rat)=(q-p)*((M:Int):Rat):=by rw [Rat.intCast_sub,<-hp,<-hq];grind
 have z1:0<=X-P:=Rat.intCast_nonneg.1 (by rw [a1];exact Rat.mul_nonneg cA (Rat.le_of_lt hm))
 have z2:0<=Q-X:=Rat.intCast_nonneg.1 (by rw [a2];exact Rat.mul_nonneg cA (Rat.le_of_lt hm))
 have z3:0<=Q-P:=by omega
 have e:=Rat.div_mul_cancel (a:=x-p) hn
 refine⟨(X-P).toNat,(Q-X).toNat,?_,?_⟩
 ·rw [Int.toNat_of_nonneg z3,Int.toNat_of_nonneg z1,a3,a1,<-Rat.mul_assoc,e]
 ·rw [Int.toNat_of_nonneg z3,Int.toNat_of_nonneg z2,a3,a2,<-Rat.mul_assoc]
  have:(1-(x-p)/(q-p))*(q-p)=(q-p)-(x-p)/(q-p)*(q-p):=by grind
  rw [this,e]
  grind
theorem ajc {k:List Rat} {d pc D N E:Nat} {v args:List Rat} (hv:∀ x∈v,ck D N x) (hl:pc+1<=v.length) (hp:d<=pc) (hF:∀ r j,r<d->r<j->j<d+1->uQ E (gF k d pc args r j)):ck (D*E ^ d) (N*E ^ d) (da k d pc v args):=by
 unfold da
 have hlen:((v.drop (pc-d)).take (d+1)).length=d+1:=by rw [List.length_take,List.length_drop];omega
 refine amV (n:=d) (fun r i h1 h2 h3=>hF r i h1 h2 J) (fun x hx=>hv x (List.mem_of_mem_drop (List.mem_of_mem_take hx))) d (Nat.le_refl _) _ (dg ?_)
 rw [vH,hlen];omega
theorem xt {n r:Nat} {x:Rat} (h:r<n):(List.replicate n x).getD r 0=x:=by
 rw [List.getD_eq_getElem?_getD,List.getElem?_replicate,if_pos h];rfl
theorem ary {k:List Rat} {d pc:Nat} {t:Rat} {v:List Rat} (hv:v.length=d+1) (hp:d<=pc) (hs:∀ i j,i<=pc->pc<j->j<=pc+d->k.getD i 0≠k.getD j 0):∀ e,e<=d ->
  sm (e+1) (fun j=>eG k pc t e (pc-e+j)*(cr (gF k d pc (List.replicate d t)) v (d-e)).getD (d-e+j) 0)=(cr (gF k d pc (List.replicate d t)) v d).getD d 0
 | 0,_=>by
  show 0+eG k pc t 0 (pc-0+0)*_=_
  rw [eG,if_pos J,Rat.zero_add,Rat.one_mul]
  rfl
 | e+1,he=>by
  rw [<-ary (t:=t) hv hp hs e J]
  obtain⟨C,hC⟩:∃ C,C=cr (gF k d pc (List.replicate d t)) v (d-(e+1)):=⟨_,rfl⟩
  have hCl:C.length=d+1:=by rw [hC,vH,hv]
  obtain⟨N,hN⟩:∃ N:Nat->Rat,N=fun j=>eG k pc t e (pc-e+j):=⟨_,rfl⟩
  obtain⟨A,hA⟩:∃ A:Nat->Rat,A=fun j=>(t-k.getD (pc-e+j) 0)/(k.getD (pc+j+1) 0-k.getD (pc-e+j) 0):=⟨_,rfl⟩
  have hC':∀ j,j<=e->(cr (gF k d pc (List.replicate d t)) v (d-e)).getD (d-e+j) 0=C.getD (d-(e+1)+j) 0+A j*(C.getD (d-(e+1)+(j+1)) 0-C.getD (d-(e+1)+j) 0):=fun j hj=>by
   rw [show d-e=d-(e+1)+1 by omega,cr,<-hC,vE _ _ _ _ J,if_pos J,hA,gF,xt J,show d-(e+1)+1+j-1=d-(e+1)+j by omega,show d-(e+1)+(j+1)=d-(e+1)+1+j by omega,show pc-d+(d-(e+1)+1+j)=pc-e+j by omega,show pc+(d-(e+1)+1+j)-(d-(e+1))=pc+j+1 by omega]
  have cQ:∀ j,j<=e+1->eG k pc t (e+1) (pc-(e+1)+j)=(if 1<=j then A (j-1)*N (j-1) else 0)+(if j<=e then(1-A j)*N j else 0):=fun j hj=>by
   rw [eG,if_neg J]
   congr 1
   ·by_cases h1:1<=j
    ·rw [if_pos h1,hA,hN,show pc-(e+1)+j+(e+1)=pc+(j-1)+1 by omega,show pc-(e+1)+j=pc-e+(j-1) by omega]
    ·rw [if_neg h1]
     have hz:eG k pc t e (pc-(e+1)+j)=0:=by
      cases e with
      | zero=>rw [eG,if_neg J]
      | succ e=>rw [eG,if_pos (.inr J)]
     rw [hz,Rat.mul_zero]
   ·by_cases h1:j<=e
    ·rw [if_pos h1,hA,hN,show pc-(e+1)+j+(e+1)+1=pc+j+1 by omega,show pc-(e+1)+j+1=pc-e+j by omega]
     congr 1
     have aQ:=hs (pc-e+j) (pc+j+1) J J J
     have c1:(t-k.getD (pc-e+j) 0)/(k.getD (pc+j+1) 0-k.getD (pc-e+j) 0)*(k.getD (pc+j+1) 0-k.getD (pc-e+j) 0)=t-k.getD (pc-e+j) 0:=Rat.div_mul_cancel cA
     have c2:k.getD (pc+j+1) 0-t=(1-(t-k.getD (pc-e+j) 0)/(k.getD (pc+j+1) 0-k.getD (pc-e+j) 0))*(k.getD (pc+j+1) 0-k.getD (pc-e+j) 0):=by grind
     rw [c2,Rat.mul_div_cancel cA]
    ·rw [if_neg h1]
     have hz:eG k pc t e (pc-(e+1)+j+1)=0:=by
      cases e with
      | zero=>rw [eG,if_neg J]
      | succ e=>rw [eG,if_pos (.inl J)]
     rw [hz,Rat.mul_zero]
  have e1:sm (e+1+1) (fun j=>eG k pc t (e+1) (pc-(e+1)+j)*C.getD (d-(e+1)+j) 0) =
    sm (e+2) (fun j=>(if 1<=j then A (j-1)*N (j-1)*C.getD (d-(e+1)+j) 0 else 0))+sm (e+2) (fun j=>if j<=e then(1-A j)*N j*C.getD (d-(e+1)+j) 0 else 0):=by
   rw [<-afj]
   refine wS _ _ _ fun j hj=>?_
   rw [cQ j J]
   split<;>split<;>grind
  have e2:sm (e+2) (fun j=>(if 1<=j then A (j-1)*N (j-1)*C.getD (d-(e+1)+j) 0 else 0))=sm (e+1) (fun j=>A j*N j*C.getD (d-(e+1)+(j+1)) 0):=by
   rw [aoB,if_neg J,Rat.zero_add]
   refine wS _ _ _ fun j hj=>?_
   rw [if_pos J,Nat.add_sub_cancel]
  have e3:sm (e+2) (fun j=>if j<=e then(1-A j)*N j*C.getD (d-(e+1)+j) 0 else 0)=sm (e+1) (fun j=>(1-A j)*N j*C.getD (d-(e+1)+j) 0):=by
   rw [sm,if_neg J,Rat.add_zero]
   refine wS _ _ _ fun j hj=>?_
   rw [if_pos J]
  rw [<-hC,e1,e2,e3,<-afj]
  refine wS _ _ _ fun j hj=>?_
  rw [hC' j J,show eG k pc t e (pc-e+j)=N j by rw [hN]]
  grind
theorem abr {k:List Rat} {d pc:Nat} {t:Rat} {v:List Rat} (hv:pc+1<=v.length) (hp:d<=pc) (hs:∀ i j,i<=pc->pc<j->j<=pc+d->k.getD i 0≠k.getD j 0) :
  sm (d+1) (fun j=>eG k pc t d (pc-d+j)*v.getD (pc-d+j) 0)=da k d pc v (List.replicate d t):=by
 unfold da
 rw [<-ary (t:=t) (by rw [List.length_take,List.length_drop];omega) hp hs d (Nat.le_refl _)]
 refine wS _ _ _ fun j hj=>?_
 rw [Nat.sub_self,cr,Nat.zero_add]
 congr 1
 simp only [List.getD_eq_getElem?_getD,List.getElem?_take,List.getElem?_drop]
 rw [if_pos hj]
theorem zn (F:Nat->Nat->Rat) (a b:Rat):(cr F [a,b] 1).getD 1 0=a+F 0 1*(b-a):=rfl
theorem wO (F:Nat->Nat->Rat) (a b c:Rat):(cr F [a,b,c] 2).getD 2 0=(a+F 0 1*(b-a))+F 1 2*((b+F 0 2*(c-b))-(a+F 0 1*(b-a))):=rfl
theorem tC (F:Nat->Nat->Rat) (a b c d:Rat):(cr F [a,b,c,d] 3).getD 3 0 =
  ((a+F 0 1*(b-a))+F 1 2*((b+F 0 2*(c-b))-(a+F 0 1*(b-a))))+F 2 3*(((b+F 0 2*(c-b))+F 1 3*((c+F 0 3*(d-c))-(b+F 0 2*(c-b))))-((a+F 0 1*(b-a))+F 1 2*((b+F 0 2*(c-b))-(a+F 0 1*(b-a))))):=rfl
theorem afp {F G:Nat->Nat->Rat} {v:List Rat}:∀ n,(∀ r j,r<n->r<j->j<v.length->F r j=G r j)->cr F v n=cr G v n
 | 0,_=>rfl
 | n+1,h=>by
  rw [cr,cr,afp n fun r j h1 h2 h3=>h r j J h2 h3]
  unfold nO
  refine List.map_congr_left fun i hi=>?_
  have hi:=List.mem_range.1 hi
  rw [vH] at hi
  split
  ·rename_i g;rw [h n i J g hi]
  ·rfl
theorem apq {n m r:Nat} {x y:Rat} (h:r<n+m):(List.replicate n x++List.replicate m y).getD r 0=if r<n then x else y:=by
 rw [List.getD_eq_getElem?_getD,List.getElem?_append]
 simp only [List.length_replicate]
 split
 ·rw [List.getElem?_replicate,if_pos (by assumption)];rfl
 ·rw [List.getElem?_replicate,if_pos J];rfl
def qf (q:Rat) (X:Nat->Rat) (r j:Nat):Rat:=if j=r+1 then X r else X r*q
def uK (d:Nat) (q:Rat) (X:Nat->Rat) (r j:Nat):Rat:=if j=d then X r else q+X r*(1-q)
theorem ahO {d:Nat} {a t b:Rat} (bW:a<t) (cu:a<b) {args:List Rat} {r j:Nat} (hr:r<d) (hj:r<j) (hd:j<d+1):gF (bO d a t b) d d args r j=qf ((t-a)/(b-a)) (fun r=>(args.getD r 0-a)/(t-a)) r j:=by
 unfold gF qf
 rw [dS _ _ _ _ _ J,if_pos J,dS _ _ _ _ _ J,if_neg J]
 have h1:t-a≠0:=by grind
 have h2:b-a≠0:=by grind
 by_cases h:j=r+1
 ·rw [if_pos J,if_pos h]
 ·rw [if_neg J,if_neg h]
  grind
theorem akf {d:Nat} {a t b:Rat} (df:t<b) (cu:a<b) {args:List Rat} {r j:Nat} (hr:r<d) (hj:r<j) (hd:j<d+1):gF (bO d a t b) d (d+1) args r j=uK d ((t-a)/(b-a)) (fun r=>(args.getD r 0-t)/(b-t)) r j:=by
 unfold gF uK
 have eh:(bO d a t b).getD (d+1+j-r) 0=b:=by rw [dS _ _ _ _ _ J,if_neg J,if_neg J]
 have el:(bO d a t b).getD (d+1-d+j) 0=if j=d then t else a:=by
  rw [dS _ _ _ _ _ J]
  by_cases h:j=d
  ·rw [if_neg J,if_pos J,if_pos h]
  ·rw [if_pos J,if_neg h]
 rw [eh,el]
 have h1:b-t≠0:=by grind
 have h2:b-a≠0:=by grind
 by_cases h:j=d
 ·rw [if_pos h,if_pos h]
 ·rw [if_neg h,if_neg h]
  show (args.getD r 0-a)/(b-a)=(t-a)/(b-a)+(args.getD r 0-t)/(b-t)*(1-(t-a)/(b-a))
  generalize args.getD r 0=x
  clear eh el
  grind
theorem ahw {d:Nat} {a t b:Rat} (bW:a<t) (cu:a<b) {args v:List Rat} {X:Nat->Rat} (hX:∀ r,r<d->(args.getD r 0-a)/(t-a)=X r) (hv:d+1<=v.length):da (bO d a t b) d d v args=(cr (qf ((t-a)/(b-a)) X) (v.take (d+1)) d).getD d 0:=by
 unfold da
 rw [Nat.sub_self,List.drop_zero]
 rw [afp d fun r j h1 h2 h3=>?_]
 rw [List.length_take] at h3
 rw [ahO bW cu h1 h2 J]
 unfold qf
 simp only [hX r h1]
theorem aok {d:Nat} {a t b:Rat} (df:t<b) (cu:a<b) {args v:List Rat} {X:Nat->Rat} (hX:∀ r,r<d->(args.getD r 0-t)/(b-t)=X r) (hv:d+2<=v.length):da (bO d a t b) d (d+1) v args=(cr (uK d ((t-a)/(b-a)) X) ((v.drop 1).take (d+1)) d).getD d 0:=by
 unfold da
 rw [show d+1-d=1 by omega]
 rw [afp d fun r j h1 h2 h3=>?_]
 rw [List.length_take,List.length_drop] at h3
 rw [akf df cu h1 h2 J]
 unfold uK
 simp only [hX r h1]
theorem adz {a b s:Rat} (h:a<b) (hs:s=b):(s-a)/(b-a)=1:=by
 have:b-a≠0:=by grind
 subst hs;grind
theorem agV {a b s:Rat} (h:a<b) (hs:s=a):(s-a)/(b-a)=0:=by
 have:b-a≠0:=by grind
 subst hs;grind
theorem aCt {d:Nat} {a t b s:Rat} (h1:1<=d) (h3:d<=3) (bW:a<t) (cu:a<b) {v:List Rat} (hv:v.length=d+2) :
  fE (1-(s-a)/(t-a)) ((s-a)/(t-a)) d (fun i=>da (bO d a t b) d d v (List.replicate (d-i) a++List.replicate i t))=da (bO d a t b) d d v (List.replicate d s):=by
 have hX:∀ i,i<=d->∀ r,r<d->((List.replicate (d-i) a++List.replicate i t).getD r 0-a)/(t-a)=(fun r=>if r<d-i then(0:Rat) else 1) r:=fun i hi r hr=>by
  rw [apq J]
  by_cases c:r<d-i
  ·simp only [if_pos c];exact agV bW rfl
  ·simp only [if_neg c];exact adz bW rfl
 have hS:∀ r,r<d->((List.replicate d s).getD r 0-a)/(t-a)=(fun _=>(s-a)/(t-a)) r:=fun r hr=>by rw [xt hr]
 rw [ahw bW cu hS J]
 have e:∀ i,i<=d->da (bO d a t b) d d v (List.replicate (d-i) a++List.replicate i t)=(cr (qf ((t-a)/(b-a)) (fun r=>if r<d-i then(0:Rat) else 1)) (v.take (d+1)) d).getD d 0:=fun i hi=>ahw bW cu (hX i hi) J
 generalize (s-a)/(t-a)=x at *
 generalize (t-a)/(b-a)=q at *
 match d,h1,h3,v,hv with
 | 1,_,_,[v0,v1,v2],_ =>
  simp only [fE]
  rw [e 0 J,e 1 J]
  show (1-x)*(cr _ [v0,v1] 1).getD 1 0+x*(cr _ [v0,v1] 1).getD 1 0=(cr _ [v0,v1] 1).getD 1 0
  rw [zn,zn,zn]
  simp [qf]
  grind
 | 2,_,_,[v0,v1,v2,v3],_ =>
  simp only [fE]
  rw [e 0 J,e 1 J,e 2 J]
  show (1-x)*((1-x)*(cr _ [v0,v1,v2] 2).getD 2 0+x*(cr _ [v0,v1,v2] 2).getD 2 0)+x*((1-x)*(cr _ [v0,v1,v2] 2).getD 2 0+x*(cr _ [v0,v1,v2] 2).getD 2 0)=(cr _ [v0,v1,v2] 2).getD 2 0
  rw [wO,wO,wO,wO]
  simp [qf]
  grind
 | 3,_,_,[v0,v1,v2,v3,v4],_ =>
  simp only [fE]
  rw [e 0 J,e 1 J,e 2 J,e 3 J]
  show (1-x)*((1-x)*((1-x)*(cr _ [v0,v1,v2,v3] 3).getD 3 0+x*(cr _ [v0,v1,v2,v3] 3).getD 3 0)+x*((1-x)*(cr _ [v0,v1,v2,v3] 3).getD 3 0+x*(cr _ [v0,v1,v2,v3] 3).getD 3 0))+x*((1-x)*((1-x)*(cr _ [v0,v1,v2,v3] 3).getD 3 0+x*(cr _ [v0,v1,v2,v3] 3).getD 3 0)+x*((1-x)*(cr _ [v0,v1,v2,v3] 3).getD 3 0+x*(cr _ [v0,v1,v2,v3] 3).getD 3 0))=(cr _ [v0,v1,v2,v3] 3).getD 3 0
  rw [tC,tC,tC,tC,tC]
  simp [qf]
  grind
theorem atD {d:Nat} {a t b s:Rat} (h1:1<=d) (h3:d<=3) (bW:a<t) (df:t<b) {v:List Rat} (hv:v.length=d+2) :
  fE (1-(s-t)/(b-t)) ((s-t)/(b-t)) d (fun i=>da (bO d a t b) d (if i=0 then d else d+1) v (List.replicate (d-i) t++List.replicate i b))=da (bO d a t b) d (d+1) v (List.replicate d s):=by
 have cu:a<b:=by grind
 have hX:∀ i,i<=d->∀ r,r<d->((List.replicate (d-i) t++List.replicate i b).getD r 0-t)/(b-t)=(fun r=>if r<d-i then(0:Rat) else 1) r:=fun i hi r hr=>by
  rw [apq J]
  by_cases c:r<d-i
  ·simp only [if_pos c];exact agV df rfl
  ·simp only [if_neg c];exact adz df rfl
 have hS:∀ r,r<d->((List.replicate d s).getD r 0-t)/(b-t)=(fun _=>(s-t)/(b-t)) r:=fun r hr=>by rw [xt hr]
 rw [aok df cu hS J]
 obtain⟨f,hf⟩:∃ f:Nat->Rat,f=fun i=>da (bO d a t b) d (if i=0 then d else d+1) v (List.replicate (d-i) t++List.replicate i b):=⟨_,rfl⟩
 rw [<-hf]
 have e0:f 0=(cr (qf ((t-a)/(b-a)) (fun _=>1)) (v.take (d+1)) d).getD d 0:=by
  rw [hf]
  show da (bO d a t b) d (if 0=0 then d else d+1) v _=_
  rw [if_pos rfl]
  exact ahw bW cu (fun r hr=>by rw [List.replicate_zero,List.append_nil,Nat.sub_zero,xt hr];exact adz bW rfl) J
 have e:∀ i,0<i->i<=d->f i=(cr (uK d ((t-a)/(b-a)) (fun r=>if r<d-i then(0:Rat) else 1)) ((v.drop 1).take (d+1)) d).getD d 0:=fun i h0 hi=>by
  rw [hf]
  show da (bO d a t b) d (if i=0 then d else d+1) v _=_
  rw [if_neg J]
  exact aok df cu (hX i hi) J
 clear hf hX hS
 generalize (s-t)/(b-t)=x at *
 generalize (t-a)/(b-a)=q at *
 match d,h1,h3,v,hv with
 | 1,_,_,[v0,v1,v2],_ =>
  simp only [fE]
  rw [e0,e 1 J J]
  show (1-x)*(cr _ [v0,v1] 1).getD 1 0+x*(cr _ [v1,v2] 1).getD 1 0=(cr _ [v1,v2] 1).getD 1 0
  rw [zn,zn,zn]
  simp [qf,uK]
  grind
 | 2,_,_,[v0,v1,v2,v3],_ =>
  simp only [fE]
  rw [e0,e 1 J J,e 2 J J]
  show (1-x)*((1-x)*(cr _ [v0,v1,v2] 2).getD 2 0+x*(cr _ [v1,v2,v3] 2).getD 2 0)+x*((1-x)*(cr _ [v1,v2,v3] 2).getD 2 0+x*(cr _ [v1,v2,v3] 2).getD 2 0)=(cr _ [v1,v2,v3] 2).getD 2 0
  rw [wO,wO,wO,wO]
  simp [qf,uK]
  grind
 | 3,_,_,[v0,v1,v2,v3,v4],_ =>
  simp only [fE]
  rw [e0,e 1 J J,e 2 J J,e 3 J J]
  show (1-x)*((1-x)*((1-x)*(cr _ [v0,v1,v2,v3] 3).getD 3 0+x*(cr _ [v1,v2,v3,v4] 3).getD 3 0)+x*((1-x)*(cr _ [v1,v2,v3,v4] 3).getD 3 0+x*(cr _ [v1,v2,v3,v4] 3).getD 3 0))+x*((1-x)*((1-x)*(cr _ [v1,v2,v3,v4] 3).getD 3 0+x*(cr _ [v1,v2,v3,v4] 3).getD 3 0)+x*((1-x)*(cr _ [v1,v2,v3,v4] 3).getD 3 0+x*(cr _ [v1,v2,v3,v4] 3).getD 3 0))=(cr _ [v1,v2,v3,v4] 3).getD 3 0
  rw [tC,tC,tC,tC,tC]
  simp [qf,uK]
  grind
theorem aiC {f:Nat->Rat} {n i:Nat} (h:i<n):((List.range n).map f).getD i 0=f i:=by
 rw [List.getD_eq_getElem?_getD,List.getElem?_map,List.getElem?_range h];rfl
theorem afw {d:Nat} {a t b s:Rat} (h1:1<=d) (h3:d<=3) (bW:a<t) (cu:a<b) {v:List Rat} (hv:v.length=d+2) :
  cL ((List.range (d+1)).map fun i=>da (bO d a t b) d d v (List.replicate (d-i) a++List.replicate i t)) ((s-a)/(t-a))=da (bO d a t b) d d v (List.replicate d s):=by
 rw [s6 aO,List.length_map,List.length_range,Nat.add_sub_cancel,<-aCt h1 h3 bW cu hv]
 exact qN _ _ _ _ _ fun i hi=>aiC J
theorem afm {d:Nat} {a t b s:Rat} (h1:1<=d) (h3:d<=3) (bW:a<t) (df:t<b) {v:List Rat} (hv:v.length=d+2) :
  cL ((List.range (d+1)).map fun i=>da (bO d a t b) d (if i=0 then d else d+1) v (List.replicate (d-i) t++List.replicate i b)) ((s-t)/(b-t))=da (bO d a t b) d (d+1) v (List.replicate d s):=by
 rw [s6 aO,List.length_map,List.length_range,Nat.add_sub_cancel,<-atD h1 h3 bW df hv]
 exact qN _ _ _ _ _ fun i hi=>aiC J
theorem ab3 {d:Nat} {a b s:Rat} (h1:1<=d) (h3:d<=3) (cu:a<b) {v:List Rat} (hv:v.length=d+1):da (bl d a b) d d v (List.replicate d s)=cL v ((s-a)/(b-a)):=by
 have e:da (bl d a b) d d v (List.replicate d s)=(cr (fun _ _=>(s-a)/(b-a)) v d).getD d 0:=by
  unfold da
  rw [Nat.sub_self,List.drop_zero,List.take_of_length_le J,afp d fun r j g1 g2 g3=>?_]
  unfold gF
  rw [xt g1,fV _ _ _ _ J,fV _ _ _ _ J,if_pos J,if_neg J]
 rw [e,s6 J,hv,Nat.add_sub_cancel]
 generalize (s-a)/(b-a)=x at *
 match d,h1,h3,v,hv with
 | 1,_,_,[v0,v1],_ =>
  rw [zn]
  show _=(1-x)*v0+x*v1
  grind
 | 2,_,_,[v0,v1,v2],_ =>
  rw [wO]
  show _=(1-x)*((1-x)*v0+x*v1)+x*((1-x)*v1+x*v2)
  grind
 | 3,_,_,[v0,v1,v2,v3],_ =>
  rw [tC]
  show _=(1-x)*((1-x)*((1-x)*v0+x*v1)+x*((1-x)*v1+x*v2))+x*((1-x)*((1-x)*v1+x*v2)+x*((1-x)*v2+x*v3))
  grind
def vo (k:List Rat) (d pc:Nat) (po:List aF) (s:Rat):V3:=iZ (1/da k d pc (aX po) (List.replicate d s)) ⟨da k d pc (bj po 0) (List.replicate d s),da k d pc (bj po 1) (List.replicate d s),da k d pc (bj po 2) (List.replicate d s)⟩
theorem acR {C:List Q4} (h:∀ q∈C,0<q.w):bj (C.map dX) 0=C.map (·.x)/\bj (C.map dX) 1=C.map (·.y)/\bj (C.map dX) 2=C.map (·.z)/\aX (C.map dX)=C.map (·.w):=by
 have g:∀ q∈C,∀ y:Rat,q.w*(y/q.w)=y:=fun q hq y=>by
  have:=h q hq
  rw [Rat.mul_comm];exact Rat.div_mul_cancel cA
 unfold bj aX
 simp only [List.map_map]
 refine⟨?_,?_,?_,?_⟩
 ·exact List.map_congr_left fun q hq=>g q hq q.x
 ·exact List.map_congr_left fun q hq=>g q hq q.y
 ·exact List.map_congr_left fun q hq=>g q hq q.z
 ·exact List.map_congr_left fun q hq=>rfl
theorem afb (po:List aF):(po.map cS).map (·.x)=bj po 0/\(po.map cS).map (·.y)=bj po 1/\(po.map cS).map (·.z)=bj po 2/\(po.map cS).map (·.w)=aX po:=by
 unfold bj aX
 simp only [List.map_map]
 exact⟨rfl,rfl,rfl,rfl⟩
theorem afC {d:Nat} {a t b:Rat} {po:List aF} (h:∀ q∈kh d a t b (po.map cS),0<q.w):∀ k,bj ((kh d a t b (po.map cS)).map dX) k=(List.range (d+1)).map fun j=>da (bO d a t b) d d (bj po k) (List.replicate (d-j) a++List.replicate j t):=fun k=>by
 obtain⟨n0,n1,n2,_⟩:=acR h
 obtain⟨m0,m1,m2,_⟩:=afb po
 match k with
 | 0=>rw [n0,<-m0];unfold kh;rw [List.map_map];rfl
 | 1=>rw [n1,<-m1];unfold kh;rw [List.map_map];rfl
 | k+2 =>
  show bj ((kh d a t b (po.map cS)).map dX) 2=(List.range (d+1)).map fun j=>da (bO d a t b) d d (bj po 2) (List.replicate (d-j) a++List.replicate j t)
  rw [n2,<-m2];unfold kh;rw [List.map_map];rfl
theorem arc {d:Nat} {a t b:Rat} {po:List aF} (h:∀ q∈kh d a t b (po.map cS),0<q.w):aX ((kh d a t b (po.map cS)).map dX)=(List.range (d+1)).map fun j=>da (bO d a t b) d d (aX po) (List.replicate (d-j) a++List.replicate j t):=by
 rw [(acR h).2.2.2,<-(afb po).2.2.2];unfold kh;rw [List.map_map];rfl
theorem af1 {d:Nat} {a t b:Rat} {po:List aF} (h:∀ q∈ka d a t b (po.map cS),0<q.w):∀ k,bj ((ka d a t b (po.map cS)).map dX) k=(List.range (d+1)).map fun j=>da (bO d a t b) d (if j=0 then d else d+1) (bj po k) (List.replicate (d-j) t++List.replicate j b):=fun k=>by
 obtain⟨n0,n1,n2,_⟩:=acR h
 obtain⟨m0,m1,m2,_⟩:=afb po
 match k with
 | 0=>rw [n0,<-m0];unfold ka;rw [List.map_map];rfl
 | 1=>rw [n1,<-m1];unfold ka;rw [List.map_map];rfl
 | k+2 =>
  show bj ((ka d a t b (po.map cS)).map dX) 2=(List.range (d+1)).map fun j=>da (bO d a t b) d (if j=0 then d else d+1) (bj po 2) (List.replicate (d-j) t++List.replicate j b)
  rw [n2,<-m2];unfold ka;rw [List.map_map];rfl
theorem ans {d:Nat} {a t b:Rat} {po:List aF} (h:∀ q∈ka d a t b (po.map cS),0<q.w):aX ((ka d a t b (po.map cS)).map dX)=(List.range (d+1)).map fun j=>da (bO d a t b) d (if j=0 then d else d+1) (aX po) (List.replicate (d-j) t++List.replicate j b):=by
 rw [(acR h).2.2.2,<-(afb po).2.2.2];unfold ka;rw [List.map_map];rfl
theorem awM {d:Nat} {a t b s:Rat} {po:List aF} (h1:1<=d) (h3:d<=3) (bW:a<t) (cu:a<b) (hl:po.length=d+2) (h:∀ q∈kh d a t b (po.map cS),0<q.w):mS ((kh d a t b (po.map cS)).map dX) ((s-a)/(t-a))=vo (bO d a t b) d d po s:=by
 unfold mS vo
 rw [afC h,afC h,afC h,arc h,afw h1 h3 bW cu oC,afw h1 h3 bW cu oC,afw h1 h3 bW cu oC,afw h1 h3 bW cu oC]
theorem asW {d:Nat} {a t b s:Rat} {po:List aF} (h1:1<=d) (h3:d<=3) (bW:a<t) (df:t<b) (hl:po.length=d+2) (h:∀ q∈ka d a t b (po.map cS),0<q.w):mS ((ka d a t b (po.map cS)).map dX) ((s-t)/(b-t))=vo (bO d a t b) d (d+1) po s:=by
 unfold mS vo
 rw [af1 h,af1 h,af1 h,ans h,afm h1 h3 bW df oC,afm h1 h3 bW df oC,afm h1 h3 bW df oC,afm h1 h3 bW df oC]
theorem atZ {d:Nat} {a b s:Rat} {po:List aF} (h1:1<=d) (h3:d<=3) (cu:a<b) (hl:po.length=d+1):vo (bl d a b) d d po s=mS po ((s-a)/(b-a)):=by
 unfold mS vo
 rw [ab3 h1 h3 cu oC,ab3 h1 h3 cu oC,ab3 h1 h3 cu oC,ab3 h1 h3 cu oC]
structure jQ (po:List aF) (D N:Nat):Prop where
 D0:0<D
 n:∀ k,∀ x∈bj po k,ck D N x
 w:∀ x∈aX po,ck D N x
 p:∀ q∈po,0<q.w
theorem jQ.okR {po:List aF} {D N k:Nat} (h:jQ po D N) (hN:N<4294967296 ^ k) (hD:D<4294967296 ^ k) (hk:1<=k):∀ q∈po,oF k q:=fun q hq=>by
 have hp:=h.p q hq
 have hw:=h.w _ (List.mem_map.2 ⟨q,hq,rfl⟩)
 have g:∀ j,rl (q.p.at j)<=k:=fun j=>by
  have:=(h.n j _ (List.mem_map.2 ⟨q,hq,rfl⟩)).div hw h.D0 hN hk
  rwa [Rat.mul_comm,Rat.mul_div_cancel cA] at this
 exact⟨⟨g 0,g 1,g 2⟩,hw.rl h.D0 hN hD hk,hp⟩
theorem jQ.cvK {po:List aF} {d D N:Nat} (h:jQ po D N) (hl:po.length=d+1):cvC po d D N:=⟨fun k i hi=>h.n k _ (dg (by rw [n8];omega)),fun i hi=>h.w _ (dg (by rw [me];omega))⟩
theorem ahn (E:Nat):uQ E 0:=⟨0,E,by rw [Rat.zero_mul];rfl,by rw [show (1:Rat)-0=1 by decide +kernel,Rat.one_mul]⟩
theorem ajy (E:Nat):uQ E 1:=⟨E,0,by rw [Rat.one_mul],by rw [show (1:Rat)-1=0 by decide +kernel,Rat.zero_mul];rfl⟩
theorem al3 {E:Nat} {q:Rat} (h:uQ E q) {X:Nat->Rat} {r:Nat} (hX:X r=0\/X r=1) (j:Nat):uQ E (qf q X r j):=by
 unfold qf
 rcases hX with e | e<;>rw [e]
 ·split
  ·exact ahn E
  ·rw [Rat.zero_mul];exact ahn E
 ·split
  ·exact ajy E
  ·rw [Rat.one_mul];exact h
theorem aAf {E d:Nat} {q:Rat} (h:uQ E q) {X:Nat->Rat} {r:Nat} (hX:X r=0\/X r=1) (j:Nat):uQ E (uK d q X r j):=by
 unfold uK
 rcases hX with e | e<;>rw [e]
 ·split
  ·exact ahn E
  ·rw [Rat.zero_mul,Rat.add_zero];exact h
 ·split
  ·exact ajy E
  ·rw [Rat.one_mul,show q+(1-q)=1 by grind];exact ajy E
theorem alI {n m r:Nat} {x y:Rat} (hxy:x<y) (h:r<n+m):((List.replicate n x++List.replicate m y).getD r 0-x)/(y-x)=0\/((List.replicate n x++List.replicate m y).getD r 0-x)/(y-x)=1:=by
 rcases adU h with e | e<;>rw [e]
 ·exact .inl (agV hxy rfl)
 ·exact .inr (adz hxy rfl)
theorem anX {d:Nat} {a t b:Rat} {po:List aF} {D N E:Nat} (bW:a<t) (df:t<b) (hl:po.length=d+2) (h:jQ po D N) (zt:0<E) (hE:uQ E ((t-a)/(b-a))):jQ ((kh d a t b (po.map cS)).map dX) (D*E ^ d) (N*E ^ d):=by
 have cu:a<b:=by grind
 have hw:∀ q∈kh d a t b (po.map cS),0<q.w:=ah8 bW df (by rw [List.length_map,hl]) fun q hq=>by
  obtain⟨z,hz,rfl⟩:=List.mem_map.1 hq;exact h.p z hz
 have g:∀ v:List Rat,v.length=d+2->(∀ x∈v,ck D N x)->∀ x∈((List.range (d+1)).map fun j=>da (bO d a t b) d d v (List.replicate (d-j) a++List.replicate j t)),ck (D*E ^ d) (N*E ^ d) x:=fun v hv hc x hx=>by
  obtain⟨j,hj,rfl⟩:=List.mem_map.1 hx
  have hj:=List.mem_range.1 hj
  refine ajc hc J (Nat.le_refl _) fun r i h1 h2 h3=>?_
  rw [ahO bW cu h1 h2 h3]
  exact al3 hE (alI bW J) _
 refine⟨Nat.mul_pos h.D0 (Nat.pow_pos zt),fun k=>?_,?_,fun q hq=>?_⟩
 ·rw [afC hw];exact g _ oC (h.n k)
 ·rw [arc hw];exact g _ oC h.w
 ·obtain⟨z,hz,rfl⟩:=List.mem_map.1 hq;exact hw z hz
theorem anu {d:Nat} {a t b:Rat} {po:List aF} {D N E:Nat} (bW:a<t) (df:t<b) (hl:po.length=d+2) (h:jQ po D N) (zt:0<E) (hE:uQ E ((t-a)/(b-a))):jQ ((ka d a t b (po.map cS)).map dX) (D*E ^ d) (N*E ^ d):=by
 have cu:a<b:=by grind
 have hw:∀ q∈ka d a t b (po.map cS),0<q.w:=agT bW df (by rw [List.length_map,hl]) fun q hq=>by
  obtain⟨z,hz,rfl⟩:=List.mem_map.1 hq;exact h.p z hz
 have g:∀ v:List Rat,v.length=d+2->(∀ x∈v,ck D N x)->∀ x∈((List.range (d+1)).map fun j=>da (bO d a t b) d (if j=0 then d else d+1) v (List.replicate (d-j) t++List.replicate j b)),ck (D*E ^ d) (N*E ^ d) x:=fun v hv hc x hx=>by
  obtain⟨j,hj,rfl⟩:=List.mem_map.1 hx
  have hj:=List.mem_range.1 hj
  by_cases c:j=0
  ·rw [if_pos c]
   refine ajc hc J (Nat.le_refl _) fun r i h1 h2 h3=>?_
   rw [ahO bW cu h1 h2 h3]
   refine al3 hE (.inr ?_) _
   subst c
   rw [List.replicate_zero,List.append_nil,Nat.sub_zero]
   show ((List.replicate d t).getD r 0-a)/(t-a)=1
   rw [xt h1];exact adz bW rfl
  ·rw [if_neg c]
   refine ajc hc J J fun r i h1 h2 h3=>?_
   rw [akf df cu h1 h2 h3]
   exact aAf hE (alI df J) _
 refine⟨Nat.mul_pos h.D0 (Nat.pow_pos zt),fun k=>?_,?_,fun q hq=>?_⟩
 ·rw [af1 hw];exact g _ oC (h.n k)
 ·rw [ans hw];exact g _ oC h.w
 ·obtain⟨z,hz,rfl⟩:=List.mem_map.1 hq;exact hw z hz
theorem aww {d D N Dp:Nat} {a b:Rat} {po:List aF} (h1:1<=d) (h3:d<=3) (cu:a<b) (ha:rl a<=30) (hb:rl b<=30) (hl:po.length=d+1) (h:jQ po D N) (hN:N<4294967296 ^ 80) (hD:D<4294967296 ^ 80) (hDp:Dp<=24):yR ⟨d,a,b,po⟩ Dp D N:=by
 have hp:(2 ^ Dp) ^ d<=4294967296 ^ 3:=by
  have e1:(2 ^ Dp) ^ d<=(2 ^ 32) ^ d:=Nat.pow_le_pow_left (Nat.pow_le_pow_right ai J) d
  have e2:(2 ^ 32) ^ d<=(2 ^ 32) ^ 3:=Nat.pow_le_pow_right ai h3
  exact Nat.le_trans e1 e2
 have g:∀ n,n<4294967296 ^ 80->n*(2 ^ Dp) ^ d<4294967296 ^ 100:=fun n hn=>by
  have e1:n*(2 ^ Dp) ^ d<=4294967296 ^ 80*4294967296 ^ 3:=Nat.mul_le_mul (Nat.le_of_lt hn) hp
  refine Nat.lt_of_le_of_lt e1 ?_
  rw [<-Nat.pow_add]
  exact Nat.pow_lt_pow_right ai ai
 refine⟨h3,cu,ha,hb,⟨hl,h1,by show d<=6;omega,fun q hq=>?_⟩,h.cvK hl,h.D0,g N hN,g D hD⟩
 have:=h.okR hN hD ai q hq
 exact⟨this.1.le ai,Nat.le_trans this.2.1 ai,this.2.2⟩
end Go.Proofs.YtckppbhafancnaaGreat
end
