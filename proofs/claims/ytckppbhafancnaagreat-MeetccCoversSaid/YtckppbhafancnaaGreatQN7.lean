/- Texts A1, A6, A7, A8, A5, A9, U8, U9, U10, U11, U12, U13, U14, U15, U16, U17, U21, U22, U23, U18, U19, U20, U24, U25, J1 of this proof, joined. -/
import Derived.Test.YtckppbhafancnaaGreatQN6
set_option linter.unusedVariables false
set_option linter.unusedSimpArgs false
section
set_option linter.unusedVariables false
set_option linter.unusedSimpArgs false
set_option maxHeartbeats 8000000
set_option maxRecDepth 100000
attribute [local irreducible] Go.Lg.opsL Go.Lg.cy Go.Lg.mR Go.Lg.oF
namespace Go.Proofs.YtckppbhafancnaaGreat
open Go.Lg
theorem acS (bs:List Nat) (c:Nat) (y:a8) (l:List (Nat × a8)):uM bs ((c,y) :: l)=(c,⟨y.sz,y.vals,y.mt && !bs.contains c⟩) :: uM bs l:=rfl
theorem azH {l:List (Rat × Rat)} {k:Nat} (h:k<l.length):l.take k++[l.getD k default]=l.take (k+1):=by
 rw [List.take_add_one,List.getElem?_eq_getElem h,List.getD_eq_getElem?_getD,List.getElem?_eq_getElem h];rfl
theorem ahd {l:List (Rat × Rat)} {k:Nat} (h:k<l.length):l.getD k default∈l:=by
 rw [List.getD_eq_getElem?_getD,List.getElem?_eq_getElem h];exact List.getElem_mem h
theorem ajO:cU Tryz.prog 147 (jz ([],0,[])):=⟨Tryz.t147,_,by kernel_rfl,rfl,rfl,fun Z μ w=>by
 show b8 Z μ w _ _
 exact⟨_,_,rfl,rfl,abo 6,_,_,rfl,rfl,⟨rfl,rfl⟩,_,_,rfl,rfl,abo 1,rfl⟩⟩
instance:EC Tryz.prog 147 jz 3 true ([],0,[]):=⟨abv,ajO,va⟩
theorem uz:cU Tryz.prog 51 (fg ([],[],0,0)):=⟨Tryz.t51,_,by kernel_rfl,rfl,rfl,fun Z μ w=>by
 show b8 Z μ w _ _
 exact⟨_,_,rfl,rfl,abo 6,_,_,rfl,rfl,abo 6,_,_,rfl,rfl,⟨rfl,rfl⟩,_,_,rfl,rfl,⟨rfl,rfl⟩,rfl⟩⟩
theorem aA0:ae (1/2)=.agg [.v (.bool false),ba 1,.list 1 ([2].map bh)]:=by
 rw [show (1/2:Rat)=qv false 1 2 from by decide +kernel,ade false ai ai]
 rfl
theorem apX:(default:Int)=0:=rfl
theorem atC (a b:Rat):(a+b)*(1/2)=(a+b)/2:=by grind
namespace ary
theorem aH {p q:Prop} (k:q) (e:p=q:=by simp only [e1,e2,e3,e4,p1,p2,p3,q1,q2,q3,l1,t0,t1,r1,r2,r3,r4,Nat.zero_add,Nat.reduceMul,Nat.reduceAdd,b1,b2,b3,b4,b5,b6,i1,i2,i3,i4,i5,i6,Nat.reduceBEq,vW,acS,List.set_cons_zero,List.set_cons_succ,Nat.reduceEqDiff,reduceIte,if_true,if_false,dW,ec,aP bg,aP bw,aP ao,cH,dO,LV.kill,bN];exact rfl):p:=e.mpr k
end ary
open ary in
theorem ay2 (a b:Rat) (h:rl a+rl b<=100000):av Tryz.prog 192 [ae a,ae b] (ae ((a+b)/2)):=by
 have hz:=jq a b
 have hh:rl (1/2)=1:=by decide +kernel
 have hM:=gr (a+b) (1/2) J
 rw [atC] at hM
 refine aN Tryz.func192 ?_
 refine bp ?_
 refine cp aq (iw a b J) ?_
 refine cp zX (ahh) ?_
 refine aL ?_
 try refine aH ?_
 refine aeD [9] rfl rfl (.cons (.pure (ao.pure _)) (.cons (show cG _ _ (ae (1/2)) from aA0 ▸ .agg (.cons (.pure rfl) (.cons (.pure rfl) (.cons (eN ff rfl rfl rfl) .nil)))) .nil)) hM ?_
 refine ax ?_
 exact fk
open fP in
theorem apJ (s:Rat × Rat) (h:rl s.1+rl s.2<=100000):av Tryz.prog 105 [aD s] (ae (iS s)):=by
 refine aN Tryz.func105 ?_
 refine bu ?_
 refine cp aq (ay2 s.1 s.2 h) ?_
 refine ax ?_
 exact fk
open fP in
theorem ayc (s:Rat × Rat) (R:Nat) (hR:R<=10000) (hb:db R s) (hle:s.1<=s.2):av Tryz.prog 166 [aD s] (.a7 [aD (nX s),aD (oT s)]):=by
 obtain⟨a1,a2⟩:=hb
 have hM:=apJ s J
 have uU:=jq s.1 s.2
 have yE:=oH (s.1+s.2) 2
 have hh:rl 2=1:=by decide +kernel
 have em:(s.1+s.2)/2*2=s.1+s.2:=Rat.div_mul_cancel ai
 have hmr:rl (iS s)<=2*R+2:=by unfold iS;omega
 have jF:s.1<=iS s:=by unfold iS;grind
 have mG:iS s<=s.2:=by unfold iS;grind
 have hO1:=zJ s.1 (iS s) J
 have hO2:=zJ (iS s) s.2 J
 rw [show (gj s.1 (iS s),fQ s.1 (iS s))=nX s from by unfold gj fQ nX;rw [if_neg cA];split<;>(first | rfl | (congr 1;grind))] at hO1
 rw [show (gj (iS s) s.2,fQ (iS s) s.2)=oT s from by unfold gj fQ oT;rw [if_neg cA];split<;>(first | rfl | (congr 1;grind))] at hO2
 refine aN Tryz.func166 (ht:=(jg (bS.pure _) (bS.pure _))) ?_
 refine bC ?_
 refine cp aK (hM) ?_
 refine a6 ?_
 refine aY 8 an ?_
 refine aJ ?_
 refine cp aq (hO1) ?_
 refine aJ ?_
 refine cp aq (hO2) ?_
 refine a6 ?_
 exact ag1 [] rfl rfl rfl (bS.au _) (yH _) lD (.pure (bS.pure _)) rfl rfl (bS.au _) (yH _) lD (.pure (bS.pure _))
namespace aki
theorem aH {p q:Prop} (k:q) (e:p=q:=by simp only [e1,e2,e3,e4,p1,p2,p3,q1,q2,q3,l1,t0,t1,r1,r2,r3,r4,Nat.zero_add,Nat.reduceMul,Nat.reduceAdd,b1,b2,b3,b4,b5,b6,i1,i2,i3,i4,i5,i6,Nat.reduceBEq,gv,fD,aP bS,List.length_map,k5,kI,iz,List.length_cons,List.length_nil,List.nil_append,List.map_nil,List.take_nil,List.append_nil,List.set_cons_zero,List.set_cons_succ,Nat.reduceEqDiff,reduceIte,if_true,if_false,dW,ec,aP bg,aP bw,aP ao,cH,dO,LV.kill,bN];exact rfl):p:=e.mpr k
end aki
open aki in
theorem akJ (l:List (Rat × Rat)) (h0:0<l.length) (hl:l.length<=1000) (hb:∀ s∈l,db 1000000 s/\s.1<=s.2):mP Tryz.prog 87 [.list 6 (l.map aD)] (.ref 1 6 0 l.length) [⟨6,l.map aD,true⟩]:=by
 refine fnO Tryz.func87 ?_
 have gv:True:=trivial
 have fD:True:=trivial
 refine mV ?_
 refine jo (aw.own (t:=3) 19 6 rfl rfl) ?_
 refine dJ (fun(k:Nat) L=>(((((St.mk L.slot (hp [(19,⟨6,(l.take k).map aD,true⟩)])).put (some 3) (.ref 19 6 0 k)).put (some 6) (.list 6 (l.map aD))).put (some 7) (ah l.length)).put (some 8) (ah k))) (fun k=>k<=l.length) (fun k=>l.length-k) 0 (Nat.zero_le _) ?_
 rintro k L1 hk
 refine aA ?_
 refine aC rfl ?_ ?_<;>intro tf h9
 ·have kL:k<l.length:=by omega
  obtain⟨⟨jt,uy⟩,hs3⟩:=hb _ (ahd kL)
  have gv:=azH kL
  have fD:((l.take k).map aD).take k=(l.take k).map aD:=List.take_of_length_le wj
  have hSO:av Tryz.prog 90 [ae (l.getD k default).1,ae (l.getD k default).2] (aD (l.getD k default)):=by
   have:=zJ (l.getD k default).1 (l.getD k default).2 J
   have e1x:gj (l.getD k default).1 (l.getD k default).2=(l.getD k default).1:=by unfold gj;split<;>grind
   have e2x:fQ (l.getD k default).1 (l.getD k default).2=(l.getD k default).2:=by unfold fQ;split<;>grind
   rw [e1x,e2x] at this
   exact this
  refine nn ?_
  refine cp aq (hSO) ?_
  refine ar ?_
  refine bI rfl (.fX (d:=19) (news:=[aD (l.getD k default)]) rfl rfl rfl rfl bm (.inl rfl) ai Tryz.underlying49 Tryz.underlying49 y9 apR cs B54 (.inl ⟨18,0,_,rfl,by decide,rfl,rfl,by simp,rfl,by simp [aG,bS.pure]⟩) bm bm ai) ?_
  refine ax ?_
  refine cq ((aw.kill _ 5).trans (aw.kill _ 18)) ?_
  refine ak rfl cB ?_
  refine aJ ?_
  exact iG (k+1) J
 ·obtain rfl:k=l.length:=by omega
  have hE:l.take l.length=l:=List.take_length
  refine bu ?_
  simp only [hE]
  exact ab2 rfl rfl (aW bS _)
theorem aji (l:List (Rat × Rat)) (h0:0<l.length) (hl:l.length<=1000) (hb:∀ s∈l,db 1000000 s/\s.1<=s.2):av Tryz.prog 87 [.list 6 (l.map aD)] (.list 6 (l.map aD)):=ajr (akJ l h0 hl hb) (aW bS _) aO
namespace arQ
theorem aH {p q:Prop} (k:q) (e:p=q:=by simp only [e1,e2,e3,e4,p1,p2,p3,q1,q2,q3,l1,t0,t1,r1,r2,r3,r4,Nat.zero_add,Nat.reduceMul,Nat.reduceAdd,b1,b2,b3,b4,b5,b6,i1,i2,i3,i4,i5,i6,Nat.reduceBEq,jz,apX,Int.toNat_natCast,Nat.zero_add,ems,emt,aP bS,aP m9,List.length_map,List.take_nil,List.nil_append,List.set_cons_zero,List.set_cons_succ,Nat.reduceEqDiff,reduceIte,if_true,if_false,dW,ec,aP bg,aP bw,aP ao,cH,dO,LV.kill,bN];exact rfl):p:=e.mpr k
end arQ
open arQ in
theorem aoP (x:ez) (n D:Nat) (hn:x.1.length=n) (ht:x.2.2.length=n) (h0:0<n) (xG:n<=10) (hD:x.2.1<=D) (hD9:D<=1000) (htm:∀ t∈x.2.2,0<=t/\t<=1000) (s:Rat × Rat):av Tryz.prog 165 [aD s,.bW (.agg [.list 6 (x.1.map aD),ah x.2.1,.list 1 (x.2.2.map eW)]),.bW (ah (eU x))] (jz (yo x s)):=by
 have hbx:LV.pure (.agg [.list 6 (x.1.map aD),ah x.2.1,.list 1 (x.2.2.map eW)])=true:=so x
 have hpS:=aW bS x.1
 have hpT:=aW m9 x.2.2
 have bV:eU x<n:=by
  have:=abf (t:=x.2.2) x.2.2.length (Nat.le_refl _) J
  unfold eU;omega
 have htk:=htm _ (show x.2.2.getD (eU x) 0∈x.2.2 by rw [List.getD_eq_getElem?_getD,List.getElem?_eq_getElem J];exact List.getElem_mem J)
 have ems:(x.1.map aD).set (eU x) (aD s)=(x.1.set (eU x) s).map aD:=List.map_set.symm
 have emt:(x.2.2.map eW).set (eU x) (eW (x.2.2.getD (eU x) 0+1))=(x.2.2.set (eU x) (x.2.2.getD (eU x) 0+1)).map eW:=List.map_set.symm
 refine aN Tryz.func165 (ht:=(fun g=>LV.cP g _ (so _))) ?_
 have ems:True:=trivial
 have emt:True:=trivial
 refine aR ?_
 refine fT (fun L=>∃  (L1:St),(True)/\L=((((((St.mk L1.slot (hp [(3,⟨6,[aD s],true⟩),(4,⟨3,[.agg [.v (.slice none 0 0),.v (.int .i64 0),.v (.slice none 0 0)]],true⟩),(5,⟨3,[.agg [.ref 6 6 0 x.1.length,ah (x.2.1+1),.ref 13 1 0 x.2.2.length]],true⟩),(6,⟨6,x.1.map aD,true⟩),(13,⟨1,x.2.2.map eW,true⟩)])).put (some 1) (.bW (.agg [.list 6 (x.1.map aD),ah x.2.1,.list 1 (x.2.2.map eW)]))).put (some 2) (.bW (ah (eU x)))).put (some 3) (.az 3 6 0 0)).put (some 4) (.az 4 3 0 0)).put (some 5) (.az 5 3 0 0))) ?_ ?_
 ·refine aan ?_
  refine gu 1 rfl rfl an (.pure l6) jy gg ?_
  refine gu 2 rfl rfl an (.pure (.qB rfl hpS rfl rfl)) jy gg ?_
  refine gu 4 rfl rfl an (.pure l6) jy gg ?_
  refine gu 5 rfl rfl an (.pure ij) jy gg ?_
  refine gu 6 rfl rfl an (.pure (.bin rfl rfl (ace J))) jy gg ?_
  refine gu 8 rfl rfl an (.pure l6) jy gg ?_
  refine gu 9 rfl rfl an (.pure (.qB rfl hpT rfl rfl)) jy gg ?_
  refine aqW 0 7 12 _ _ _ an rfl rfl rfl ?_ ?_ ?_
  ·refine ar ?_
   refine aE ?_
   refine aqW 3 7 12 _ _ _ an rfl rfl rfl ?_ ?_ ?_
   ·refine bI rfl te ?_
    refine aE ?_
    refine iX 7 12 _ _ an rfl rfl ?_ ?_
    ·refine ar ?_
     refine aE ?_
     refine iX 10 12 _ _ an rfl rfl ?_ ?_
     ·refine bI rfl pL ?_
      refine aE ?_
      refine iX 11 12 _ _ an rfl rfl ?_ ?_
      ·refine ar ?_
       refine aE ?_
       refine aV 12 _ an rfl ?_
       refine ar ?_
       refine aE ?_
       refine aV 13 _ an rfl ?_
       refine ar ?_
       refine aE ?_
       refine eO an ?_
       refine ar ?_
       exact⟨_,trivial,((aj (aj (aj (aj (aj (bz (by first | exact cl | (refine aH ?_;refine iB ?_ ?_<;>repeat (first | exact trivial | refine And.intro rfl ?_)))) cl) cl) cl) cl) cl)).symm⟩
      ·refine ar ?_
       refine aE ?_
       refine aV 11 _ an rfl ?_
       refine ar ?_
       refine aE ?_
       refine aV 13 _ an rfl ?_
       refine ar ?_
       refine aE ?_
       refine eO an ?_
       refine ar ?_
       exact⟨_,trivial,((aj (aj (aj (aj (aj (bz (by first | exact cl | (refine aH ?_;refine iB ?_ ?_<;>repeat (first | exact trivial | refine And.intro rfl ?_)))) cl) cl) cl) cl) cl)).symm⟩
     ·refine ar ?_
      refine aE ?_
      refine aV 10 _ an rfl ?_
      refine bI rfl pL ?_
      refine aE ?_
      refine aV 11 _ an rfl ?_
      refine ar ?_
      refine aE ?_
      refine aV 13 _ an rfl ?_
      refine ar ?_
      refine aE ?_
      refine eO an ?_
      refine ar ?_
      exact⟨_,trivial,((aj (aj (aj (aj (aj (bz (by first | exact cl | (refine aH ?_;refine iB ?_ ?_<;>repeat (first | exact trivial | refine And.intro rfl ?_)))) cl) cl) cl) cl) cl)).symm⟩
    ·refine ar ?_
     refine aE ?_
     refine aV 7 _ an rfl ?_
     refine ar ?_
     refine aE ?_
     refine aV 10 _ an rfl ?_
     refine bI rfl pL ?_
     refine aE ?_
     refine aV 11 _ an rfl ?_
     refine ar ?_
     refine aE ?_
     refine aV 13 _ an rfl ?_
     refine ar ?_
     refine aE ?_
     refine eO an ?_
     refine ar ?_
     exact⟨_,trivial,((aj (aj (aj (aj (aj (bz (by first | exact cl | (refine aH ?_;refine iB ?_ ?_<;>repeat (first | exact trivial | refine And.intro rfl ?_)))) cl) cl) cl) cl) cl)).symm⟩
   ·refine ar ?_
    refine aE ?_
    refine iX 3 12 _ _ an rfl rfl ?_ ?_
    ·refine bI rfl te ?_
     refine aE ?_
     refine iX 10 12 _ _ an rfl rfl ?_ ?_
     ·refine bI rfl pL ?_
      refine aE ?_
      refine iX 11 12 _ _ an rfl rfl ?_ ?_
      ·refine ar ?_
       refine aE ?_
       refine aV 12 _ an rfl ?_
       refine ar ?_
       refine aE ?_
       refine aV 13 _ an rfl ?_
       refine ar ?_
       refine aE ?_
       refine eO an ?_
       refine ar ?_
       exact⟨_,trivial,((aj (aj (aj (aj (aj (bz (by first | exact cl | (refine aH ?_;refine iB ?_ ?_<;>repeat (first | exact trivial | refine And.intro rfl ?_)))) cl) cl) cl) cl) cl)).symm⟩
      ·refine ar ?_
       refine aE ?_
       refine aV 11 _ an rfl ?_
       refine ar ?_
       refine aE ?_
       refine aV 13 _ an rfl ?_
       refine ar ?_
       refine aE ?_
       refine eO an ?_
       refine ar ?_
       exact⟨_,trivial,((aj (aj (aj (aj (aj (bz (by first | exact cl | (refine aH ?_;refine iB ?_ ?_<;>repeat (first | exact trivial | refine And.intro rfl ?_)))) cl) cl) cl) cl) cl)).symm⟩
     ·refine ar ?_
      refine aE ?_
      refine aV 10 _ an rfl ?_
      refine bI rfl pL ?_
      refine aE ?_
      refine aV 11 _ an rfl ?_
      refine ar ?_
      refine aE ?_
      refine aV 13 _ an rfl ?_
      refine ar ?_
      refine aE ?_
      refine eO an ?_
      refine ar ?_
      exact⟨_,trivial,((aj (aj (aj (aj (aj (bz (by first | exact cl | (refine aH ?_;refine iB ?_ ?_<;>repeat (first | exact trivial | refine And.intro rfl ?_)))) cl) cl) cl) cl) cl)).symm⟩
    ·refine ar ?_
     refine aE ?_
     refine aV 3 _ an rfl ?_
     refine bI rfl te ?_
     refine aE ?_
     refine aV 10 _ an rfl ?_
     refine bI rfl pL ?_
     refine aE ?_
     refine aV 11 _ an rfl ?_
     refine ar ?_
     refine aE ?_
     refine aV 13 _ an rfl ?_
     refine ar ?_
     refine aE ?_
     refine eO an ?_
     refine ar ?_
     exact⟨_,trivial,((aj (aj (aj (aj (aj (bz (by first | exact cl | (refine aH ?_;refine iB ?_ ?_<;>repeat (first | exact trivial | refine And.intro rfl ?_)))) cl) cl) cl) cl) cl)).symm⟩
   ·refine ar ?_
    refine aE ?_
    refine iX 3 7 _ _ an rfl rfl ?_ ?_
    ·refine bI rfl te ?_
     refine aE ?_
     refine aV 7 _ an rfl ?_
     refine ar ?_
     refine aE ?_
     refine aV 10 _ an rfl ?_
     refine bI rfl pL ?_
     refine aE ?_
     refine aV 11 _ an rfl ?_
     refine ar ?_
     refine aE ?_
     refine aV 13 _ an rfl ?_
     refine ar ?_
     refine aE ?_
     refine eO an ?_
     refine ar ?_
     exact⟨_,trivial,((aj (aj (aj (aj (aj (bz (by first | exact cl | (refine aH ?_;refine iB ?_ ?_<;>repeat (first | exact trivial | refine And.intro rfl ?_)))) cl) cl) cl) cl) cl)).symm⟩
    ·refine ar ?_
     refine aE ?_
     refine aV 3 _ an rfl ?_
     refine bI rfl te ?_
     refine aE ?_
     refine aV 10 _ an rfl ?_
     refine bI rfl pL ?_
     refine aE ?_
     refine aV 11 _ an rfl ?_
     refine ar ?_
     refine aE ?_
     refine aV 13 _ an rfl ?_
     refine ar ?_
     refine aE ?_
     refine eO an ?_
     refine ar ?_
     exact⟨_,trivial,((aj (aj (aj (aj (aj (bz (by first | exact cl | (refine aH ?_;refine iB ?_ ?_<;>repeat (first | exact trivial | refine And.intro rfl ?_)))) cl) cl) cl) cl) cl)).symm⟩
  ·refine ar ?_
   refine aE ?_
   refine iX 0 12 _ _ an rfl rfl ?_ ?_
   ·refine ar ?_
    refine aE ?_
    refine iX 3 12 _ _ an rfl rfl ?_ ?_
    ·refine bI rfl te ?_
     refine aE ?_
     refine iX 10 12 _ _ an rfl rfl ?_ ?_
     ·refine bI rfl pL ?_
      refine aE ?_
      refine iX 11 12 _ _ an rfl rfl ?_ ?_
      ·refine ar ?_
       refine aE ?_
       refine aV 12 _ an rfl ?_
       refine ar ?_
       refine aE ?_
       refine aV 13 _ an rfl ?_
       refine ar ?_
       refine aE ?_
       refine eO an ?_
       refine ar ?_
       exact⟨_,trivial,((aj (aj (aj (aj (aj (bz (by first | exact cl | (refine aH ?_;refine iB ?_ ?_<;>repeat (first | exact trivial | refine And.intro rfl ?_)))) cl) cl) cl) cl) cl)).symm⟩
      ·refine ar ?_
       refine aE ?_
       refine aV 11 _ an rfl ?_
       refine ar ?_
       refine aE ?_
       refine aV 13 _ an rfl ?_
       refine ar ?_
       refine aE ?_
       refine eO an ?_
       refine ar ?_
       exact⟨_,trivial,((aj (aj (aj (aj (aj (bz (by first | exact cl | (refine aH ?_;refine iB ?_ ?_<;>repeat (first | exact trivial | refine And.intro rfl ?_)))) cl) cl) cl) cl) cl)).symm⟩
     ·refine ar ?_
      refine aE ?_
      refine aV 10 _ an rfl ?_
      refine bI rfl pL ?_
      refine aE ?_
      refine aV 11 _ an rfl ?_
      refine ar ?_
      refine aE ?_
      refine aV 13 _ an rfl ?_
      refine ar ?_
      refine aE ?_
      refine eO an ?_
      refine ar ?_
      exact⟨_,trivial,((aj (aj (aj (aj (aj (bz (by first | exact cl | (refine aH ?_;refine iB ?_ ?_<;>repeat (first | exact trivial | refine And.intro rfl ?_)))) cl) cl) cl) cl) cl)).symm⟩
    ·refine ar ?_
     refine aE ?_
     refine aV 3 _ an rfl ?_
     refine bI rfl te ?_
     refine aE ?_
     refine aV 10 _ an rfl ?_
     refine bI rfl pL ?_
     refine aE ?_
     refine aV 11 _ an rfl ?_
     refine ar ?_
     refine aE ?_
     refine aV 13 _ an rfl ?_
     refine ar ?_
     refine aE ?_
     refine eO an ?_
     refine ar ?_
     exact⟨_,trivial,((aj (aj (aj (aj (aj (bz (by first | exact cl | (refine aH ?_;refine iB ?_ ?_<;>repeat (first | exact trivial | refine And.intro rfl ?_)))) cl) cl) cl) cl) cl)).symm⟩
   ·refine ar ?_
    refine aE ?_
    refine aV 0 _ an rfl ?_
    refine ar ?_
    refine aE ?_
    refine aV 3 _ an rfl ?_
    refine bI rfl te ?_
    refine aE ?_
    refine aV 10 _ an rfl ?_
    refine bI rfl pL ?_
    refine aE ?_
    refine aV 11 _ an rfl ?_
    refine ar ?_
    refine aE ?_
    refine aV 13 _ an rfl ?_
    refine ar ?_
    refine aE ?_
    refine eO an ?_
    refine ar ?_
    exact⟨_,trivial,((aj (aj (aj (aj (aj (bz (by first | exact cl | (refine aH ?_;refine iB ?_ ?_<;>repeat (first | exact trivial | refine And.intro rfl ?_)))) cl) cl) cl) cl) cl)).symm⟩
  ·refine ar ?_
   refine aE ?_
   refine iX 0 7 _ _ an rfl rfl ?_ ?_
   ·refine ar ?_
    refine aE ?_
    refine iX 3 7 _ _ an rfl rfl ?_ ?_
    ·refine bI rfl te ?_
     refine aE ?_
     refine aV 7 _ an rfl ?_
     refine ar ?_
     refine aE ?_
     refine aV 10 _ an rfl ?_
     refine bI rfl pL ?_
     refine aE ?_
     refine aV 11 _ an rfl ?_
     refine ar ?_
     refine aE ?_
     refine aV 13 _ an rfl ?_
     refine ar ?_
     refine aE ?_
     refine eO an ?_
     refine ar ?_
     exact⟨_,trivial,((aj (aj (aj (aj (aj (bz (by first | exact cl | (refine aH ?_;refine iB ?_ ?_<;>repeat (first | exact trivial | refine And.intro rfl ?_)))) cl) cl) cl) cl) cl)).symm⟩
    ·refine ar ?_
     refine aE ?_
     refine aV 3 _ an rfl ?_
     refine bI rfl te ?_
     refine aE ?_
     refine aV 10 _ an rfl ?_
     refine bI rfl pL ?_
     refine aE ?_
     refine aV 11 _ an rfl ?_
     refine ar ?_
     refine aE ?_
     refine aV 13 _ an rfl ?_
     refine ar ?_
     refine aE ?_
     refine eO an ?_
     refine ar ?_
     exact⟨_,trivial,((aj (aj (aj (aj (aj (bz (by first | exact cl | (refine aH ?_;refine iB ?_ ?_<;>repeat (first | exact trivial | refine And.intro rfl ?_)))) cl) cl) cl) cl) cl)).symm⟩
   ·refine ar ?_
    refine aE ?_
    refine aV 0 _ an rfl ?_
    refine ar ?_
    refine aE ?_
    refine aV 3 _ an rfl ?_
    refine bI rfl te ?_
    refine aE ?_
    refine aV 10 _ an rfl ?_
    refine bI rfl pL ?_
    refine aE ?_
    refine aV 11 _ an rfl ?_
    refine ar ?_
    refine aE ?_
    refine aV 13 _ an rfl ?_
    refine ar ?_
    refine aE ?_
    refine eO an ?_
    refine ar ?_
    exact⟨_,trivial,((aj (aj (aj (aj (aj (bz (by first | exact cl | (refine aH ?_;refine iB ?_ ?_<;>repeat (first | exact trivial | refine And.intro rfl ?_)))) cl) cl) cl) cl) cl)).symm⟩
 ·rintro _ ⟨LR1,-,rfl⟩
  refine nn ?_
  try refine aH ?_
  refine ak rfl wI ?_
  refine bp ?_
  exact fS [6,13] rfl rfl rfl cs (dG cs rfl) va (.agg (.cons (eN (l:=x.1.set (eU x) s) bS rfl rfl aO) (.cons (.pure rfl) (.cons (eN (l:=x.2.2.set (eU x) (x.2.2.getD (eU x) 0+1)) m9 rfl rfl aO) .nil))))
namespace arp
theorem aH {p q:Prop} (k:q) (e:p=q:=by simp only [e1,e2,e3,e4,p1,p2,p3,q1,q2,q3,l1,t0,t1,r1,r2,r3,r4,Nat.zero_add,Nat.reduceMul,Nat.reduceAdd,b1,b2,b3,b4,b5,b6,i1,i2,i3,i4,i5,i6,Nat.reduceBEq,ht,jz,apX,Int.toNat_natCast,Nat.zero_add,els,vW,acS,List.length_map,List.set_cons_zero,List.set_cons_succ,Nat.reduceEqDiff,reduceIte,if_true,if_false,dW,ec,aP bg,aP bw,aP ao,cH,dO,LV.kill,bN];exact rfl):p:=e.mpr k
end arp
open arp in
theorem aiW (x:ez) (n D:Nat) (hn:x.1.length=n) (ht:x.2.2.length=n) (h0:0<n) (xG:n<=10) (hD:x.2.1<=D) (hD9:D<=1000) (htm:∀ t∈x.2.2,0<=t/\t<=1000) (R:Nat) (hR:R<=10000) (hs:∀ s∈x.1,db R s/\s.1<=s.2):av Tryz.prog 89 [.agg [.list 6 (x.1.map aD),ah x.2.1,.list 1 (x.2.2.map eW)]] (.a7 [jz (lL x),jz (lO x)]):=by
 have hbx:LV.pure (.agg [.list 6 (x.1.map aD),ah x.2.1,.list 1 (x.2.2.map eW)])=true:=so x
 have hpS:=aW bS x.1
 have hpT:=aW m9 x.2.2
 have bV:eU x<n:=by
  have:=abf (t:=x.2.2) x.2.2.length (Nat.le_refl _) J
  unfold eU;omega
 have htk:=htm _ (show x.2.2.getD (eU x) 0∈x.2.2 by rw [List.getD_eq_getElem?_getD,List.getElem?_eq_getElem J];exact List.getElem_mem J)
 have hsk:=hs (x.1.getD (eU x) default) (by rw [List.getD_eq_getElem?_getD,List.getElem?_eq_getElem J];exact List.getElem_mem J)
 have hH:=ayc (x.1.getD (eU x) default) R hR hsk.1 hsk.2
 have fG:aG ([.bW (.agg [.list 6 (x.1.map aD),ah x.2.1,.list 1 (x.2.2.map eW)]),.bW (ah (eU x))]:List LV)=true:=by simp [aG,LV.pure,aW bS,aW m9]
 have hcs:∀ y∈([.bW (.agg [.list 6 (x.1.map aD),ah x.2.1,.list 1 (x.2.2.map eW)]),.bW (ah (eU x))]:List LV),y.au=1/\y.isAgg=false:=fun y hy=>by
  simp only [List.mem_cons,List.not_mem_nil,or_false] at hy
  rcases hy with e | e<;>rw [e]<;>exact⟨rfl,rfl⟩
 have hA:=aoP x n D hn ht h0 xG hD hD9 htm (nX (x.1.getD (eU x) default))
 have hB:=aoP x n D hn ht h0 xG hD hD9 htm (oT (x.1.getD (eU x) default))
 refine aN Tryz.func89 (ht:=(jg (so _) (so _))) ?_
 have els:True:=trivial
 refine xL ?_
 refine dJ (fun(i:Nat) L=>((((((((St.mk L.slot (hp [(1,⟨3,[.agg [.list 6 (x.1.map aD),ah x.2.1,.list 1 (x.2.2.map eW)]],true⟩),(2,⟨3,[.agg [.v (.slice none 0 0),.v (.int .i64 0),.v (.slice none 0 0)]],true⟩),(3,⟨3,[.agg [.v (.slice none 0 0),.v (.int .i64 0),.v (.slice none 0 0)]],true⟩),(4,⟨1,[ah (vA x.2.2 i)],true⟩)])).put (some 1) (.az 1 3 0 0)).put (some 2) (.az 2 3 0 0)).put (some 3) (.az 3 3 0 0)).put (some 4) (.az 4 1 0 0)).put (some 11) (.list 1 (x.2.2.map eW))).put (some 12) (ah n)).put (some 13) (ah i))) (fun i=>i<=n) (fun i=>n-i) 0 (Nat.zero_le _) ?_
 rintro i L1 hi
 refine aA ?_
 refine aC rfl ?_ ?_<;>intro ot jS
 ·have dB:i<n:=by omega
  have hli:=abf (t:=x.2.2) i J J
  refine yd ?_
  refine aC rfl ?_ ?_<;>intro pw rn
  ·have els:vA x.2.2 (i+1)=i:=if_pos rn
   refine aR ?_
   refine ak rfl cB ?_
   refine aJ ?_
   exact jX
  ·have els:vA x.2.2 (i+1)=vA x.2.2 i:=if_neg rn
   refine ax ?_
   refine ak rfl cB ?_
   refine aJ ?_
   exact jX
 ·obtain rfl:n=i:=by omega
  have hE9:vA x.2.2 n=eU x:=by unfold eU;rw [ht]
  simp only [hE9]
  refine aR ?_
  refine mK [1,4] rfl rfl (.mk (caps:=([.bW (.agg [.list 6 (x.1.map aD),ah x.2.1,.list 1 (x.2.2.map eW)]),.bW (ah (eU x))]:List LV)) (.cons (.az rfl rfl rfl cs (dG cs rfl) hbx rfl) (.cons (.az (n:=1) (ag:=false) rfl rfl rfl rfl rfl rfl rfl) .nil)) hcs) rfl ?_
  refine bC ?_
  refine cp aK (hH) ?_
  refine bC ?_
  refine aY 6 an ?_
  refine aL ?_
  refine mK [] rfl rfl (.cV (f:=165) (cap:=([.bW (.agg [.list 6 (x.1.map aD),ah x.2.1,.list 1 (x.2.2.map eW)]),.bW (ah (eU x))]:List LV)) (args:=[aD (nX (x.1.getD (eU x) default))]) rfl (.cons (.pure (bS.pure _)) .nil) ⟨fG,hcs⟩ hA.1 ai (fun _ h=>by cases h)) (hA.2 _) ?_
  refine aL ?_
  refine mK [] rfl rfl (.cV (f:=165) (cap:=([.bW (.agg [.list 6 (x.1.map aD),ah x.2.1,.list 1 (x.2.2.map eW)]),.bW (ah (eU x))]:List LV)) (args:=[aD (oT (x.1.getD (eU x) default))]) rfl (.cons (.pure (bS.pure _)) .nil) ⟨fG,hcs⟩ hB.1 ai (fun _ h=>by cases h)) (hB.2 _) ?_
  refine a6 ?_
  exact ag1 [] rfl rfl rfl cs (dG cs rfl) va (.pure (so _)) rfl rfl cs (dG cs rfl) va (.pure (so _))
theorem spu (a b:Rat):aD (a,b)=.agg [ae a,ae b]:=by unfold aD;rfl
theorem ani {R:Nat} {s:Rat × Rat} (h:db R s):db R (me s):=⟨by show rl (-s.2)<=R;rw [afr];exact h.2,by show rl (-s.1)<=R;rw [afr];exact h.1⟩
theorem ar3 {R:Nat} {p q r s:Rat × Rat} (hp:db R p) (hq:db R q) (hr:db R r) (hs:db R s):db (4*R+1) (d2S p q r s):=(anM (adC hp hs) (adC hq hr)).le J
theorem axa {P:Program} {H:bK} {ρ:Operand->LV} {T:TypeId} (hl:ka P T [(3,true),(3,true)]) (hz:cU P T (aD (0,0))):aB P H ρ (.build T #[]) (aD (0,0)):=by
 have e:[ae 0,ae 0].map lay=[(3,true),(3,true)]:=by simp [lay,ao.au,ao.isAgg]
 rw [spu] at hz ⊢
 exact .build (zs:=[ae 0,ae 0]) (e ▸ hl) hz (by intro p hp;cases hp)
theorem ad3 {P:Program} {H:bK} {ρ:Operand->LV} {T E:TypeId} {n:Nat} {ag:Bool} {o0 o1:Operand} {z v0 v1:LV} (hT:P.underlying T=some (.array 2 E)) (t:bo P E n ag) (hz:cU P T (.agg [z,z])) (zl:lay z=(n,ag)) (h0:ρ o0=v0) (h1:ρ o1=v1)
  (l0:lay v0=(n,ag)) (l1:lay v1=(n,ag)) (p0:v0.pure=true) (sZ:v1.pure=true):aB P H ρ (.build T #[(0,o0),(1,o1)]) (.agg [v0,v1]):=by
 have:=aB.x7 (P:=P) (H:=H) (ρ:=ρ) (zs:=[z,z]) (ps:=#[(0,o0),(1,o1)]) hT t (by simp [zl]) hz (by
  intro p hp
  simp only [List.mem_cons,List.not_mem_nil,or_false] at hp
  rcases hp with rfl | rfl
  ·exact⟨_,rfl,by rw [h0,l0,zl],by rw [h0];exact LV.eE p0,by rw [h0];exact LV.dY p0⟩
  ·exact⟨_,rfl,by rw [h1,l1,zl],by rw [h1];exact LV.eE sZ,by rw [h1];exact LV.dY sZ⟩)
 simpa only [iC,List.map,List.foldl,List.set,h0,h1] using this
theorem lz {p:Prop} (h:p:=by first | rfl | simp [lay,LV.au,cF,qq,ao.au,bS.au,ao.isAgg,bS.isAgg]):p:=h
open H0 in
theorem ap2 (q:Rat) (h:rl q<=274877906944):av Tryz.prog 189 [ae q] (ae (-q)):=by
 refine aN Tryz.func189 ?_
 refine bq ?_
 refine cp aK (aij q J) ?_
 refine bq ?_
 refine dy 8 rfl ?_ ?_<;>intro ni h8
 ·refine aA ?_
  refine bI rfl (.afq rfl rfl rfl T4 (by first | exact adS ni | exact aet ni)) ?_
  refine bq ?_
  exact fk
 ·refine aA ?_
  refine bI rfl (.afq rfl rfl rfl T4 (by first | exact adS ni | exact aet ni)) ?_
  refine bq ?_
  exact fk
open fP in
theorem amY (s:Rat × Rat) (R:Nat) (hR:R<=1000000000) (hs:db R s):av Tryz.prog 102 [aD s] (aD (me s)):=by
 obtain⟨a1,a2⟩:=hs
 refine aN Tryz.func102 ?_
 refine aR ?_
 refine aY 7 an ?_
 refine aL ?_
 refine cp aK (ap2 s.2 J) ?_
 refine aL ?_
 refine cp aK (ap2 s.1 J) ?_
 refine a6 ?_
 exact rv
open fP in
theorem abt (s t:Rat × Rat) (R:Nat) (hR:R<=100000000000) (hs:db R s) (ht:db R t) (hm:jR s t=true):av Tryz.prog 97 [aD s,aD t] (.a7 [aD (fQ s.1 t.1,gj s.2 t.2),bL true]):=by
 obtain⟨a1,a2⟩:=hs
 obtain⟨y1,y2⟩:=ht
 have hle:=of_decide_eq_true hm
 have uU:rl (fQ s.1 t.1)<=R:=by unfold fQ;split<;>assumption
 have yE:rl (gj s.2 t.2)<=R:=by unfold gj;split<;>assumption
 have hcm:¬fh (fQ s.1 t.1) (gj s.2 t.2) > 0:=fun e=>by have:=rf.1 e;grind
 refine aN Tryz.func97 (ht:=(jg (bS.pure _) rfl)) ?_
 refine bq ?_
 refine aY 12 an ?_
 refine ax ?_
 refine cp aq ((aew s.1 t.1 J:av Tryz.prog 168 [ae s.1,ae t.1] (ae (fQ s.1 t.1)))) ?_
 refine ax ?_
 refine cp aq ((agh s.2 t.2 J:av Tryz.prog 167 [ae s.2,ae t.2] (ae (gj s.2 t.2)))) ?_
 refine bu ?_
 refine cp aq (lW (fQ s.1 t.1) (gj s.2 t.2) J) ?_
 refine aJ ?_
 refine eF (b:=_) rfl (decide_eq_false hcm) ?_
 refine bC ?_
 exact sE [] rfl rfl rfl (bS.au _) (yH _) lD (.pure (bS.pure _)) rfl (.pure rfl)
open fP in
theorem ai4 (s t:Rat × Rat) (R:Nat) (hR:R<=100000000000) (hs:db R s) (ht:db R t) (hm:jR s t=false):av Tryz.prog 97 [aD s,aD t] (.a7 [aD (0,0),bL false]):=by
 obtain⟨a1,a2⟩:=hs
 obtain⟨y1,y2⟩:=ht
 have hle:=of_decide_eq_false hm
 have uU:rl (fQ s.1 t.1)<=R:=by unfold fQ;split<;>assumption
 have yE:rl (gj s.2 t.2)<=R:=by unfold gj;split<;>assumption
 have hcm:fh (fQ s.1 t.1) (gj s.2 t.2) > 0:=rf.2 cA
 refine aN Tryz.func97 (ht:=(jg (bS.pure _) rfl)) ?_
 refine bq ?_
 refine aY 12 an ?_
 refine ax ?_
 refine cp aq ((aew s.1 t.1 J:av Tryz.prog 168 [ae s.1,ae t.1] (ae (fQ s.1 t.1)))) ?_
 refine ax ?_
 refine cp aq ((agh s.2 t.2 J:av Tryz.prog 167 [ae s.2,ae t.2] (ae (gj s.2 t.2)))) ?_
 refine bu ?_
 refine cp aq (lW (fQ s.1 t.1) (gj s.2 t.2) J) ?_
 refine aJ ?_
 refine bY (b:=_) rfl (decide_eq_true hcm) ?_
 refine aL ?_
 refine ak rfl (axa amU y9) ?_
 refine aA ?_
 exact sE [] rfl rfl rfl (bS.au _) (yH _) lD (.pure (bS.pure _)) rfl (.pure rfl)
namespace vp
theorem aH {p q:Prop} (k:q) (e:p=q:=by simp only [e1,e2,e3,e4,p1,p2,p3,q1,q2,q3,l1,t0,t1,r1,r2,r3,r4,Nat.zero_add,Nat.reduceMul,Nat.reduceAdd,b1,b2,b3,b4,b5,b6,i1,i2,i3,i4,i5,i6,Nat.reduceBEq,List.getD_cons_zero,List.getD_cons_succ,List.set_cons_zero,List.set_cons_succ,Nat.reduceEqDiff,reduceIte,if_true,if_false,dW,ec,aP bg,aP bw,aP ao,cH,dO,LV.kill,bN];exact rfl):p:=e.mpr k
end vp
open vp in
theorem awz (p q r s:Rat × Rat) (R:Nat) (hR:R<=100000000) (hp9:db R p) (hq9:db R q) (hr9:db R r) (hs9:db R s):av Tryz.prog 101 [.agg [.agg [aD p,aD q],.agg [aD r,aD s]]] (aD (d2S p q r s)):=by
 have m1:=adC hp9 hs9
 have m2:=adC hq9 hr9
 refine aN Tryz.func101 (ht:=(fun r=>LV.cP r _ (bS.pure _))) ?_
 refine aR ?_
 refine aY 15 an ?_
 refine aA ?_
 refine cp aq (ajA p s R J hp9 hs9) ?_
 refine aA ?_
 refine cp aq (ajA q r R J hq9 hr9) ?_
 refine cp aq (aqG (xC p s) (xC q r) (R+R) J m1 m2) ?_
 refine ax ?_
 exact rv
open vp in
theorem axB (a b:o5) (R:Nat) (hR:R<=100000000000) (ha:nq R a) (hb:nq R b) (fV:jR a.x b.x=true) (iF:jR a.y b.y=true) (dZ:jR a.z b.z=true):av Tryz.prog 44 [lN a,lN b] (bL true):=by
 obtain⟨a1,a2,a3⟩:=ha
 obtain⟨y1,y2,y3⟩:=hb
 refine aN Tryz.func44 ?_
 refine dk ?_
 refine bG ?_
 refine aA ?_
 refine bY (b:=_) rfl ai ?_
 refine bp ?_
 refine fY 11 [9] an ?_
 refine aA ?_
 refine cp aq (abt a.x b.x R hR a1 y1 fV) ?_
 refine dk ?_
 refine eF (b:=_) rfl (rfl) ?_
 refine aJ ?_
 refine cq (aw.kill _ 6) ?_
 refine ax ?_
 refine bG ?_
 refine aA ?_
 refine bY (b:=_) rfl ai ?_
 refine bp ?_
 refine fY 11 [9] an ?_
 refine aA ?_
 refine cp aq (abt a.y b.y R hR a2 y2 iF) ?_
 refine dk ?_
 refine eF (b:=_) rfl (rfl) ?_
 refine aJ ?_
 refine cq (aw.kill _ 6) ?_
 refine ax ?_
 refine bG ?_
 refine aA ?_
 refine bY (b:=_) rfl ai ?_
 refine bp ?_
 refine fY 11 [9] an ?_
 refine aA ?_
 refine cp aq (abt a.z b.z R hR a3 y3 dZ) ?_
 refine dk ?_
 refine eF (b:=_) rfl (rfl) ?_
 refine aJ ?_
 refine cq (aw.kill _ 6) ?_
 refine ax ?_
 refine bG ?_
 refine aA ?_
 refine eF (b:=_) rfl ai ?_
 refine bp ?_
 exact mF
open vp in
theorem axX (a b:o5) (R:Nat) (hR:R<=100000000000) (ha:nq R a) (hb:nq R b) (fV:jR a.x b.x=true) (iF:jR a.y b.y=true) (dZ:jR a.z b.z=false):av Tryz.prog 44 [lN a,lN b] (bL false):=by
 obtain⟨a1,a2,a3⟩:=ha
 obtain⟨y1,y2,y3⟩:=hb
 refine aN Tryz.func44 ?_
 refine dk ?_
 refine bG ?_
 refine aA ?_
 refine bY (b:=_) rfl ai ?_
 refine bp ?_
 refine fY 11 [9] an ?_
 refine aA ?_
 refine cp aq (abt a.x b.x R hR a1 y1 fV) ?_
 refine dk ?_
 refine eF (b:=_) rfl (rfl) ?_
 refine aJ ?_
 refine cq (aw.kill _ 6) ?_
 refine ax ?_
 refine bG ?_
 refine aA ?_
 refine bY (b:=_) rfl ai ?_
 refine bp ?_
 refine fY 11 [9] an ?_
 refine aA ?_
 refine cp aq (abt a.y b.y R hR a2 y2 iF) ?_
 refine dk ?_
 refine eF (b:=_) rfl (rfl) ?_
 refine aJ ?_
 refine cq (aw.kill _ 6) ?_
 refine ax ?_
 refine bG ?_
 refine aA ?_
 refine bY (b:=_) rfl ai ?_
 refine bp ?_
 refine fY 11 [9] an ?_
 refine aA ?_
 refine cp aq (ai4 a.z b.z R hR a3 y3 dZ) ?_
 refine dk ?_
 refine bY (b:=_) rfl (rfl) ?_
 refine bp ?_
 exact mF
open vp in
theorem avs (a b:o5) (R:Nat) (hR:R<=100000000000) (ha:nq R a) (hb:nq R b) (fV:jR a.x b.x=true) (iF:jR a.y b.y=false):av Tryz.prog 44 [lN a,lN b] (bL false):=by
 obtain⟨a1,a2,a3⟩:=ha
 obtain⟨y1,y2,y3⟩:=hb
 refine aN Tryz.func44 ?_
 refine dk ?_
 refine bG ?_
 refine aA ?_
 refine bY (b:=_) rfl ai ?_
 refine bp ?_
 refine fY 11 [9] an ?_
 refine aA ?_
 refine cp aq (abt a.x b.x R hR a1 y1 fV) ?_
 refine dk ?_
 refine eF (b:=_) rfl (rfl) ?_
 refine aJ ?_
 refine cq (aw.kill _ 6) ?_
 refine ax ?_
 refine bG ?_
 refine aA ?_
 refine bY (b:=_) rfl ai ?_
 refine bp ?_
 refine fY 11 [9] an ?_
 refine aA ?_
 refine cp aq (ai4 a.y b.y R hR a2 y2 iF) ?_
 refine dk ?_
 refine bY (b:=_) rfl (rfl) ?_
 refine bp ?_
 exact mF
open vp in
theorem asD (a b:o5) (R:Nat) (hR:R<=100000000000) (ha:nq R a) (hb:nq R b) (fV:jR a.x b.x=false):av Tryz.prog 44 [lN a,lN b] (bL false):=by
 obtain⟨a1,a2,a3⟩:=ha
 obtain⟨y1,y2,y3⟩:=hb
 refine aN Tryz.func44 ?_
 refine dk ?_
 refine bG ?_
 refine aA ?_
 refine bY (b:=_) rfl ai ?_
 refine bp ?_
 refine fY 11 [9] an ?_
 refine aA ?_
 refine cp aq (ai4 a.x b.x R hR a1 y1 fV) ?_
 refine dk ?_
 refine bY (b:=_) rfl (rfl) ?_
 refine bp ?_
 exact mF
theorem aBd (a b:o5) (R:Nat) (hR:R<=100000000000) (ha:nq R a) (hb:nq R b):av Tryz.prog 44 [lN a,lN b] (bL (meB a b)):=by
 unfold meB
 cases h0:jR a.x b.x with
 | false=>exact asD a b R hR ha hb h0
 | true =>
  cases h1:jR a.y b.y with
  | false=>exact avs a b R hR ha hb h0 h1
  | true =>
   cases h2:jR a.z b.z with
   | false=>exact axX a b R hR ha hb h0 h1 h2
   | true=>exact axB a b R hR ha hb h0 h1 h2
open fP in
theorem aCW (s:Rat × Rat) (h1:rl s.1<=200000000000) (h2:rl s.2<=200000000000):av Tryz.prog 256 [aD s] (.a7 [iL (if cM s.1=cM s.2 then cM s.1 else 0),bL (decide (cM s.1=cM s.2))]):=by
 refine aN Tryz.func256 (ht:=(jg rfl rfl)) ?_
 refine bf ?_
 refine aY 8 an ?_
 refine aL ?_
 refine cp aK (vB _ J) ?_
 refine aL ?_
 refine cp aK (vB _ J) ?_
 refine bu ?_
 refine aC rfl ?_ ?_<;>intro ot jS
 ·refine bf ?_
  rw [if_neg jS,decide_eq_false jS]
  exact vd
 ·refine bC ?_
  have aqe:cM s.1=cM s.2:=by simpa using jS
  rw [if_pos aqe,decide_eq_true aqe]
  exact vd
namespace anZ
theorem aH {p q:Prop} (k:q) (e:p=q:=by simp only [e1,e2,e3,e4,p1,p2,p3,q1,q2,q3,l1,t0,t1,r1,r2,r3,r4,Nat.zero_add,Nat.reduceMul,Nat.reduceAdd,b1,b2,b3,b4,b5,b6,i1,i2,i3,i4,i5,i6,Nat.reduceBEq,fD,gv,aP bg,List.length_map,k5,kI,iz,List.length_cons,List.length_nil,List.nil_append,List.map_nil,List.take_nil,List.append_nil,List.set_cons_zero,List.set_cons_succ,Nat.reduceEqDiff,reduceIte,if_true,if_false,dW,ec,aP bg,aP bw,aP ao,cH,dO,LV.kill,bN];exact rfl):p:=e.mpr k
end anZ
open anZ in
theorem alV (po:List aF) (h0:0<po.length) (hl:po.length<=1000):av Tryz.prog 110 [.list 12 (po.map aT)] (.list 9 ((po.map (·.p)).map aS)):=by
 refine aN Tryz.func110 (ht:=(fun g=>LV.cP g _ (et bg _ _))) ?_
 have fD:True:=trivial
 have gv:True:=trivial
 refine mV ?_
 refine jo (aw.own (t:=3) 16 9 rfl rfl) ?_
 refine dJ (fun(j:Nat) L=>(((((St.mk L.slot (hp [(16,⟨9,((po.map (·.p)).take j).map aS,true⟩)])).put (some 3) (.ref 16 9 0 j)).put (some 6) (.list 12 (po.map aT))).put (some 7) (ah po.length)).put (some 8) (ah j))) (fun j=>j<=po.length) (fun j=>po.length-j) 0 (Nat.zero_le _) ?_
 rintro j L1 hj
 refine aA ?_
 refine aC rfl ?_ ?_<;>intro tf h9
 ·have gY:j<po.length:=by omega
  have gv:(po.map (·.p)).take j++[(po.getD j default).p]=(po.map (·.p)).take (j+1):=zO (fun q:aF=>q.p) po gY
  have fD:(((po.map (·.p)).take j).map aS).take j=((po.map (·.p)).take j).map aS:=List.take_of_length_le bm
  refine im ?_
  refine bI rfl (.fX (d:=16) (news:=[aS (po.getD j default).p]) rfl rfl rfl rfl bm (.inl rfl) ai Tryz.underlying165 Tryz.underlying165 Z40 ig cs B40 (.inl ⟨15,0,_,rfl,by decide,rfl,rfl,by simp,rfl,by simp [aG,bg.pure]⟩) bm bm ai) ?_
  refine ax ?_
  refine cq ((aw.kill _ 5).trans (aw.kill _ 15)) ?_
  refine ak rfl cB ?_
  refine aJ ?_
  exact vx
 ·obtain rfl:j=po.length:=by omega
  have hE:(po.map (·.p)).take po.length=(po.map (·.p)):=List.take_of_length_le aO
  refine bu ?_
  simp only [hE]
  exact mz [16] rfl rfl (eN bg rfl rfl aO)
namespace aqS
theorem aH {p q:Prop} (k:q) (e:p=q:=by simp only [e1,e2,e3,e4,p1,p2,p3,q1,q2,q3,l1,t0,t1,r1,r2,r3,r4,Nat.zero_add,Nat.reduceMul,Nat.reduceAdd,b1,b2,b3,b4,b5,b6,i1,i2,i3,i4,i5,i6,Nat.reduceBEq,cx,uC,egd,List.length_map,List.set_cons_zero,List.set_cons_succ,Nat.reduceEqDiff,reduceIte,if_true,if_false,dW,ec,aP bg,aP bw,aP ao,cH,dO,LV.kill,bN];exact rfl):p:=e.mpr k
end aqS
open aqS in
theorem anX (p:V3) (l:List V3) (R:Nat) (hR:R<=90000000) (yw:ck R p) (h0:0<l.length) (hl9:l.length<=1000) (hl:∀ q∈l,ck R q):av Tryz.prog 257 [aS p,.list 9 (l.map aS)] (aD (tp p l)):=by
 have kT:∀ q∈l,rl (de p q)<=10*R+10:=fun q hq=>by
  obtain⟨a1,a2,a3⟩:=yw
  obtain⟨y1,y2,y3⟩:=hl q hq
  have e0:=cO p.x q.x
  have e5:=cO p.y q.y
  have e6:=cO p.z q.z
  have e7:=jq (0+p.x*q.x) (p.y*q.y)
  have e8:=jq (0+p.x*q.x+p.y*q.y) (p.z*q.z)
  have e9:(0:Rat)+p.x*q.x=p.x*q.x:=by grind
  unfold de
  rw [e9] at e7 e8 ⊢
  omega
 have hdR:∀ x∈l.map (de p),rl x<=10*R+10:=fun x hx=>by
  obtain⟨q,hq,rfl⟩:=List.mem_map.1 hx
  exact kT q hq
 refine aN Tryz.func257 (ht:=(fun r=>LV.cP r _ (bS.pure _))) ?_
 have uC:True:=trivial
 have egd:True:=trivial
 refine nj ?_
 refine dJ (fun(i:Nat) L=>(((((((St.mk L.slot (hp [(2,⟨9,[aS p],true⟩),(4,⟨6,[aD (0,0)],true⟩),(5,⟨6,[aD (l7 (l.map (de p)) i)],true⟩)])).put (some 2) (.az 2 9 0 0)).put (some 4) (.az 4 6 0 0)).put (some 5) (.az 5 6 0 0)).put (some 9) (.list 9 (l.map aS))).put (some 10) (ah l.length)).put (some 11) (ah i))) (fun i=>i<=l.length) (fun i=>l.length-i) 0 (Nat.zero_le _) ?_
 rintro i L1 hi
 refine aA ?_
 refine aC rfl ?_ ?_<;>intro aav h12
 ·have dB:i<l.length:=by omega
  have hli:=hl (l.getD i default) (by rw [List.getD_eq_getElem?_getD,List.getElem?_eq_getElem dB];exact List.getElem_mem dB)
  have hdi:=kT (l.getD i default) (by rw [List.getD_eq_getElem?_getD,List.getElem?_eq_getElem dB];exact List.getElem_mem dB)
  have egd:(l.map (de p)).getD i 0=de p (l.getD i default):=by rw [List.getD_eq_getElem?_getD,List.getElem?_map,List.getElem?_eq_getElem dB,List.getD_eq_getElem?_getD,List.getElem?_eq_getElem dB];rfl
  have g8:=ahX (R:=10*R+10) J hdR
  have xt:=ajy (R:=10*R+10) J g8 i
  have uC:l7 (l.map (de p)) (i+1)=mM (if i=0 then((l.map (de p)).getD i 0,(l.map (de p)).getD i 0) else l7 (l.map (de p)) i) ((l.map (de p)).getD i 0,(l.map (de p)).getD i 0):=rfl
  rw [egd] at uC
  have hVD:=acu p (l.getD i default) R J yw hli
  refine nn ?_
  refine cp aq (hVD) ?_
  refine cp aK (pF (de p (l.getD i default)) J) ?_
  refine bp ?_
  refine aC rfl ?_ ?_<;>intro yP h21
  ·have nF:i=0:=by omega
   rw [if_pos nF] at uC
   refine bf ?_
   first | refine cp aq (sa (l7 (l.map (de p)) i) (de p (l.getD i default),de p (l.getD i default)) (by have:=xt.1;show _+rl (de p (l.getD i default))<=_;omega) (by have:=xt.2;show _+rl (de p (l.getD i default))<=_;omega)) ?_ | refine cp aq (sa (de p (l.getD i default),de p (l.getD i default)) (de p (l.getD i default),de p (l.getD i default)) ad0 ad0) ?_
   refine ax ?_
   refine cq ((aw.kill _ 7).trans (aw.kill _ 8)) ?_
   refine ak rfl cB ?_
   refine aJ ?_
   exact jX
  ·have nF:¬ i=0:=by omega
   rw [if_neg nF] at uC
   refine a6 ?_
   first | refine cp aq (sa (l7 (l.map (de p)) i) (de p (l.getD i default),de p (l.getD i default)) (by have:=xt.1;show _+rl (de p (l.getD i default))<=_;omega) (by have:=xt.2;show _+rl (de p (l.getD i default))<=_;omega)) ?_ | refine cp aq (sa (de p (l.getD i default),de p (l.getD i default)) (de p (l.getD i default),de p (l.getD i default)) ad0 ad0) ?_
   refine ax ?_
   refine cq ((aw.kill _ 7).trans (aw.kill _ 8)) ?_
   refine ak rfl cB ?_
   refine aJ ?_
   exact jX
 ·obtain rfl:l.length=i:=by omega
  have hE9:l7 (l.map (de p)) l.length=tp p l:=by unfold tp gy;rw [List.length_map]
  refine bu ?_
  rw [<-hE9]
  exact rv
theorem ame {r:V3} {R:Nat} {l:List V3} (hr:ck R r) (hl:∀ q∈l,ck R q):db (10*R+10) (tp r l):=by
 unfold tp
 refine adX J fun x hx=>?_
 obtain⟨q,hq,rfl⟩:=List.mem_map.1 hx
 have:=zL hr (hl q hq)
 omega
theorem atc {x y:Int} (h1:-1<=x/\x<=1) (h2:-1<=y/\y<=1):-1<=x*y/\x*y<=1:=by
 obtain⟨a,b⟩:=h1
 obtain⟨c,d⟩:=h2
 rcases(show x=-1\/x=0\/x=1 by omega) with rfl | rfl | rfl<;>rcases(show y=-1\/y=0\/y=1 by omega) with rfl | rfl | rfl<;>decide
theorem aCX (s t:Rat × Rat):tb s t=(decide (cM s.1=cM s.2) && (decide (cM t.1=cM t.2) && decide ((if cM s.1=cM s.2 then cM s.1 else 0)*(if cM t.1=cM t.2 then cM t.1 else 0)<0))):=by
 unfold tb
 by_cases h1:cM s.1=cM s.2
 ·by_cases h2:cM t.1=cM t.2
  ·rw [if_pos h1,if_pos h2,Bool.and_assoc]
  ·rw [decide_eq_false h2];simp
 ·rw [decide_eq_false h1];simp
theorem aCf (x:Rat):-1<=cM x/\cM x<=1:=by
 unfold cM
 split
 ·decide
 ·split<;>decide
theorem aoR (s:Rat × Rat):-1<=(if cM s.1=cM s.2 then cM s.1 else 0)/\(if cM s.1=cM s.2 then cM s.1 else 0)<=1:=by
 split
 ·exact aCf _
 ·decide
open fP in
theorem alY (r:V3) (R:Nat) (hR:R<=90000000) (hr:ck R r) (lp lq:List V3) (agU:0<lp.length) (ag6:lp.length<=1000) (zp:∀ q∈lp,ck R q) (aha:0<lq.length) (ajT:lq.length<=1000) (kv:∀ q∈lq,ck R q):av Tryz.prog 202 [.agg [.list 9 (lp.map aS),.list 9 (lq.map aS)],aS r] (.a7 [iL (if cM (jr r lp lq).1=cM (jr r lp lq).2 then cM (jr r lp lq).1 else 0),bL (decide (cM (jr r lp lq).1=cM (jr r lp lq).2))]):=by
 have asq:=anX r lp R hR hr agU ag6 zp
 have apa:db (10*R+10) (tp r lp):=ame hr zp
 have az4:=anX r lq R hR hr aha ajT kv
 have akQ:db (10*R+10) (tp r lq):=ame hr kv
 have bsd:=anM apa akQ
 obtain⟨bs1,bs2⟩:=bsd
 refine aN Tryz.func202 (ht:=(jg rfl rfl)) ?_
 refine bq ?_
 refine aY 14 an ?_
 refine aJ ?_
 refine cp aq (asq) ?_
 refine aJ ?_
 refine cp aq (az4) ?_
 refine cp aq (aqG (tp r lp) (tp r lq) (10*R+10) J apa akQ) ?_
 refine cp aK (aCW (jr r lp lq) (Nat.le_trans bs1 J) (Nat.le_trans bs2 J)) ?_
 refine aR ?_
 exact vd
open fP in
theorem aqi (r:V3) (R:Nat) (hR:R<=90000000) (hr:ck R r) (lp lq lu lv:List V3) (agU:0<lp.length) (ag6:lp.length<=1000) (zp:∀ q∈lp,ck R q) (aha:0<lq.length) (ajT:lq.length<=1000) (kv:∀ q∈lq,ck R q) (aBw:0<lu.length) (atP:lu.length<=1000) (fA:∀ q∈lu,ck R q) (avC:0<lv.length) (aze:lv.length<=1000) (hlv:∀ q∈lv,ck R q):av Tryz.prog 112 [aS r,.agg [.list 9 (lp.map aS),.list 9 (lq.map aS)],.agg [.list 9 (lu.map aS),.list 9 (lv.map aS)]] (bL (tb (jr r lp lq) (jr r lu lv))):=by
 have g1:=aoR (jr r lp lq)
 have g2:=aoR (jr r lu lv)
 have hm:=atc g1 g2
 have hoe:=aCX (jr r lp lq) (jr r lu lv)
 have aDa:LV.pure (.agg [.list 9 (lp.map aS),.list 9 (lq.map aS)])=true:=by simp [LV.pure,aG,aW bg]
 have aDk:LV.pure (.agg [.list 9 (lu.map aS),.list 9 (lv.map aS)])=true:=by simp [LV.pure,aG,aW bg]
 refine aN Tryz.func112 ?_
 refine bu ?_
 refine cp aq (alY r R hR hr lp lq agU ag6 zp aha ajT kv) ?_
 refine bp ?_
 refine cp aq (alY r R hR hr lu lv aBw atP fA avC aze hlv) ?_
 refine bp ?_
 refine dy 24 rfl ?_ ?_<;>intro pw rn
 ·refine aJ ?_
  refine dy 27 rfl ?_ ?_<;>intro vq h27
  ·refine aL ?_
   refine ak (aZ (v:=true) rfl rfl (vq) rfl) (.bin rfl rfl (aeN J J)) ?_
   refine aA ?_
   rw [hoe,pw,vq]
   exact mF
  ·refine bq ?_
   rw [hoe,pw,vq]
   exact mF
 ·refine bu ?_
  rw [hoe,pw]
  exact mF
open fP in
theorem anb (q:aF) (R:Nat) (hR:R<=1000000) (h:ow R q):av Tryz.prog 201 [aT q] (aT q):=by
 obtain⟨hp,hw,kJ⟩:=h
 have qD:rl 0=1:=rfl
 have hA:=iw q.w 0 J
 rw [Rat.add_zero] at hA
 have hz:ck 1 (⟨0,0,0⟩:V3):=⟨by decide,by decide,by decide⟩
 have hV:av Tryz.prog 255 [aS q.p,aS ⟨0,0,0⟩] (aS q.p):=by
  have:=aBh q.p ⟨0,0,0⟩ (R+1) J (hp.le J) (hz.le J)
  rwa [show pP q.p ⟨0,0,0⟩=q.p from by unfold pP;simp only [Rat.add_zero]] at this
 refine aN Tryz.func201 (ht:=(fun g=>LV.cP g _ (bw.pure _))) ?_
 refine aR ?_
 refine aY 9 an ?_
 refine aL ?_
 refine pY auv ?_
 refine cp aq (hV) ?_
 refine aL ?_
 refine ak rfl ob ?_
 refine cp aq (hA) ?_
 refine pY (zc rfl rfl) ?_
 refine ax ?_
 exact fS [] rfl rfl rfl cs (dG cs rfl) rQ (.pure pu)
namespace ajH
theorem aH {p q:Prop} (k:q) (e:p=q:=by simp only [e1,e2,e3,e4,p1,p2,p3,q1,q2,q3,l1,t0,t1,r1,r2,r3,r4,Nat.zero_add,Nat.reduceMul,Nat.reduceAdd,b1,b2,b3,b4,b5,b6,i1,i2,i3,i4,i5,i6,Nat.reduceBEq,List.length_map,List.set_cons_zero,List.set_cons_succ,Nat.reduceEqDiff,reduceIte,if_true,if_false,dW,ec,aP bg,aP bw,aP ao,cH,dO,LV.kill,bN];exact rfl):p:=e.mpr k
end ajH
open ajH in
theorem ayu (d:Nat) (kn:List Rat) (po:List aF) (R:Nat) (hR:R<=1000000) (h:ke po d R):av Tryz.prog 111 [.agg [ah d,.list 3 (kn.map ae),.list 12 (po.map aT)]] (.a7 [aS (po.getD 0 default).p,aS (po.getD (po.length-1) default).p]):=by
 have hl:=h.hl
 have h6:=h.h6
 have fG:LV.pure (.agg [ah d,.list 3 (kn.map ae),.list 12 (po.map aT)])=true:=by simp [LV.pure,aG,aW ao,aW bw]
 have tA:=anb (po.getD 0 default) R hR (h.ok _ (qI J))
 have x6:=anb (po.getD (po.length-1) default) R hR (h.ok _ (qI J))
 refine aN Tryz.func111 (ht:=(jg (bg.pure _) (bg.pure _))) ?_
 refine mA ?_
 refine aC rfl ?_ ?_<;>intro h7r h7
 ·omega
 ·refine aJ ?_
  refine atF rfl 16 2 [6,7,8,9,10,11,12,13,14,15] an rfl ?_
  simp only [List.take_succ_cons,List.take_zero,e1,e2,e3,e4,p1,p2,p3,q1,q2,q3,l1,t0,t1,r1,r2,r3,r4,Nat.zero_add,Nat.reduceMul,Nat.reduceAdd,b1,b2,b3,b4,b5,b6,i1,i2,i3,i4,i5,i6,Nat.reduceBEq,bh7,dh1,dh2,dh3]
  refine ax ?_
  refine cp aK (tA) ?_
  refine aA ?_
  refine ak rfl jm ?_
  refine aL ?_
  refine cp aK (x6) ?_
  refine ar ?_
  refine aAY rfl rfl (fun om h=>by cases h;exact⟨_,_,_,_,_,rfl,rfl⟩) ?_
  simp only [List.drop_succ_cons,List.drop_zero]
  refine a6 ?_
  exact ag1 [] rfl rfl rfl cs (dG cs rfl) ig (.pure pu) rfl rfl cs (dG cs rfl) ig (.pure pu)
structure M3 where
 a:V3
 b:V3
 c:V3
 t:V3
 deriving Inhabited
def dV (m:M3):LV:=.agg [.agg [aS m.a,aS m.b,aS m.c],aS m.t]
theorem dN:gL dV 36 true:=⟨fun m=>by simp [dV,LV.au,cF,bg.au],fun _=>rfl,fun m=>by simp [dV,LV.pure,aG,bg.pure]⟩
def zd (m:M3) (p:V3):V3:=⟨de m.a p,de m.b p,de m.c p⟩
def m3p (m:M3) (p:V3):V3:=pP (zd m p) m.t
def qg (m:M3) (q:aF):aF:=⟨m3p m q.p,q.w⟩
def qP (R:Nat) (m:M3):Prop:=ck R m.a/\ck R m.b/\ck R m.c/\ck R m.t
theorem aj8 {R S:Nat} {m:M3} {p:V3} (hm:qP R m) (hp:ck S p):ck (3*(R+S)+4) (zd m p):=⟨zL hm.1 hp,zL hm.2.1 hp,zL hm.2.2.1 hp⟩
instance:EC Tryz.prog 68 dV 36 true ⟨⟨0,0,0⟩,⟨0,0,0⟩,⟨0,0,0⟩,⟨0,0,0⟩⟩:=⟨dN,Z68,uE⟩
theorem aes (p:V3):(aS p).at 0 9 true=some (aS p):=dG (bg.au p) rfl
theorem abM (m:M3):(dV m).at 0 9 true=some (aS m.a):=by
 simp [dV,LV.at,qY,LV.au,cF,bg.au,aes]
theorem acD (m:M3):(dV m).at 9 9 true=some (aS m.b):=by
 simp [dV,LV.at,qY,LV.au,cF,bg.au,aes]
theorem afW (m:M3):(dV m).at 18 9 true=some (aS m.c):=by
 simp [dV,LV.at,qY,LV.au,cF,bg.au,aes]
theorem akx (m:M3):(dV m).at 27 9 true=some (aS m.t):=by
 simp [dV,LV.at,qY,LV.au,cF,bg.au,aes]
theorem ab7 (m:M3) (b:Nat):(dV m).kill b=dV m:=LV.ki b _ (dN.pure m)
section
variable {P:Program} {H:bK} {ρ:Operand->LV} {T E:TypeId}
theorem agJ {o0 o1 o2:Operand} {a b c:V3} [u:UN P T (.array 3 E)] [t:TI P E 9 true] [z:ZI P T (.agg [aS ⟨0,0,0⟩,aS ⟨0,0,0⟩,aS ⟨0,0,0⟩])] (h0:ρ o0=aS a) (h1:ρ o1=aS b) (h2:ρ o2=aS c) :
  aB P H ρ (.build T #[(0,o0),(1,o1),(2,o2)]) (.agg [aS a,aS b,aS c]):=by
 have:=aB.uJ (H:=H) (ρ:=ρ) (ps:=#[(0,o0),(1,o1),(2,o2)]) (u:=u) (t:=t) (z:=z) (by simp [lay,bg.au,bg.isAgg]) (by
  intro p hp
  simp only [List.mem_cons,List.not_mem_nil,or_false] at hp
  rcases hp with rfl | rfl | rfl
  ·exact⟨_,rfl,by rw [h0];simp [lay,bg.au,bg.isAgg],by rw [h0];exact LV.eE (bg.pure _),by rw [h0];exact LV.dY (bg.pure _)⟩
  ·exact⟨_,rfl,by rw [h1];simp [lay,bg.au,bg.isAgg],by rw [h1];exact LV.eE (bg.pure _),by rw [h1];exact LV.dY (bg.pure _)⟩
  ·exact⟨_,rfl,by rw [h2];simp [lay,bg.au,bg.isAgg],by rw [h2];exact LV.eE (bg.pure _),by rw [h2];exact LV.dY (bg.pure _)⟩)
 simpa only [iC,List.map,List.foldl,List.set,h0,h1,h2] using this
end
instance:ZI Tryz.prog 66 (.agg [aS ⟨0,0,0⟩,aS ⟨0,0,0⟩,aS ⟨0,0,0⟩]):=⟨Z66⟩
instance:ZI Tryz.prog 68 (.agg [.agg [aS ⟨0,0,0⟩,aS ⟨0,0,0⟩,aS ⟨0,0,0⟩],aS ⟨0,0,0⟩]):=⟨Z68⟩
instance:AE Tryz.prog 68 dV 36 true ⟨⟨0,0,0⟩,⟨0,0,0⟩,⟨0,0,0⟩,⟨0,0,0⟩⟩:=⟨dN,Z68⟩
open fP in
theorem aAC (p q r:V3) (R:Nat) (hR:R<=200000000) (hp:ck R p) (hq:ck R q) (hr:ck R r):av Tryz.prog 253 [aS p,aS q,aS r] (ae (de p (gO q r))):=by
 have hx:=yQ hq hr
 refine aN Tryz.func253 ?_
 refine bq ?_
 refine aY 5 an ?_
 refine aJ ?_
 refine cp aq (ae9 q r R J hq hr) ?_
 refine cp aq (acu p (gO q r) (4*R+5) J (hp.le J) hx) ?_
 refine ax ?_
 exact fk
namespace aiF
theorem aH {p q:Prop} (k:q) (e:p=q:=by simp only [e1,e2,e3,e4,p1,p2,p3,q1,q2,q3,l1,t0,t1,r1,r2,r3,r4,Nat.zero_add,Nat.reduceMul,Nat.reduceAdd,b1,b2,b3,b4,b5,b6,i1,i2,i3,i4,i5,i6,Nat.reduceBEq,ab7,List.set_cons_zero,List.set_cons_succ,Nat.reduceEqDiff,reduceIte,if_true,if_false,dW,ec,aP bg,aP bw,aP ao,cH,dO,LV.kill,bN];exact rfl):p:=e.mpr k
end aiF
open aiF in
theorem aqx (m:M3) (R:Nat) (hR:R<=200000000) (hm:qP R m):av Tryz.prog 197 [dV m] (ae (de m.a (gO m.b m.c))):=by
 obtain⟨iF,dZ,od,mi⟩:=hm
 refine aN Tryz.func197 ?_
 refine bC ?_
 refine ak rfl (.fi rfl rfl rfl rfl (dN.au m) (abM m) ig) ?_
 refine aL ?_
 refine ak rfl (.fi rfl rfl rfl rfl (dN.au m) (acD m) ig) ?_
 refine aL ?_
 refine ak rfl (.fi rfl rfl rfl rfl (dN.au m) (afW m) ig) ?_
 refine cp fH (aAC m.a m.b m.c R hR iF dZ od) ?_
 refine ax ?_
 exact fk
def trM (a b c:V3):LV:=.agg [aS a,aS b,aS c]
theorem ahV (a b c:V3):(trM a b c).pure=true:=by simp only [trM,LV.pure,aG,bg.pure,Bool.and_self]
theorem apN (m:M3) (q:V3):(dV m).put 27 (aS q)=some (dV ⟨m.a,m.b,m.c,q⟩):=by
 have hq:(aS m.t).put 0 (aS q)=some (aS q):=ptp
 simp [dV,LV.put,vz,LV.au,cF,bg.au,hq]
theorem at8 (m:M3):(dV m).at 0 27 true=some (.agg [aS m.a,aS m.b,aS m.c]):=by
 simp [dV,LV.at,qY,LV.au,cF,bg.au,qq]
open vp in
theorem aCN (a b c:V3) (R:Nat) (hR:R<=1000000000) (ha:ck R a) (hb:ck R b) (hc:ck R c):av Tryz.prog 199 [.agg [aS a,aS b,aS c]] (.agg [aS ⟨a.x,b.x,c.x⟩,aS ⟨a.y,b.y,c.y⟩,aS ⟨a.z,b.z,c.z⟩]):=by
 obtain⟨a1,a2,a3⟩:=ha
 obtain⟨y1,y2,y3⟩:=hb
 obtain⟨z1,z2,z3⟩:=hc
 have qD:rl 0=1:=rfl
 have uX:=iw a.x 0 J
 rw [Rat.add_zero] at uX
 have vb:=iw a.y 0 J
 rw [Rat.add_zero] at vb
 have vr:=iw a.z 0 J
 rw [Rat.add_zero] at vr
 have uZ:=iw b.x 0 J
 rw [Rat.add_zero] at uZ
 have vh:=iw b.y 0 J
 rw [Rat.add_zero] at vh
 have vC:=iw b.z 0 J
 rw [Rat.add_zero] at vC
 have uK:=iw c.x 0 J
 rw [Rat.add_zero] at uK
 have u7:=iw c.y 0 J
 rw [Rat.add_zero] at u7
 have uq:=iw c.z 0 J
 rw [Rat.add_zero] at uq
 refine aN Tryz.func199 (ht:=(fun g=>LV.cP g _ (ahV _ _ _))) ?_
 refine nn ?_
 refine bG ?_
 refine aA ?_
 refine bY (b:=_) rfl ai ?_
 refine mA ?_
 refine bG ?_
 refine aA ?_
 refine bY (b:=_) rfl ai ?_
 refine bC ?_
 refine aY 11 an ?_
 refine bf ?_
 try refine aH ?_
 first | refine cp aq uX ?_ | refine cp aq vb ?_ | refine cp aq vr ?_ | refine cp aq uZ ?_ | refine cp aq vh ?_ | refine cp aq vC ?_ | refine cp aq uK ?_ | refine cp aq u7 ?_ | refine cp aq uq ?_
 refine bp ?_
 refine bG ?_
 refine aA ?_
 refine bY (b:=_) rfl ai ?_
 refine bC ?_
 refine aY 11 an ?_
 refine bf ?_
 try refine aH ?_
 first | refine cp aq uX ?_ | refine cp aq vb ?_ | refine cp aq vr ?_ | refine cp aq uZ ?_ | refine cp aq vh ?_ | refine cp aq vC ?_ | refine cp aq uK ?_ | refine cp aq u7 ?_ | refine cp aq uq ?_
 refine bp ?_
 refine bG ?_
 refine aA ?_
 refine bY (b:=_) rfl ai ?_
 refine bC ?_
 refine aY 11 an ?_
 refine bf ?_
 try refine aH ?_
 first | refine cp aq uX ?_ | refine cp aq vb ?_ | refine cp aq vr ?_ | refine cp aq uZ ?_ | refine cp aq vh ?_ | refine cp aq vC ?_ | refine cp aq uK ?_ | refine cp aq u7 ?_ | refine cp aq uq ?_
 refine bp ?_
 refine bG ?_
 refine aA ?_
 refine eF (b:=_) rfl ai ?_
 refine bp ?_
 refine bG ?_
 refine aA ?_
 refine bY (b:=_) rfl ai ?_
 refine mA ?_
 refine bG ?_
 refine aA ?_
 refine bY (b:=_) rfl ai ?_
 refine bC ?_
 refine aY 11 an ?_
 refine bf ?_
 try refine aH ?_
 first | refine cp aq uX ?_ | refine cp aq vb ?_ | refine cp aq vr ?_ | refine cp aq uZ ?_ | refine cp aq vh ?_ | refine cp aq vC ?_ | refine cp aq uK ?_ | refine cp aq u7 ?_ | refine cp aq uq ?_
 refine bp ?_
 refine bG ?_
 refine aA ?_
 refine bY (b:=_) rfl ai ?_
 refine bC ?_
 refine aY 11 an ?_
 refine bf ?_
 try refine aH ?_
 first | refine cp aq uX ?_ | refine cp aq vb ?_ | refine cp aq vr ?_ | refine cp aq uZ ?_ | refine cp aq vh ?_ | refine cp aq vC ?_ | refine cp aq uK ?_ | refine cp aq u7 ?_ | refine cp aq uq ?_
 refine bp ?_
 refine bG ?_
 refine aA ?_
 refine bY (b:=_) rfl ai ?_
 refine bC ?_
 refine aY 11 an ?_
 refine bf ?_
 try refine aH ?_
 first | refine cp aq uX ?_ | refine cp aq vb ?_ | refine cp aq vr ?_ | refine cp aq uZ ?_ | refine cp aq vh ?_ | refine cp aq vC ?_ | refine cp aq uK ?_ | refine cp aq u7 ?_ | refine cp aq uq ?_
 refine bp ?_
 refine bG ?_
 refine aA ?_
 refine eF (b:=_) rfl ai ?_
 refine bp ?_
 refine bG ?_
 refine aA ?_
 refine bY (b:=_) rfl ai ?_
 refine mA ?_
 refine bG ?_
 refine aA ?_
 refine bY (b:=_) rfl ai ?_
 refine bC ?_
 refine aY 11 an ?_
 refine bf ?_
 try refine aH ?_
 first | refine cp aq uX ?_ | refine cp aq vb ?_ | refine cp aq vr ?_ | refine cp aq uZ ?_ | refine cp aq vh ?_ | refine cp aq vC ?_ | refine cp aq uK ?_ | refine cp aq u7 ?_ | refine cp aq uq ?_
 refine bp ?_
 refine bG ?_
 refine aA ?_
 refine bY (b:=_) rfl ai ?_
 refine bC ?_
 refine aY 11 an ?_
 refine bf ?_
 try refine aH ?_
 first | refine cp aq uX ?_ | refine cp aq vb ?_ | refine cp aq vr ?_ | refine cp aq uZ ?_ | refine cp aq vh ?_ | refine cp aq vC ?_ | refine cp aq uK ?_ | refine cp aq u7 ?_ | refine cp aq uq ?_
 refine bp ?_
 refine bG ?_
 refine aA ?_
 refine bY (b:=_) rfl ai ?_
 refine bC ?_
 refine aY 11 an ?_
 refine bf ?_
 try refine aH ?_
 first | refine cp aq uX ?_ | refine cp aq vb ?_ | refine cp aq vr ?_ | refine cp aq uZ ?_ | refine cp aq vh ?_ | refine cp aq vC ?_ | refine cp aq uK ?_ | refine cp aq u7 ?_ | refine cp aq uq ?_
 refine bp ?_
 refine bG ?_
 refine aA ?_
 refine eF (b:=_) rfl ai ?_
 refine bp ?_
 refine bG ?_
 refine aA ?_
 refine eF (b:=_) rfl ai ?_
 refine bu ?_
 exact fS [] rfl rfl rfl cs (dG cs rfl) T66 (.pure (ahV ⟨a.x,b.x,c.x⟩ ⟨a.y,b.y,c.y⟩ ⟨a.z,b.z,c.z⟩))
namespace acQ
theorem aH {p q:Prop} (k:q) (e:p=q:=by simp only [e1,e2,e3,e4,p1,p2,p3,q1,q2,q3,l1,t0,t1,r1,r2,r3,r4,Nat.zero_add,Nat.reduceMul,Nat.reduceAdd,b1,b2,b3,b4,b5,b6,i1,i2,i3,i4,i5,i6,Nat.reduceBEq,ab7,List.getD_cons_zero,List.getD_cons_succ,List.set_cons_zero,List.set_cons_succ,Nat.reduceEqDiff,reduceIte,if_true,if_false,dW,ec,aP bg,aP bw,aP ao,cH,dO,LV.kill,bN];exact rfl):p:=e.mpr k
end acQ
open acQ in
theorem aCI (m:M3) (R:Nat) (hR:R<=1000000000) (hm:qP R m) (p:V3) (yw:ck R p):av Tryz.prog 200 [dV m,aS p] (aS (zd m p)):=by
 obtain⟨iF,dZ,od,mi⟩:=hm
 refine aN Tryz.func200 (ht:=(fun r=>LV.cP r _ (bg.pure _))) ?_
 refine mA ?_
 refine ak rfl (.fi (r:=.agg [aS m.a,aS m.b,aS m.c]) (n:=27) (ag:=true) rfl rfl rfl rfl (dN.au m) (at8 m) T66) ?_
 refine ax ?_
 refine bG ?_
 refine aA ?_
 refine bY (b:=_) rfl ai ?_
 refine im ?_
 refine cp aq (acu m.a p R J iF yw) ?_
 refine a6 ?_
 refine cq (aw.kill _ 7) ?_
 refine ax ?_
 refine bG ?_
 refine aA ?_
 refine bY (b:=_) rfl ai ?_
 refine im ?_
 refine cp aq (acu m.b p R J dZ yw) ?_
 refine a6 ?_
 refine cq (aw.kill _ 7) ?_
 refine ax ?_
 refine bG ?_
 refine aA ?_
 refine bY (b:=_) rfl ai ?_
 refine im ?_
 refine cp aq (acu m.c p R J od yw) ?_
 refine a6 ?_
 refine cq (aw.kill _ 7) ?_
 refine ax ?_
 refine bG ?_
 refine aA ?_
 refine eF (b:=_) rfl ai ?_
 refine bu ?_
 exact qw
theorem ahr {P:Program} {H:bK} {ρ:Operand->LV} {T:TypeId} {o0:Operand} {a b c:V3} [z:ZI P T (.agg [.agg [aS ⟨0,0,0⟩,aS ⟨0,0,0⟩,aS ⟨0,0,0⟩],aS ⟨0,0,0⟩])] [s:SI P T [(27,true),(9,true)]] (h0:ρ o0=.agg [aS a,aS b,aS c]) :
  aB P H ρ (.build T #[(0,o0)]) (dV ⟨a,b,c,⟨0,0,0⟩⟩):=by
 have hp:LV.pure (.agg [aS a,aS b,aS c])=true:=by simp [LV.pure,aG,bg.pure]
 have:=aB.bd (H:=H) (ρ:=ρ) (ps:=#[(0,o0)]) (z:=z) (s:=s) (by simp [lay,LV.au,cF,bg.au,bg.isAgg,qq]) (by
  intro q hq
  simp only [List.mem_cons,List.not_mem_nil,or_false] at hq
  rcases hq with rfl
  exact⟨_,rfl,by rw [h0];simp [lay,bg.au,LV.au,cF,qq],by rw [h0];exact LV.eE hp,by rw [h0];exact LV.dY hp⟩)
 simp only [iC,List.map,List.foldl,List.set,h0] at this
 exact this
def zu (m:M3):M3:=⟨qx m.a m.b m.c,p8 m.a m.b m.c,se m.a m.b m.c,jb (-1) (zd ⟨qx m.a m.b m.c,p8 m.a m.b m.c,se m.a m.b m.c,⟨0,0,0⟩⟩ m.t)⟩
open acQ in
theorem asQ (m:M3) (R:Nat) (hR:R<=40000000) (hm:qP R m) (hv:de m.a (gO m.b m.c)≠0):av Tryz.prog 108 [dV m] (.a7 [dV (zu m),iL 0]):=by
 have fV:=hm
 obtain⟨iF,dZ,od,mi⟩:=hm
 have fw:=yQ dZ od
 have eT:=yQ od iF
 have p9:=yQ iF dZ
 have hV:=aqx m R J fV
 have g8:rl 1=1:=rfl
 have hrv:=zL iF fw
 have hrf:rl (fW m.a m.b m.c)<=20*R+30:=by
  have:=oH 1 (de m.a (gO m.b m.c))
  unfold fW
  omega
 have hQ:av Tryz.prog 169 [ae 1,ae (de m.a (gO m.b m.c))] (.a7 [ae (fW m.a m.b m.c),iL 0]):=by
  have:=tT 1 (de m.a (gO m.b m.c)) J
  rwa [if_neg hv] at this
 have rk:av Tryz.prog 107 [iL 1] (ae 1):=uc 1 ai ai
 have h1m:av Tryz.prog 107 [iL (-1)] (ae (-1)):=by
  have:=uc (-1) ai ai
  rwa [show (((-1:Int)):Rat)=-1 from by decide +kernel] at this
 have mQ:∀ q:V3,ck (4*R+5) q->ck (24*R+40) (jb (fW m.a m.b m.c) q):=fun q ⟨vN,q2',q3'⟩=>by
  have e1x:=cO (fW m.a m.b m.c) q.x
  have e2x:=cO (fW m.a m.b m.c) q.y
  have e3x:=cO (fW m.a m.b m.c) q.z
  exact⟨by show rl ((fW m.a m.b m.c)*q.x)<=_;omega,by show rl ((fW m.a m.b m.c)*q.y)<=_;omega,by show rl ((fW m.a m.b m.c)*q.z)<=_;omega⟩
 have hT:=aCN (jb (fW m.a m.b m.c) (gO m.b m.c)) (jb (fW m.a m.b m.c) (gO m.c m.a)) (jb (fW m.a m.b m.c) (gO m.a m.b)) (24*R+40) J (mQ _ fw) (mQ _ eT) (mQ _ p9)
 have aBG:ck (24*R+40) (qx m.a m.b m.c):=⟨(mQ _ fw).1,(mQ _ eT).1,(mQ _ p9).1⟩
 have auH:ck (24*R+40) (p8 m.a m.b m.c):=⟨(mQ _ fw).2.1,(mQ _ eT).2.1,(mQ _ p9).2.1⟩
 have asG:ck (24*R+40) (se m.a m.b m.c):=⟨(mQ _ fw).2.2,(mQ _ eT).2.2,(mQ _ p9).2.2⟩
 have vI:qP (24*R+40) ⟨qx m.a m.b m.c,p8 m.a m.b m.c,se m.a m.b m.c,⟨0,0,0⟩⟩:=⟨aBG,auH,asG,⟨by show rl 0<=_;have:rl 0=1:=rfl;omega,by show rl 0<=_;have:rl 0=1:=rfl;omega,by show rl 0<=_;have:rl 0=1:=rfl;omega⟩⟩
 have hTu:=aCI ⟨qx m.a m.b m.c,p8 m.a m.b m.c,se m.a m.b m.c,⟨0,0,0⟩⟩ (24*R+40) J vI m.t (mi.le J)
 have hbt:=aj8 vI mi
 have hSc:=acW (-1) (zd ⟨qx m.a m.b m.c,p8 m.a m.b m.c,se m.a m.b m.c,⟨0,0,0⟩⟩ m.t) (3*(24*R+40+R)+4) J (by have:rl (-1)=1:=an;omega) hbt
 refine aN Tryz.func108 (ht:=(jg (dN.pure _) rfl)) ?_
 refine bf ?_
 refine fY 8 [6] an ?_
 refine cp aK (rk) ?_
 refine ak rfl afx ?_
 refine gI rfl (.cons (.pure (dN.pure m)) .nil) hV ?_
 refine cp aq (hQ) ?_
 refine gz ?_
 refine eF (b:=_) rfl (rfl) ?_
 refine aJ ?_
 refine aY 23 an ?_
 refine aL ?_
 refine ak rfl (.fi rfl rfl rfl rfl (dN.au m) (acD m) ig) ?_
 refine aL ?_
 refine ak rfl (.fi rfl rfl rfl rfl (dN.au m) (afW m) ig) ?_
 refine cp aq (ae9 m.b m.c R J dZ od) ?_
 refine aL ?_
 refine ak rfl (.fi rfl rfl rfl rfl (dN.au m) (afW m) ig) ?_
 refine aL ?_
 refine ak rfl (.fi rfl rfl rfl rfl (dN.au m) (abM m) ig) ?_
 refine cp aq (ae9 m.c m.a R J od iF) ?_
 refine aL ?_
 refine ak rfl (.fi rfl rfl rfl rfl (dN.au m) (abM m) ig) ?_
 refine aL ?_
 refine ak rfl (.fi rfl rfl rfl rfl (dN.au m) (acD m) ig) ?_
 refine cp aq (ae9 m.a m.b R J iF dZ) ?_
 refine ak rfl (agJ rfl rfl rfl) ?_
 refine bu ?_
 refine bG ?_
 refine aA ?_
 refine bY (b:=_) rfl ai ?_
 refine im ?_
 refine cp aq (acW (fW m.a m.b m.c) (gO m.b m.c) (20*R+30) J hrf (fw.le J)) ?_
 refine a6 ?_
 refine cq (aw.kill _ 8) ?_
 refine ax ?_
 refine bG ?_
 refine aA ?_
 refine bY (b:=_) rfl ai ?_
 refine im ?_
 refine cp aq (acW (fW m.a m.b m.c) (gO m.c m.a) (20*R+30) J hrf (eT.le J)) ?_
 refine a6 ?_
 refine cq (aw.kill _ 8) ?_
 refine ax ?_
 refine bG ?_
 refine aA ?_
 refine bY (b:=_) rfl ai ?_
 refine im ?_
 refine cp aq (acW (fW m.a m.b m.c) (gO m.a m.b) (20*R+30) J hrf (p9.le J)) ?_
 refine a6 ?_
 refine cq (aw.kill _ 8) ?_
 refine ax ?_
 refine bG ?_
 refine aA ?_
 refine eF (b:=_) rfl ai ?_
 refine bf ?_
 refine gI rfl (.cons (.pure (ahV (jb (fW m.a m.b m.c) (gO m.b m.c)) (jb (fW m.a m.b m.c) (gO m.c m.a)) (jb (fW m.a m.b m.c) (gO m.a m.b)))) .nil) hT ?_
 refine ak rfl (ahr (a:=qx m.a m.b m.c) (b:=p8 m.a m.b m.c) (c:=se m.a m.b m.c) rfl) ?_
 refine ar ?_
 refine bI rfl (.xZ (e:=dV) (l:=[⟨⟨0,0,0⟩,⟨0,0,0⟩,⟨0,0,0⟩,⟨0,0,0⟩⟩]) (a:=⟨qx m.a m.b m.c,p8 m.a m.b m.c,se m.a m.b m.c,⟨0,0,0⟩⟩) rfl rfl rfl aO) ?_
 refine aJ ?_
 refine aY 7 an ?_
 refine cp aK (h1m) ?_
 refine ak rfl (.fi rfl rfl rfl rfl (dN.au (⟨qx m.a m.b m.c,p8 m.a m.b m.c,se m.a m.b m.c,⟨0,0,0⟩⟩)) (dG (dN.au (⟨qx m.a m.b m.c,p8 m.a m.b m.c,se m.a m.b m.c,⟨0,0,0⟩⟩)) rfl) uE) ?_
 refine ar ?_
 refine ak rfl (.fi rfl rfl rfl rfl (dN.au m) (akx m) ig) ?_
 refine gI rfl (.cons (.pure (dN.pure _)) (.cons (.pure (bg.pure _)) .nil)) hTu ?_
 refine cp aq (hSc) ?_
 refine ar ?_
 refine bI rfl (.store (y:=dV ⟨qx m.a m.b m.c,p8 m.a m.b m.c,se m.a m.b m.c,⟨0,0,0⟩⟩) (y':=dV (zu m)) rfl rfl rfl rfl rfl (dN.au _) (apN ⟨qx m.a m.b m.c,p8 m.a m.b m.c,se m.a m.b m.c,⟨0,0,0⟩⟩ _) (by show bo _ _ (LV.au (aS _)) (LV.isAgg (aS _));rw [bg.au,bg.isAgg];exact ig) ⟨LV.eE (bg.pure _),LV.dY (bg.pure _)⟩) ?_
 refine ax ?_
 refine ak rfl (.fi rfl rfl rfl rfl (dN.au (zu m)) (dG (dN.au (zu m)) rfl) uE) ?_
 refine bI rfl (.xZ (e:=dV) (l:=[⟨⟨0,0,0⟩,⟨0,0,0⟩,⟨0,0,0⟩,⟨0,0,0⟩⟩]) (a:=zu m) rfl rfl rfl aO) ?_
 refine ax ?_
 exact sE [] rfl rfl rfl (dN.au _) (dG (dN.au _) rfl) uE (.pure (dN.pure _)) rfl (.pure rfl)
theorem atM {P:Program} {H:bK} {ρ:Operand->LV} {T E:TypeId} {o2:Operand} {a:Rat} [u:UN P T (.array 3 E)] [t:TI P E 3 true] [z:ZI P T (.agg [ae 0,ae 0,ae 0])] (h0:ρ o2=ae a):aB P H ρ (.build T #[(2,o2)]) (aS ⟨0,0,a⟩):=by
 have:=aB.uJ (H:=H) (ρ:=ρ) (ps:=#[(2,o2)]) (u:=u) (t:=t) (z:=z) (by simp [lay,ao.au,ao.isAgg]) (by
  intro q hq
  simp only [List.mem_cons,List.not_mem_nil,or_false] at hq
  subst hq
  exact⟨_,rfl,by rw [h0];simp [lay,ao.au,ao.isAgg],by rw [h0];exact LV.eE (ao.pure _),by rw [h0];exact LV.dY (ao.pure _)⟩)
 simp only [iC,List.map,List.foldl,List.set,h0] at this
 exact this
theorem azT {s:Sp} (h:s.1<s.2):s.1<=iS s/\iS s<=s.2:=by
 have e:(s.1+s.2)/2*2=s.1+s.2:=Rat.div_mul_cancel ai
 unfold iS
 constructor<;>grind
open fP in
theorem yU (p:V3):av Tryz.prog 109 [aS p] (.list 9 ([p].map aS)):=by
 refine aN Tryz.func109 (ht:=(fun g=>LV.cP g _ (et bg _ _))) ?_
 refine dk ?_
 exact mz [4] rfl rfl (eN (l:=[p]) bg rfl rfl rfl)
def jK (u v:V3):M3:=⟨wO u v,wN u v,wz,⟨0,0,0⟩⟩
section
variable {D W na:Nat} {lk:iU} {x:ez} {st:List ez} {m:Nat} {cl:List gQ}
theorem abz:fj D (x :: st)=rV D x+fj D st:=by simp [fj]
theorem aht (hk:¬D<=x.2.1):fj D (lL x :: lO x :: st)<fj D (x :: st):=by
 have:=ap5 (x:=x) (s:=nX (x.1.getD (eU x) default)) (s':=oT (x.1.getD (eU x) default)) (show x.2.1<D by omega)
 rw [abz,abz,abz]
 unfold lL lO
 omega
theorem arS:∀ st:List ez,st.length<=fj D st
 | []=>Nat.zero_le _
 | x :: st=>by
   have h1:=arS st
   have h2:=ach D x
   rw [abz,List.length_cons];omega
end
theorem aBN (x:ez) (st jk:List ez):(x :: st).reverse++jk=st.reverse++(x :: jk):=by simp
theorem aw3 (x:ez) (st jk:List ez):(st.reverse.map jz++(jz x :: jk.map jz))[st.length]?=some (jz x):=by
 rw [List.getElem?_append_right aO];simp
theorem auO (l m:List ez):(l++m).map jz=l.map jz++m.map jz:=List.map_append
theorem aAM (l m:List gQ):(l++m).map fg=l.map fg++m.map fg:=List.map_append
theorem asn (st:List ez) (l:List LV):(st.reverse.map jz++l).take st.length=st.reverse.map jz:=by
 rw [List.take_append_of_le_length aO,List.take_of_length_le aO]
theorem auL {P:Program} {L:St} {blk' b0:a8} {bs:List a8} {l:List (Nat × a8)} {v:List LV} (hl:L.heap=hp l) (h0:hp l 0=some b0) (hb:blk'=⟨b0.sz,cX (ph [1]) b0.vals,b0.mt⟩) (zF:∀ c∈l.map (·.1),c≠0->c∈[1])
  (h1:hp l 1=some ⟨4,v,true⟩) (hv:aG v=true) (pV:bs=[⟨4,v,true⟩]):ajC P [] L (.a7 []) blk' bs:=by
 have hdm:∀ (l:List (Nat × a8)) (c:Nat),hp l c≠none->c∈l.map (·.1):=fun l=>by
  induction l with
  | nil=>exact fun c h=>absurd rfl h
  | cons p t ih =>
   obtain⟨d,y⟩:=p
   intro c h
   by_cases e:c=d
   ·simp [e]
   ·have:Nat.beq c d=false:=by rw [<-Bool.not_eq_true,Nat.beq_eq];exact e
    simp only [hp,this,cond_false] at h
    simp only [List.map_cons,List.mem_cons]
    exact .inr (ih c h)
 refine⟨[],[1],b0,by rw [hl];exact h0,hb,.nil,by simp,by simp,by simp,fun c hc hh=>zF c (hdm l c (by rwa [hl] at hh)) hc,fun k b hk=>?_,rfl⟩
 match k,hk with
 | 0,hk =>
  simp only [List.getElem?_cons_zero,Option.some.injEq] at hk
  subst hk
  exact⟨_,by rw [hl];exact h1,by rw [pV,mE _ _ hv];rfl⟩
 | k+1,hk=>simp at hk
end Go.Proofs.YtckppbhafancnaaGreat
namespace Go.Lg
theorem aw.ays {L:St} (b:Nat) (bs:List Nat) (h0:bs.contains 0=false) {sz:Nat} {x y:LV} {mt:Bool} (hb:(L.bR bs).heap b=some ⟨sz,[x],mt⟩) (hi:cG (L.bR bs).heap x y):aw L ((L.bR bs).bF b (some ⟨sz,[y],mt⟩)):=by
 rintro n W X Z0 a w ⟨dL,bB,μ,Z,yD,hr⟩
 obtain⟨Z',hc,hz⟩:=yD.tC (pG bs h0)
 refine⟨dL,bB,μ,Z',?_,fun s=>a9.mono hz (fun _ _ h=>h) (Frame.refl Z μ w) (hr s)⟩
 have hs:∀ c,((L.bR bs).bF b (some ⟨sz,[y],mt⟩)).heap c=if c=b then some ⟨sz,[y],mt⟩ else(L.bR bs).heap c:=fun c=>rfl
 refine⟨hc.cd,hc.kf,hc.iJ,hc.jW,hc.inj,hc.own,hc.x0,hc.mw,hc.x1,fun c id blk g1 g2=>?_,fun c id blk g1 g2=>?_,fun c id g1=>?_⟩
 ·rw [hs] at g2
  split at g2
  ·rename_i e;subst e;cases g2;exact hc.il c id ⟨sz,[x],mt⟩ g1 hb
  ·exact hc.il c id blk g1 g2
 ·rw [hs] at g2
  split at g2
  ·rename_i e;subst e;cases g2;exact hc.bR c id ⟨sz,[x],mt⟩ g1 hb
  ·exact hc.bR c id blk g1 g2
 ·obtain⟨blk,k1,k2⟩:=hc.heap c id g1
  rw [hs]
  by_cases e:c=b
  ·subst e
   rw [if_pos rfl]
   rw [hb] at k1
   cases k1
   refine⟨_,rfl,?_⟩
   obtain⟨cs,T,part,rest,e1,e2,e3⟩:=k2
   refine⟨cs,T,part,rest,e1,e2,?_⟩
   simp only [aM] at e3 ⊢
   obtain⟨c1,c2,q1,q2,q3,q4⟩:=e3
   exact⟨c1,c2,q1,q2,cG.sound (bc:=μ) hc hi q3,q4⟩
  ·rw [if_neg e];exact⟨blk,k1,k2⟩
end Go.Lg
namespace Go.Proofs.YtckppbhafancnaaGreat
open Go.Lg
theorem wJ {P:Program} {ρ:Operand->LV} {T E:TypeId} {x:Operand} {d sz:Nat} {ag:Bool} {z v:LV} (hT:P.underlying T=some (.slice E)) (hz:cU P E z) (hzc:z.au=sz) (u9:z.isAgg=ag) (hE:bo P E sz ag)
  (hx:ρ x=v) (hvc:v.au=sz) (hva:v.isAgg=ag) (hvp:v.pure=true) (hs:0<sz) (fx:sz<=1000):c9 P ρ d (.buildSlice T 1 #[(0,x)]) (.ref d sz 0 1) ⟨sz,[v],true⟩:=by
 have:=c9.lit (P:=P) (ρ:=ρ) (d:=d) (T:=T) (n:=1) (ps:=#[(0,x)]) hT hz (by rw [u9];exact hE) hzc J J J (by
  intro p hp
  simp only [List.mem_singleton] at hp
  subst hp
  refine⟨by simp,?_,by rw [hx];exact LV.eE hvp,by rw [hx];exact LV.dY hvp⟩
  simp [lay,hx,hvc,hva,hzc,u9])
 simpa [iC,hx,List.replicate] using this
theorem avl {P:Program} {ρ:Operand->LV} {T E:TypeId} {x:Operand} {d sz:Nat} {ag:Bool} {z v:LV} (hT:P.underlying T=some (.slice E)) (hz:cU P E z) (hzc:z.au=sz) (u9:z.isAgg=ag) (hE:bo P E sz ag)
  (hx:ρ x=v) (hvc:v.au=sz) (hva:v.isAgg=ag) (h1:v≠.any) (h2:∀ l,v≠.a7 l) (hs:0<sz) (fx:sz<=1000):c9 P ρ d (.buildSlice T 1 #[(0,x)]) (.ref d sz 0 1) ⟨sz,[v],true⟩:=by
 have:=c9.lit (P:=P) (ρ:=ρ) (d:=d) (T:=T) (n:=1) (ps:=#[(0,x)]) hT hz (by rw [u9];exact hE) hzc J J J (by
  intro p hp
  simp only [List.mem_singleton] at hp
  subst hp
  refine⟨by simp,?_,by rw [hx];exact h1,by rw [hx];exact h2⟩
  simp [lay,hx,hvc,hva,hzc,u9])
 simpa [iC,hx,List.replicate] using this
def cS (q:aF):Q4:=⟨q.w*q.p.x,q.w*q.p.y,q.w*q.p.z,q.w⟩
theorem aB4 (d:Nat) (a b t:Rat):fp (bl d a b) t (bl d a b).length=(if a=t then d+1 else 0)+(if b=t then d+1 else 0):=by
 have h:=af9 (List.replicate (d+1) a) (List.replicate (d+1) b) t (d+1)
 rw [List.length_replicate] at h
 have e:(bl d a b).length=d+1+(d+1):=by rw [jV];omega
 rw [e]
 show fp (List.replicate (d+1) a++_) t _=_
 rw [h,adu _ _ _ _ (Nat.le_refl _),adu _ _ _ _ (Nat.le_refl _)]
theorem aym {d:Nat} {a b:Rat} (h1:1<=d) (h6:d<=6) (cu:a<b) (hT:rl a<=64) (hT1:rl b<=64):yi (bl d a b) d:=by
 have hl:=jV d a b
 have aQ:a≠b:=by grind
 have e0:(bl d a b).getD 0 0=a:=by rw [fR _ _ _ _ J,if_pos J]
 have e1:(bl d a b).getD ((bl d a b).length-1) 0=b:=by rw [hl,fR _ _ _ _ J,if_neg J]
 have hm:∀ x∈bl d a b,x=a\/x=b:=fun x hx=>by
  rcases List.mem_append.1 hx with h | h
  ·exact .inl (List.mem_replicate.1 h).2
  ·exact .inr (List.mem_replicate.1 h).2
 refine⟨h1,h6,J,J,fun i hi=>?_,by rw [e0,e1];exact aQ,fun t ht he=>?_,fun t ht g0 g1=>?_,fun x hx=>?_⟩
 ·rw [fR _ _ _ _ J,fR _ _ _ _ J]
  split<;>split
  ·exact Rat.le_refl
  ·grind
  ·omega
  ·exact Rat.le_refl
 ·rw [aB4]
  rcases hm t ht with rfl | rfl
  ·rw [if_pos rfl,if_neg (fun e=>aQ e.symm)]
  ·rw [if_neg aQ,if_pos rfl,Nat.zero_add]
 ·rw [e0] at g0;rw [e1] at g1
  rcases hm t ht with h | h
  ·exact absurd h g0
  ·exact absurd h g1
 ·rcases hm x hx with rfl | rfl<;>assumption
theorem aoz {d:Nat} {a b:Rat}:∀ i,i+1<=d+1->cT (bl d a b) (i+1)=[a]
 | 0,_=>by rw [cT,if_pos (.inl rfl),xi];rfl
 | i+1,h=>by
  rw [aaJ J (by rw [fR _ _ _ _ J,fR _ _ _ _ J,if_pos J,if_pos J]),aoz i J]
theorem aly {d:Nat} {a b:Rat} (cu:a<b):∀ i,i+1<=d+1->cT (bl d a b) (d+1+(i+1))=[a,b]
 | 0,_=>by
  rw [<-Nat.add_assoc,afm J (by rw [fR _ _ _ _ J,fR _ _ _ _ J,if_neg J,if_pos J];grind),Nat.add_zero,aoz d J,fR _ _ _ _ J,if_neg J];rfl
 | i+1,h=>by
  rw [<-Nat.add_assoc,aaJ J (by rw [fR _ _ _ _ J,fR _ _ _ _ J,if_neg J,if_neg J]),aly cu i J]
theorem aBD {d:Nat} {a b:Rat} (cu:a<b):cT (bl d a b) (bl d a b).length=[a,b]:=by
 have:=aly (d:=d) cu d (Nat.le_refl _)
 rwa [show d+1+(d+1)=(bl d a b).length by rw [jV];omega] at this
namespace aoi
theorem aH {p q:Prop} (k:q) (e:p=q:=by simp only [e1,e2,e3,e4,p1,p2,p3,q1,q2,q3,l1,t0,t1,r1,r2,r3,r4,Nat.zero_add,Nat.reduceMul,Nat.reduceAdd,b1,b2,b3,b4,b5,b6,i1,i2,i3,i4,i5,i6,Nat.reduceBEq,hl,List.length_map,List.set_cons_zero,List.set_cons_succ,Nat.reduceEqDiff,reduceIte,if_true,if_false,dW,ec,aP bg,aP bw,aP ao,cH,dO,LV.kill,bN];exact rfl):p:=e.mpr k
end aoi
open aoi in
theorem alg (d:Nat) (k:List Rat) (po:List aF) (hk:yi k d) (hl:po.length=k.length-d-1):av Tryz.prog 82 [.agg [ah d,.list 3 (k.map ae),.list 12 (po.map aT)]] (bL true):=by
 have fG:LV.pure (.agg [ah d,.list 3 (k.map ae),.list 12 (po.map aT)])=true:=by simp [LV.pure,aG,aW ao,aW bw]
 have h9:=hk.d6
 have hm:=hk.max
 have hn:=hk.len
 have hKp:av Tryz.prog 152 [.list 3 (k.map ae),ah d] (ah (k.length-d-1)):=agD k d J J
 refine aN Tryz.func82 ?_
 refine aR ?_
 refine aY 18 an ?_
 refine ax ?_
 refine cp aq (axN k d hk) ?_
 refine aL ?_
 refine ak (aZ (v:=true) rfl rfl ((rfl)) rfl) l6 ?_
 refine ak (aZ (v:=true) rfl rfl ((rfl)) rfl) ij ?_
 refine ak (aZ (v:=true) rfl rfl ((rfl)) rfl) uF ?_
 refine ak (aZ (v:=true) rfl rfl ((rfl)) rfl) l6 ?_
 refine ak (aZ (v:=true) rfl rfl ((rfl)) rfl) ij ?_
 refine ak (aZ (v:=true) rfl rfl ((rfl)) rfl) l6 ?_
 refine ak (aZ (v:=true) rfl rfl ((rfl)) rfl) ij ?_
 refine gI (aZ (v:=true) rfl rfl ((rfl)) rfl) (.cons eI (.cons eI .nil)) (hKp) ?_
 refine ak (aZ (v:=true) rfl rfl ((rfl)) rfl) (.bin rfl rfl rfl) ?_
 refine ak rfl (.my rfl ((rfl))) ?_
 refine ax ?_
 exact dA (x:=bL true) (by refine Eq.trans (b:=LV.v (Value.bool (((k.length-d-1:Nat):Int)==((k.length-d-1:Nat):Int)))) rfl ?_;rw [beq_self_eq_true]) (.pure rfl)
namespace aqy
theorem aH {p q:Prop} (k:q) (e:p=q:=by simp only [e1,e2,e3,e4,p1,p2,p3,q1,q2,q3,l1,t0,t1,r1,r2,r3,r4,Nat.zero_add,Nat.reduceMul,Nat.reduceAdd,b1,b2,b3,b4,b5,b6,i1,i2,i3,i4,i5,i6,Nat.reduceBEq,fD,gv,List.length_map,k5,kI,iz,List.length_cons,List.length_nil,List.nil_append,List.map_nil,List.take_nil,List.append_nil,List.set_cons_zero,List.set_cons_succ,Nat.reduceEqDiff,reduceIte,if_true,if_false,dW,ec,aP bg,aP bw,aP ao,cH,dO,LV.kill,bN,abD,aP ju];exact rfl):p:=e.mpr k
end aqy
open aqy in
theorem apF (d:Nat) (k:List Rat) (po:List aF) (R:Nat) (eJ:1<=R) (hR:R<=1000) (hd:d<=100) (fU:k.length<=200) (jd:∀ x∈k,rl x<=1000) (fv:po.length<=200) (xd:∀ q∈po,ow R q):av Tryz.prog 83 [.agg [ah d,.list 3 (k.map ae),.list 12 (po.map aT)]] (.agg [ah d,.list 3 (k.map ae),.list 12 ((po.map cS).map cY)]):=by
 have fG:LV.pure (.agg [ah d,.list 3 (k.map ae),.list 12 (po.map aT)])=true:=by simp [LV.pure,aG,aW ao,aW bw]
 have hsq:LV.pure (.agg [ah d,.list 3 (k.map ae),.list 12 ((po.map cS).map cY)])=true:=by simp [LV.pure,aG,aW ao,aW ju,-List.map_map]
 refine aN Tryz.func83 (ht:=(fun g=>LV.cP g _ (by simp [LV.pure,aG,aW ao,aW ju,-List.map_map]))) ?_
 have fD:True:=trivial
 have gv:True:=trivial
 refine agt ?_
 refine jo ((aw.cell 3 rfl (fun Z μ w cs h=>abS 23 12 _ _ Z μ w cs h)).trans (aw.tH _ 23 12 rfl)) ?_
 refine dJ (fun(j:Nat) L=>(((((((St.mk L.slot (hp [(1,⟨3,[.agg [ah d,.list 3 (k.map ae),.list 12 (po.map aT)]],true⟩),(2,⟨3,[.agg [.v (.int .i64 0),.v (.slice none 0 0),.v (.slice none 0 0)]],true⟩),(3,⟨3,[.agg [ah d,.list 3 (k.map ae),.ref 23 12 0 j]],true⟩),(23,⟨12,((po.map cS).take j).map cY,true⟩)])).put (some 1) (.az 1 3 0 0)).put (some 2) (.az 2 3 0 0)).put (some 3) (.az 3 3 0 0)).put (some 12) (.list 12 (po.map aT))).put (some 13) (ah po.length)).put (some 14) (ah j))) (fun j=>j<=po.length) (fun j=>po.length-j) 0 (Nat.zero_le _) ?_
 rintro j L1 hj
 refine aA ?_
 refine aC rfl ?_ ?_<;>intro nB k6
 ·have gY:j<po.length:=by omega
  have hO:av Tryz.prog 153 [aT (po.getD j default)] (cY (cS (po.getD j default))):=akO (po.getD j default) R J (xd _ (qI gY))
  have gv:(po.map cS).take j++[cS (po.getD j default)]=(po.map cS).take (j+1):=zO cS po gY
  have fD:(((po.map cS).take j).map cY).take j=((po.map cS).take j).map cY:=List.take_of_length_le bm
  refine bu ?_
  refine aY 5 an ?_
  refine aJ ?_
  refine cp aK (hO) ?_
  refine ar ?_
  refine bI rfl (.fX (d:=23) (news:=[cY (cS (po.getD j default))]) rfl rfl rfl rfl bm (.inl rfl) ai Tryz.underlying137 Tryz.underlying137 aea (by first | exact yN | (rw [ju.isAgg];exact yN)) cs aqM (.inl ⟨22,0,_,rfl,by decide,rfl,rfl,by simp,rfl,by simp [aG,ju.pure]⟩) bm bm ai) ?_
  refine a6 ?_
  refine cq ((aw.kill _ 5).trans (aw.kill _ 22)) ?_
  refine ak rfl cB ?_
  refine aJ ?_
  exact vx
 ·obtain rfl:j=po.length:=by omega
  have hE:(po.map cS).take po.length=(po.map cS):=List.take_of_length_le aO
  simp only [hE]
  refine bu ?_
  exact fS [23] rfl rfl rfl cs (dG cs rfl) af3 (.agg (.cons (.pure rfl) (.cons (.pure (aW ao _)) (.cons (eN ju rfl rfl aO) .nil))))
namespace aoC
theorem aH {p q:Prop} (k:q) (e:p=q:=by simp only [e1,e2,e3,e4,p1,p2,p3,q1,q2,q3,l1,t0,t1,r1,r2,r3,r4,Nat.zero_add,Nat.reduceMul,Nat.reduceAdd,b1,b2,b3,b4,b5,b6,i1,i2,i3,i4,i5,i6,Nat.reduceBEq,fD,gv,egq,List.length_map,k5,kI,iz,List.length_cons,List.length_nil,List.nil_append,List.map_nil,List.take_nil,List.append_nil,List.set_cons_zero,List.set_cons_succ,Nat.reduceEqDiff,reduceIte,if_true,if_false,dW,ec,aP bg,aP bw,aP ao,cH,dO,LV.kill,bN,abD,aP ju];exact rfl):p:=e.mpr k
end aoC
open aoC in
theorem agV (d:Nat) (k:List Rat) (C:List Q4) (R4:Nat) (hR4:R4<=1000000000) (hd:d<=100) (fU:k.length<=200) (jd:∀ x∈k,rl x<=1000) (hCl:C.length<=200) (hCb:∀ q∈C,nR R4 q/\0<q.w):av Tryz.prog 85 [.agg [ah d,.list 3 (k.map ae),.list 12 (C.map cY)]] (.agg [ah d,.list 3 (k.map ae),.list 12 ((C.map dX).map aT)]):=by
 have hsq:LV.pure (.agg [ah d,.list 3 (k.map ae),.list 12 (C.map cY)])=true:=by simp [LV.pure,aG,aW ao,aW ju]
 have hCo:=aCQ k J (fun x hx=>Nat.le_trans (jd x hx) ai)
 refine aN Tryz.func85 (ht:=(fun g=>LV.cP g _ aff)) ?_
 have fD:True:=trivial
 have gv:True:=trivial
 have egq:True:=trivial
 refine aR ?_
 refine aY 7 an ?_
 refine ax ?_
 refine cp aK (hCo) ?_
 refine gz ?_
 refine jo ((aw.cell 3 rfl (fun Z μ w cs h=>abS 24 12 _ _ Z μ w cs h)).trans (aw.tH _ 24 12 rfl)) ?_
 refine dJ (fun(j:Nat) L=>(((((((St.mk L.slot (hp [(1,⟨3,[.agg [ah d,.list 3 (k.map ae),.list 12 (C.map cY)]],true⟩),(2,⟨3,[.agg [.v (.int .i64 0),.v (.slice none 0 0),.v (.slice none 0 0)]],true⟩),(3,⟨3,[.agg [ah d,.list 3 (k.map ae),.ref 24 12 0 j]],true⟩),(24,⟨12,((C.map dX).take j).map aT,true⟩)])).put (some 1) (.az 1 3 0 0)).put (some 2) (.az 2 3 0 0)).put (some 3) (.az 3 3 0 0)).put (some 13) (.list 12 (C.map cY))).put (some 14) (ah C.length)).put (some 15) (ah j))) (fun j=>j<=C.length) (fun j=>C.length-j) 0 (Nat.zero_le _) ?_
 rintro j L1 hj
 refine aA ?_
 refine aC rfl ?_ ?_<;>intro yn vo
 ·have gY:j<C.length:=by omega
  have hq:=hCb _ (ay7 (C:=C) gY)
  have hFP:av Tryz.prog 96 [cY (C.getD j default)] (aT (dX (C.getD j default))):=akp _ _ _ _ R4 hR4 hq.1.1 hq.1.2.1 hq.1.2.2.1 hq.1.2.2.2 hq.2
  have gv:(C.map dX).take j++[dX (C.getD j default)]=(C.map dX).take (j+1):=by rw [List.take_add_one,List.getElem?_map,List.getElem?_eq_getElem gY,List.getD_eq_getElem?_getD,List.getElem?_eq_getElem gY];rfl
  have fD:(((C.map dX).take j).map aT).take j=((C.map dX).take j).map aT:=List.take_of_length_le bm
  refine bu ?_
  refine aY 5 an ?_
  refine aJ ?_
  refine gI rfl (.cons (.pure (ju.pure _)) .nil) hFP ?_
  refine ar ?_
  refine bI rfl (.fX (d:=24) (news:=[aT (dX (C.getD j default))]) rfl rfl rfl rfl bm (.inl rfl) ai Tryz.underlying26 Tryz.underlying26 Z42 (by first | exact rQ | (rw [bw.isAgg];exact rQ)) cs B42 (.inl ⟨23,0,_,rfl,by decide,rfl,rfl,by simp,rfl,by simp [aG,bw.pure]⟩) bm bm ai) ?_
  refine a6 ?_
  refine cq ((aw.kill _ 5).trans (aw.kill _ 23)) ?_
  refine ak rfl cB ?_
  refine aJ ?_
  exact vx
 ·obtain rfl:j=C.length:=by omega
  have hE:(C.map dX).take C.length=(C.map dX):=List.take_of_length_le aO
  simp only [hE]
  refine bu ?_
  exact fS [24] rfl rfl rfl cs (dG cs rfl) jH (.agg (.cons (.pure rfl) (.cons (.pure (aW ao _)) (.cons (eN bw rfl rfl aO) .nil))))
abbrev cI:=Nat × List Rat × List aF
def dv (c:cI):LV:=.agg [ah c.1,.list 3 (c.2.1.map ae),.list 12 (c.2.2.map aT)]
theorem fI:gL dv 3 true:=⟨fun c=>rfl,fun _=>rfl,fun c=>by simp [dv,LV.pure,aG,aW ao,aW bw]⟩
theorem aqF (b:Nat) (c:cI):(dv c).kill b=dv c:=LV.ki b _ (fI.pure c)
attribute [local irreducible] dv
namespace arl
theorem aH {p q:Prop} (k:q) (e:p=q:=by simp only [e1,e2,e3,e4,p1,p2,p3,q1,q2,q3,l1,t0,t1,r1,r2,r3,r4,Nat.zero_add,Nat.reduceMul,Nat.reduceAdd,b1,b2,b3,b4,b5,b6,i1,i2,i3,i4,i5,i6,Nat.reduceBEq,hds,kT,egd,cx,gv,fD,List.length_map,List.length_drop,List.length_range,k5,kI,iz,List.length_cons,List.length_nil,List.nil_append,List.map_nil,List.take_nil,List.append_nil,List.set_cons_zero,List.set_cons_succ,Nat.reduceEqDiff,reduceIte,if_true,if_false,dW,ec,aP bg,aP bw,aP ao,cH,dO,LV.kill,bN,abD,aP ju,aqF,aP fI];exact rfl):p:=e.mpr k
end arl
open arl in
theorem anC (d:Nat) (k D:List Rat) (po:List aF) (QC:Nat->List Q4) (n:Nat) (hn:D.length=n+1) (xG:n<=100) (kG:0<k.length) (fU:k.length<=200) (jd:∀ x∈k,rl x<=64) (hds:cT k k.length=D) (hSo:av Tryz.prog 82 [.agg [ah d,.list 3 (k.map ae),.list 12 (po.map aT)]] (bL true)) (hOf:av Tryz.prog 83 [.agg [ah d,.list 3 (k.map ae),.list 12 (po.map aT)]] (.agg [ah d,.list 3 (k.map ae),.list 12 ((po.map cS).map cY)])) (hCu:∀ i,i<n->av Tryz.prog 86 [.agg [ah d,.list 3 (k.map ae),.list 12 ((po.map cS).map cY)],ae (D.getD i 0),ae (D.getD (i+1) 0)] (.agg [ah d,.list 3 ((bl d (D.getD i 0) (D.getD (i+1) 0)).map ae),.list 12 ((QC i).map cY)])) (hBk:∀ i,i<n->av Tryz.prog 85 [.agg [ah d,.list 3 ((bl d (D.getD i 0) (D.getD (i+1) 0)).map ae),.list 12 ((QC i).map cY)]] (dv ((d,bl d (D.getD i 0) (D.getD (i+1) 0),(QC i).map dX):cI))):av Tryz.prog 39 [.agg [ah d,.list 3 (k.map ae),.list 12 (po.map aT)]] (.list 3 (((List.range n).map fun i=>((d,bl d (D.getD i 0) (D.getD (i+1) 0),(QC i).map dX):cI)).map dv)):=by
 have fG:LV.pure (.agg [ah d,.list 3 (k.map ae),.list 12 (po.map aT)])=true:=by simp [LV.pure,aG,aW ao,aW bw]
 have hsq:LV.pure (.agg [ah d,.list 3 (k.map ae),.list 12 ((po.map cS).map cY)])=true:=by simp [LV.pure,aG,aW ao,aW ju,-List.map_map]
 have hDa:=ak9 k kG J (fun x hx=>Nat.le_trans (jd x hx) ai)
 have kT:D.length-1=n:=by omega
 refine aN Tryz.func39 (ht:=(fun g=>LV.cP g _ (et fI 3 _))) ?_
 have egd:True:=trivial
 have gv:True:=trivial
 have fD:True:=trivial
 refine bC ?_
 refine cp aK (hSo) ?_
 refine aJ ?_
 refine eF (b:=_) rfl (rfl) ?_
 refine bC ?_
 refine cp aK (hOf) ?_
 refine bf ?_
 refine cp aK (hDa) ?_
 refine aR ?_
 refine ak rfl (.aaj (a:=1) ao rfl Tryz.underlying25 cK rfl om) ?_
 refine a6 ?_
 refine jo (aw.own (t:=3) 34 3 rfl rfl) ?_
 refine dJ (fun(i:Nat) L=>((((((((St.mk L.slot (hp [(1,⟨3,[.agg [ah d,.list 3 (k.map ae),.list 12 (po.map aT)]],true⟩),(4,⟨3,[.agg [ah d,.list 3 (k.map ae),.list 12 ((po.map cS).map cY)]],true⟩),(34,⟨3,((List.range i).map fun i=>((d,bl d (D.getD i 0) (D.getD (i+1) 0),(QC i).map dX):cI)).map dv,true⟩)])).put (some 1) (.az 1 3 0 0)).put (some 3) (.ref 34 3 0 i)).put (some 4) (.az 4 3 0 0)).put (some 5) (.list 3 (D.map ae))).put (some 17) (.list 3 ((D.drop 1).map ae))).put (some 18) (ah n)).put (some 19) (ah i))) (fun i=>i<=n) (fun i=>n-i) 0 (Nat.zero_le _) ?_
 rintro i L1 hi
 refine aA ?_
 refine aC rfl ?_ ?_<;>intro xw yp
 ·have dB:i<n:=by omega
  have egd:(D.drop 1).getD i 0=D.getD (i+1) 0:=by rw [List.getD_eq_getElem?_getD,List.getElem?_drop,List.getD_eq_getElem?_getD,Nat.add_comm 1 i]
  have awi:LV.pure (.agg [ah d,.list 3 ((bl d (D.getD i 0) (D.getD (i+1) 0)).map ae),.list 12 ((QC i).map cY)])=true:=by simp [LV.pure,aG,aW ao,aW ju]
  have hcu:=hCu i dB
  have jQ:=hBk i dB
  have hpc:LV.pure (dv ((d,bl d (D.getD i 0) (D.getD (i+1) 0),(QC i).map dX):cI))=true:=fI.pure _
  have axL:aG [dv ((d,bl d (D.getD i 0) (D.getD (i+1) 0),(QC i).map dX):cI)]=true:=by simp only [aG,hpc,Bool.and_self]
  have gv:((List.range i).map fun i=>((d,bl d (D.getD i 0) (D.getD (i+1) 0),(QC i).map dX):cI))++[((d,bl d (D.getD i 0) (D.getD (i+1) 0),(QC i).map dX):cI)]=((List.range (i+1)).map fun i=>((d,bl d (D.getD i 0) (D.getD (i+1) 0),(QC i).map dX):cI)):=ao0 (fun i=>((d,bl d (D.getD i 0) (D.getD (i+1) 0),(QC i).map dX):cI)) i
  have fD:(((List.range i).map fun i=>((d,bl d (D.getD i 0) (D.getD (i+1) 0),(QC i).map dX):cI)).map dv).take i=((List.range i).map fun i=>((d,bl d (D.getD i 0) (D.getD (i+1) 0),(QC i).map dX):cI)).map dv:=List.take_of_length_le aO
  refine aR ?_
  refine ak rfl (by first | exact .ahP ao rfl Tryz.underlying25 cK rfl (by first | omega | (simp only [List.length_drop];omega)) (by first | omega | (simp only [List.length_drop];omega)) | exact .tU rfl Tryz.underlying25 cK rfl (by first | omega | (simp only [List.length_drop];omega)) (by first | omega | (simp only [List.length_drop];omega))) ?_
  refine aA ?_
  refine aY 10 an ?_
  refine ax ?_
  refine ak rfl (by first | exact .ahP ao rfl Tryz.underlying25 cK rfl J J | exact .tU rfl Tryz.underlying25 cK rfl J J) ?_
  refine ak rfl (by first | exact .afM ao rfl cK | exact .aqo ao rfl rfl cK J | exact .fi rfl rfl rfl rfl rfl rfl cK) ?_
  refine ar ?_
  refine aH ?_
  refine cp fH (hcu) ?_
  refine gI rfl (.cons (.pure awi) .nil) jQ ?_
  try refine aH ?_
  refine eH rfl rfl (wJ (z:=.agg [.v (.int .i64 0),.v (.slice none 0 0),.v (.slice none 0 0)]) (v:=dv ((d,bl d (D.getD i 0) (D.getD (i+1) 0),(QC i).map dX):cI)) Tryz.underlying88 Z28 rfl rfl jH rfl (fI.au _) (fI.isAgg _) hpc ai ai) ?_
  refine bI rfl (.fX (d:=34) (sz:=3) (news:=[dv ((d,bl d (D.getD i 0) (D.getD (i+1) 0),(QC i).map dX):cI)]) (z:=.agg [.v (.int .i64 0),.v (.slice none 0 0),.v (.slice none 0 0)]) rfl rfl rfl rfl aO (.inl rfl) ai Tryz.underlying88 Tryz.underlying88 Z28 jH rfl B28 (.inl ⟨33,0,_,rfl,by decide,rfl,rfl,by simp,rfl,axL⟩) bm bm ai) ?_
  refine ax ?_
  refine cq ((aw.kill _ 7).trans (aw.kill _ 33)) ?_
  refine ak rfl cB ?_
  refine aJ ?_
  exact jX
 ·obtain rfl:n=i:=by omega
  refine bu ?_
  exact mz [34] rfl rfl (eN (l:=((List.range n).map fun i=>((d,bl d (D.getD i 0) (D.getD (i+1) 0),(QC i).map dX):cI))) fI rfl rfl aO)
open ajH in
theorem alx (l:List (Rat × Rat)) (wd:Rat) (hl:l.length<=1000) (hb:∀ s∈l,db 1000000 s) (hwd:rl wd<=1000000):av Tryz.prog 88 [.list 6 (l.map aD),ae wd] (bL (xz l wd)):=by
 refine aN Tryz.func88 ?_
 refine gz ?_
 refine dJ (fun(i:Nat) L=>(((((St.mk L.slot (hp [(3,⟨3,[ae wd],true⟩)])).put (some 3) (.az 3 3 0 0)).put (some 7) (.list 6 (l.map aD))).put (some 8) (ah l.length)).put (some 9) (ah i))) (fun i=>i<=l.length/\∀ j,j<i->¬wd<(l.getD j default).2-(l.getD j default).1) (fun i=>l.length-i) 0 ⟨Nat.zero_le _,fun j h=>absurd h (Nat.not_lt_zero _)⟩ ?_
 rintro i L1 ⟨hi,lh⟩
 refine aA ?_
 refine aC rfl ?_ ?_<;>intro l9 rR
 ·have dB:i<l.length:=by omega
  obtain⟨jt,uy⟩:=hb _ (ahd dB)
  have hw:=iq (l.getD i default).2 (l.getD i default).1
  refine dj ?_
  refine aY 5 an ?_
  refine ar ?_
  refine cp aK (agX (l.getD i default) J) ?_
  refine ar ?_
  refine cp aq (lW ((l.getD i default).2-(l.getD i default).1) wd J) ?_
  refine aJ ?_
  refine aC rfl ?_ ?_<;>intro aaW xX
  ·have hR:xz l wd=true:=by
    unfold xz
    rw [List.any_eq_true]
    exact⟨_,ahd dB,decide_eq_true (rf.1 xX)⟩
   refine bp ?_
   rw [hR]
   exact mF
  ·have atE:∀ j,j<i+1->¬wd<(l.getD j default).2-(l.getD j default).1:=fun j hj=>by
    rcases Nat.lt_succ_iff_lt_or_eq.1 hj with g | rfl
    ·exact lh j g
    ·exact fun e=>by have:=rf.2 e;omega
   refine aJ ?_
   refine cq (aw.kill _ 6) ?_
   refine ak rfl cB ?_
   refine aJ ?_
   exact iG (i+1) ⟨J,atE⟩
 ·obtain rfl:l.length=i:=by omega
  have hR:xz l wd=false:=by
   unfold xz
   rw [List.any_eq_false]
   intro s hs
   obtain⟨j,hj,rfl⟩:=List.getElem_of_mem hs
   have:=lh j hj
   rw [List.getD_eq_getElem?_getD,List.getElem?_eq_getElem hj] at this
   simpa using this
  refine bp ?_
  rw [hR]
  exact mF
section
variable {D W na:Nat} {wd:Rat} {lk:iU} {x:ez} {st:List ez} {m:Nat} {cl:List gQ}
theorem aAD (h:W<=m):lU D W na wd lk (x :: st,m,cl)=(st,m,cl++[mq na x (false,0,0)]):=by rw [lU,if_pos h]
theorem axw (h:¬W<=m) (hd:(lk (x.1.take na) (x.1.drop na)).1=true):lU D W na wd lk (x :: st,m,cl)=(st,m+1,cl):=by rw [lU,if_neg h,if_pos hd]
theorem zC (h:¬W<=m) (hd:(lk (x.1.take na) (x.1.drop na)).1=false) (hk:nI D wd x (lk (x.1.take na) (x.1.drop na))=true) :
  lU D W na wd lk (x :: st,m,cl)=(st,m+1,cl++[mq na x (lk (x.1.take na) (x.1.drop na))]):=by
 rw [lU,if_neg h,if_neg (by rw [hd];decide),if_pos hk]
theorem aiz (h:¬W<=m) (hd:(lk (x.1.take na) (x.1.drop na)).1=false) (hk:nI D wd x (lk (x.1.take na) (x.1.drop na))=false) :
  lU D W na wd lk (x :: st,m,cl)=(lL x :: lO x :: st,m+1,cl):=by
 rw [lU,if_neg h,if_neg (by rw [hd];decide),if_neg (by rw [hk];decide)]
theorem avf {v:Bool × Nat × Nat} (hk:lC v=3\/lC v=4) (hw:cM wd=0):nI D wd x v=true:=by
 unfold nI;rw [decide_eq_true hk,decide_eq_true (aip hw)];rfl
theorem at9 {v:Bool × Nat × Nat} (hk:lC v=3\/lC v=4) (hw:xz x.1 wd=false):nI D wd x v=true:=by
 unfold nI;rw [decide_eq_true hk,hw];simp
theorem agC {v:Bool × Nat × Nat} (hk:D<=x.2.1):nI D wd x v=true:=by
 unfold nI;rw [decide_eq_true hk,Bool.or_true]
theorem aiQ {v:Bool × Nat × Nat} (hk:¬(lC v=3\/lC v=4)) (hd:¬D<=x.2.1):nI D wd x v=false:=by
 unfold nI;rw [decide_eq_false hk,decide_eq_false hd];rfl
theorem ahA {v:Bool × Nat × Nat} (h0:¬cM wd=0) (hw:xz x.1 wd=true) (hd:¬D<=x.2.1):nI D wd x v=false:=by
 unfold nI;rw [decide_eq_false (show ¬wd=0 from fun e=>h0 (by rw [e];rfl)),hw,decide_eq_false hd];simp
end
namespace aoa
theorem aH {p q:Prop} (k:q) (e:p=q:=by simp only [e1,e2,e3,e4,p1,p2,p3,q1,q2,q3,l1,t0,t1,r1,r2,r3,r4,Nat.zero_add,Nat.reduceMul,Nat.reduceAdd,b1,b2,b3,b4,b5,b6,i1,i2,i3,i4,i5,i6,Nat.reduceBEq,af2,aAM,htz,List.drop_zero,auO,asn,List.map_cons,List.reverse_cons,List.reverse_nil,List.append_assoc,List.singleton_append,fg,mq,ady,apS,ekv,ekK,fD,edk,esc,uo,aoH,htA,hrp,jz,vdL,zG,fy0,fyc,aP bS,aP m9,aP abv,aP aaA,List.length_map,List.length_append,List.length_replicate,hAB,k5,kI,iz,List.length_cons,List.length_nil,List.nil_append,List.map_nil,List.take_nil,List.append_nil,List.set_cons_zero,List.set_cons_succ,Nat.reduceEqDiff,reduceIte,if_true,if_false,dW,ec,aP bg,aP bw,aP ao,cH,dO,LV.kill,bN];exact rfl):p:=e.mpr k
end aoa
open aoa in
theorem asm (f na n D W:Nat) (cap:List LV) (lk:iU) (I:ez->Prop) (hL:adM Tryz.prog f cap D na n lk I) (fG:aG cap=true) (hcs:∀ x∈cap,x.au=1/\x.isAgg=false) (A B:List Sp) (hna:A.length=na) (hA0:0<A.length) (hB0:0<B.length) (hn:A.length+B.length=n) (xG:n<=10) (xM:I (A++B,0,List.replicate n 0)) (wd:Rat) (hwd:rl wd<=100) (n0:Nat) (cz:List gQ) (hD9:D<=24) (hW9:W<=4096) (g7:n0<=4096) (aDw:cz.length<=100000000):xY Tryz.prog 40 ⟨7,[.agg [.agg [ah D,ah W,ae wd],.ref 1 4 0 cz.length,ah n0]],true⟩ ⟨4,cz.map fg,true⟩ [.az 0 7 0 0,.list 6 (A.map aD),.list 6 (B.map aD),.cV f cap] (.a7 []) ⟨7,[.agg [.agg [ah D,ah W,ae wd],.ref 1 4 0 (rJ D W na wd lk ([(A++B,0,List.replicate n 0)],n0,cz)).2.2.length,ah (rJ D W na wd lk ([(A++B,0,List.replicate n 0)],n0,cz)).2.1]],true⟩ [⟨4,(rJ D W na wd lk ([(A++B,0,List.replicate n 0)],n0,cz)).2.2.map fg,true⟩]:=by
 have aeT:=hL.sp _ xM
 have hsA:∀ s∈A,db 1000000 s/\s.1<=s.2:=fun s hs=>⟨(aeT s (List.mem_append_left _ hs)).1.le ai,(aeT s (List.mem_append_left _ hs)).2⟩
 have hsB:∀ s∈B,db 1000000 s/\s.1<=s.2:=fun s hs=>⟨(aeT s (List.mem_append_right _ hs)).1.le ai,(aeT s (List.mem_append_right _ hs)).2⟩
 have hfA:=akJ A hA0 J hsA
 have hPB:=aji B hB0 J hsB
 have hpA:=et bS 6 A
 have hpB:=et bS 6 B
 have aBH:=et bS 6 (A++B)
 have zG:(A++B).length=n:=by rw [List.length_append];exact hn
 have htA:(A.map aD).take A.length=A.map aD:=List.take_of_length_le aO
 have hAB:A.map aD++B.map aD=(A++B).map aD:=List.map_append.symm
 have hrp:List.replicate n (eW 0)=(List.replicate n (0:Int)).map eW:=by rw [List.map_replicate]
 have hpz:aG ((List.replicate n (0:Int)).map eW)=true:=aW m9 _
 have yM:=vB wd J
 have htz:((List.replicate n (0:Int)).map eW).take n=(List.replicate n (0:Int)).map eW:=List.take_of_length_le aO
 have aDd:LV.pure (.cV f cap)=true:=by simpa [LV.pure] using fG
 have hE0:=abp D W na wd lk ([(A++B,0,List.replicate n 0)],n0,cz)
 have aDg:fj D [(A++B,0,List.replicate n 0)]<=100000000:=by
  have wW:2 ^ (D-0)<=2 ^ 24:=Nat.pow_le_pow_right ai J
  rw [abz]
  show 2*2 ^ (D-0)-1+0<=_
  omega
 refine fnC Tryz.func40 ?_
 have ady:True:=trivial
 have apS:True:=trivial
 have ekv:True:=trivial
 have ekK:True:=trivial
 have fD:True:=trivial
 have edk:True:=trivial
 have esc:True:=trivial
 have uo:True:=trivial
 have aoH:True:=trivial
 refine aJ ?_
 refine y7 [] rfl rfl (.cons (.pure hpA) .nil) hfA (aW bS _) rfl ?_
 refine ar ?_
 refine cp aK (hPB) ?_
 refine bI rfl (.fX (d:=20) (news:=B.map aD) rfl rfl rfl rfl aO (.inr rfl) ai Tryz.underlying49 Tryz.underlying49 y9 apR cs B54 (.inr (.inl rfl)) bm bm ai) ?_
 refine ax ?_
 refine cq ((aw.hand (t:=8) (b:=20) (l:=A++B) bS rfl rfl (by rw [List.length_append])).trans (aw.refl _)) ?_
 try refine aH ?_
 refine aJ ?_
 try refine aH ?_
 refine eH rfl rfl (.aiI (n:=n) (m:=n) m9 Tryz.underlying22 (show cU _ _ (eW 0) from Z3) T3 B3 rfl rfl J J J) ?_
 refine ar ?_
 try refine aH ?_
 refine eH rfl rfl (avl (z:=jz ([],0,[])) (v:=.agg [.list 6 ((A++B).map aD),iL 0,.ref 24 1 0 n]) Tryz.underlying148 ajO rfl rfl va rfl rfl rfl aO aO ai ai) ?_
 refine ax ?_
 refine jo (((aw.ays 26 [24] rfl rfl (.agg (.cons (.pure aBH) (.cons (.pure rfl) (.cons (adv rfl rfl hpz aO) .nil)))))).trans (aw.kill _ 24)) ?_
 refine lp4 (fun(st jk:List ez) (m:Nat) (cw:List gQ) L=>(((((St.mk L.slot (hp [(0,⟨7,[.agg [.agg [ah D,ah W,ae wd],.ref 1 4 0 cw.length,ah m]],true⟩),(1,⟨4,cw.map fg,true⟩),(26,⟨3,(st.reverse++jk).map jz,true⟩)])).put (some 0) (.az 0 7 0 0)).put (some 1) (.list 6 (A.map aD))).put (some 3) (.cV f cap)).put (some 9) (.ref 26 3 0 st.length))) (fun st jk m cw=>xQ D W na wd lk (st,m,cw) (rJ D W na wd lk ([(A++B,0,List.replicate n 0)],n0,cz))/\(∀ x∈st,I x)/\m<=4096/\cw.length+fj D st<=200000000) (fun st jk m cw=>fj D st) ([(A++B,0,List.replicate n 0)]) ([]) n0 cz ⟨hE0,fun y hy=>by rw [List.mem_singleton.1 hy];exact xM,g7,J⟩ ?_
 rintro st jk m cw L1 ⟨hE,hI,hm9,hc9⟩
 refine bf ?_
 refine aC rfl ?_ ?_<;>intro zz xW
 ·obtain⟨x,st,rfl⟩:∃ x s,st=x :: s:=by
   cases st with
   | nil=>simp at xW
   | cons x s=>exact⟨x,s,rfl⟩
  have esc:=aBN x st jk
  have hln:(x :: st).length=st.length+1:=rfl
  have mX:=hI x aO
  have ss:∀ y∈st,I y:=fun y hy=>hI y (by simp [hy])
  have hlk:=hL.look x mX
  have hlx:=(hL.len x mX).1
  have bE:=(hL.len x mX).2
  have hdx:=hL.dep x mX
  have sX:=hL.sp x mX
  have hkd:=hL.kd x mX
  have hmw:=ach D x
  have hmc:=abz (D:=D) (x:=x) (st:=st)
  have tX:st.length+1<=fj D (x :: st):=arS (D:=D) (x :: st)
  have sA:=hE.step
  have ady:x.1.take A.length=x.1.take na:=by rw [hna]
  have apS:x.1.drop A.length=x.1.drop na:=by rw [hna]
  have fD:(x.1.map aD).take A.length=(x.1.take na).map aD:=by rw [hna,List.map_take]
  have edk:(x.1.map aD).drop A.length=(x.1.drop na).map aD:=by rw [hna,List.map_drop]
  have hPt:=aji (x.1.take na) (by rw [List.length_take];omega) (by rw [List.length_take];omega) (fun s hs=>⟨(sX s (List.mem_of_mem_take hs)).1.le ai,(sX s (List.mem_of_mem_take hs)).2⟩)
  have hPd:=aji (x.1.drop na) (by rw [List.length_drop];omega) (by rw [List.length_drop];omega) (fun s hs=>⟨(sX s (List.mem_of_mem_drop hs)).1.le ai,(sX s (List.mem_of_mem_drop hs)).2⟩)
  have amX:LV.pure (.agg [.list 6 ((x.1.take na).map aD),.list 6 ((x.1.drop na).map aD),ah 1,ah 0])=true:=aiK (x.1.take na,x.1.drop na,1,0)
  have xO:LV.pure (.agg [.list 6 ((x.1.take na).map aD),.list 6 ((x.1.drop na).map aD),ah (lC (lk (x.1.take na) (x.1.drop na))),ah (kV (lk (x.1.take na) (x.1.drop na)))])=true:=aiK (x.1.take na,x.1.drop na,lC (lk (x.1.take na) (x.1.drop na)),kV (lk (x.1.take na) (x.1.drop na)))
  have avk:aG [.agg [.list 6 ((x.1.take na).map aD),.list 6 ((x.1.drop na).map aD),ah 1,ah 0]]=true:=by simp only [aG,amX,Bool.and_self]
  have aAg:aG [.agg [.list 6 ((x.1.take na).map aD),.list 6 ((x.1.drop na).map aD),ah (lC (lk (x.1.take na) (x.1.drop na))),ah (kV (lk (x.1.take na) (x.1.drop na)))]]=true:=by simp only [aG,xO,Bool.and_self]
  have hpt:=et bS 6 (x.1.take na)
  have hpd:=et bS 6 (x.1.drop na)
  have aoH:(cw.map fg).take cw.length=cw.map fg:=List.take_of_length_le aO
  refine bf ?_
  refine ak rfl jm ?_
  try refine aH ?_
  refine ak rfl (.tU rfl Tryz.underlying148 va rfl u6 u6) ?_
  try refine aH ?_
  refine ak rfl (.fi (b:=26) (sz:=3) (i:=st.length) (o:=0) (x:=jz x) (r:=jz x) (n:=3) (ag:=true) rfl rfl rfl (aw3 x st jk) (abv.au _) (dG (abv.au _) rfl) va) ?_
  refine bq ?_
  refine ak rfl jm ?_
  refine ak rfl (.adT rfl Tryz.underlying148 va rfl om om) ?_
  refine ax ?_
  refine aY 14 an ?_
  refine ax ?_
  try refine aH ?_
  refine ak rfl (by first | exact .alC (h:=A.length) bS rfl Tryz.underlying49 lD rfl om | exact .adT rfl Tryz.underlying49 lD rfl om om) ?_
  try refine aH ?_
  refine cp aK (hPt) ?_
  refine ax ?_
  try refine aH ?_
  refine ak rfl (.aaj (a:=A.length) bS rfl Tryz.underlying49 lD rfl om) ?_
  try refine aH ?_
  refine cp aK (hPd) ?_
  refine aR ?_
  refine aY 10 an ?_
  refine bu ?_
  refine aC rfl ?_ ?_<;>intro ai5 fx
  ·have rK:W<=m:=by omega
   refine ar ?_
   refine fY 7 [0] an ?_
   refine aA ?_
   try refine aH ?_
   refine eH rfl rfl (wJ (z:=fg ([],[],0,0)) (v:=.agg [.list 6 ((x.1.take na).map aD),.list 6 ((x.1.drop na).map aD),ah 1,ah 0]) Tryz.underlying43 uz rfl rfl nS rfl rfl rfl amX ai ai) ?_
   refine bI rfl (.fX (d:=1) (news:=[.agg [.list 6 ((x.1.take na).map aD),.list 6 ((x.1.drop na).map aD),ah 1,ah 0]]) rfl rfl rfl rfl aO (.inl rfl) ai Tryz.underlying43 Tryz.underlying43 uz nS rfl B51 (.inl ⟨70,0,_,rfl,by decide,rfl,rfl,by simp,rfl,avk⟩) bm bm ai) ?_
   try refine aH ?_
   refine aL ?_
   try refine aH ?_
   refine aR ?_
   exact oM st (x :: jk) m (cw++[mq na x (false,0,0)]) ⟨(aAD (D:=D) (wd:=wd) rK ▸ sA),ss,hm9,yK⟩ (he:=((((aw.kill _ 10).trans (aw.kill _ 11)).trans (aw.kill _ 70))).trans (aw.of_eq (aj (aj (aj (aj (bz (by first | exact cl | (refine aH ?_;refine iB ?_ ?_<;>repeat (first | exact trivial | refine And.intro rfl ?_)))) cl) cl) cl) cl)))
  ·have rK:¬W<=m:=by omega
   refine bf ?_
   refine ak rfl cB ?_
   refine bu ?_
   try refine aH ?_
   refine mK [] rfl rfl (.cV (f:=f) (cap:=cap) (args:=[.list 6 ((x.1.take na).map aD),.list 6 ((x.1.drop na).map aD)]) rfl (.cons (.pure hpt) (.cons (.pure hpd) .nil)) ⟨fG,hcs⟩ hlk.1 ai (fun _ h=>by cases h)) (hlk.2 _) ?_
   refine bp ?_
   refine aC rfl ?_ ?_<;>intro aya sG
   ·refine ax ?_
    exact oM st (x :: jk) (m+1) cw ⟨(axw (D:=D) (wd:=wd) rK sG ▸ sA),ss,J,J⟩ (he:=((((aw.kill _ 10).trans (aw.kill _ 11)).trans (aw.kill _ 12))).trans (aw.of_eq (aj (aj (aj (aj (bz (by first | exact cl | (refine aH ?_;refine iB ?_ ?_<;>repeat (first | exact trivial | refine And.intro rfl ?_)))) cl) cl) cl) cl)))
   ·refine ax ?_
    refine cq (aw.bW (t:=12) (b:=12) rfl rfl rfl rfl rfl) ?_
    try refine aH ?_
    refine a6 ?_
    refine fT (fun L=>∃  (L1:St),(True)/\L=(((((((St.mk L1.slot (hp [(0,⟨7,[.agg [.agg [ah D,ah W,ae wd],.ref 1 4 0 cw.length,ah (m+1)]],true⟩),(1,⟨4,cw.map fg,true⟩),(26,⟨3,(st.reverse++(x :: jk)).map jz,true⟩),(10,⟨3,[.agg [.list 6 (x.1.map aD),ah x.2.1,.list 1 (x.2.2.map eW)]],true⟩),(11,⟨4,[.agg [.list 6 ((x.1.take na).map aD),.list 6 ((x.1.drop na).map aD),ah (lC (lk (x.1.take na) (x.1.drop na))),ah (kV (lk (x.1.take na) (x.1.drop na)))]],true⟩)])).put (some 0) (.az 0 7 0 0)).put (some 1) (.list 6 (A.map aD))).put (some 3) (.cV f cap)).put (some 9) (.ref 26 3 0 st.length)).put (some 10) (.az 10 3 0 0)).put (some 11) (.az 11 4 0 0))) ?_ ?_
    ·refine aC rfl ?_ ?_<;>intro aC5 h91
     ·have ekv:lC (lk (x.1.take na) (x.1.drop na))=(lk (x.1.take na) (x.1.drop na)).2.1:=if_neg J
      have ekK:kV (lk (x.1.take na) (x.1.drop na))=(lk (x.1.take na) (x.1.drop na)).2.2:=if_neg J
      refine aan ?_
      refine gu 0 rfl rfl an (.pure l6) jy gg ?_
      refine gu 1 rfl rfl an (.pure ij) jy gg ?_
      refine gu 2 rfl rfl an (.pure l6) jy gg ?_
      refine gu 3 rfl rfl an (.pure ij) jy gg ?_
      refine aV 4 _ an rfl ?_
      refine ar ?_
      refine aE ?_
      refine aV 5 _ an rfl ?_
      refine ar ?_
      refine aE ?_
      refine aV 6 _ an rfl ?_
      refine ar ?_
      refine aE ?_
      refine aV 7 _ an rfl ?_
      refine ar ?_
      refine aE ?_
      refine eO an ?_
      refine ar ?_
      exact acU
     ·have ekv:lC (lk (x.1.take na) (x.1.drop na))=1:=if_pos J
      have ekK:kV (lk (x.1.take na) (x.1.drop na))=0:=if_pos J
      refine aL ?_
      exact acU
    ·rintro _ ⟨aDm,-,rfl⟩
     refine aR ?_
     refine dy 101 rfl ?_ ?_<;>intro aDJ aDN
     ·refine bq ?_
      refine aY 31 an ?_
      refine aR ?_
      refine cp aK (yM) ?_
      refine aL ?_
      refine dy 115 rfl ?_ ?_<;>intro awn adt
      ·refine tK ?_
       refine fY 7 [0] an ?_
       refine aA ?_
       try refine aH ?_
       refine eH rfl rfl (wJ (z:=fg ([],[],0,0)) (v:=.agg [.list 6 ((x.1.take na).map aD),.list 6 ((x.1.drop na).map aD),ah (lC (lk (x.1.take na) (x.1.drop na))),ah (kV (lk (x.1.take na) (x.1.drop na)))]) Tryz.underlying43 uz rfl rfl nS rfl rfl rfl xO ai ai) ?_
       refine bI rfl zP ?_
       try refine aH ?_
       refine aL ?_
       try refine aH ?_
       refine aR ?_
       exact oM st (x :: jk) (m+1) (cw++[mq na x (lk (x.1.take na) (x.1.drop na))]) ⟨(zC (D:=D) (wd:=wd) rK sG zB ▸ sA),ss,J,yK⟩ (he:=((((aw.kill _ 10).trans (aw.kill _ 11)).trans (aw.kill _ 143))).trans (aw.of_eq (aj (aj (aj (aj (bz (by first | exact cl | (refine aH ?_;refine iB ?_ ?_<;>repeat (first | exact trivial | refine And.intro rfl ?_)))) cl) cl) cl) cl)))
      ·refine aR ?_
       refine cp aq (alx x.1 wd J (fun s hs=>(sX s hs).1.le ai) J) ?_
       refine ax ?_
       refine dy 127 rfl ?_ ?_<;>intro aAn acd
       ·refine dj ?_
        refine fY 7 [0] an ?_
        refine aA ?_
        try refine aH ?_
        refine eH rfl rfl (wJ (z:=fg ([],[],0,0)) (v:=.agg [.list 6 ((x.1.take na).map aD),.list 6 ((x.1.drop na).map aD),ah (lC (lk (x.1.take na) (x.1.drop na))),ah (kV (lk (x.1.take na) (x.1.drop na)))]) Tryz.underlying43 uz rfl rfl nS rfl rfl rfl xO ai ai) ?_
        refine bI rfl zP ?_
        try refine aH ?_
        refine aL ?_
        try refine aH ?_
        refine aR ?_
        exact oM st (x :: jk) (m+1) (cw++[mq na x (lk (x.1.take na) (x.1.drop na))]) ⟨(zC (D:=D) (wd:=wd) rK sG zB ▸ sA),ss,J,yK⟩ (he:=((((aw.kill _ 10).trans (aw.kill _ 11)).trans (aw.kill _ 143))).trans (aw.of_eq (aj (aj (aj (aj (bz (by first | exact cl | (refine aH ?_;refine iB ?_ ?_<;>repeat (first | exact trivial | refine And.intro rfl ?_)))) cl) cl) cl) cl)))
       ·refine bp ?_
        refine aC rfl ?_ ?_<;>intro agA ajI
        ·refine ar ?_
         refine fY 7 [0] an ?_
         refine aA ?_
         try refine aH ?_
         refine eH rfl rfl (wJ (z:=fg ([],[],0,0)) (v:=.agg [.list 6 ((x.1.take na).map aD),.list 6 ((x.1.drop na).map aD),ah (lC (lk (x.1.take na) (x.1.drop na))),ah (kV (lk (x.1.take na) (x.1.drop na)))]) Tryz.underlying43 uz rfl rfl nS rfl rfl rfl xO ai ai) ?_
         refine bI rfl zP ?_
         try refine aH ?_
         refine aL ?_
         try refine aH ?_
         refine aR ?_
         exact oM st (x :: jk) (m+1) (cw++[mq na x (lk (x.1.take na) (x.1.drop na))]) ⟨(zC (D:=D) (wd:=wd) rK sG zB ▸ sA),ss,J,yK⟩ (he:=((((aw.kill _ 10).trans (aw.kill _ 11)).trans (aw.kill _ 143))).trans (aw.of_eq (aj (aj (aj (aj (bz (by first | exact cl | (refine aH ?_;refine iB ?_ ?_<;>repeat (first | exact trivial | refine And.intro rfl ?_)))) cl) cl) cl) cl)))
        ·have hmh:=aht (D:=D) (x:=x) (st:=st) J
         have jG:nI D wd x (lk (x.1.take na) (x.1.drop na))=false:=by first | exact ahA adt (by simpa using acd) J | exact aiQ J J
         refine a6 ?_
         refine gI rfl (.cons (.pure (so x)) .nil) (aiW x n D hlx bE J xG hdx J (hL.tm x mX) 1000 ai sX) ?_
         refine dk ?_
         try refine aH ?_
         refine bI rfl ah0 ?_
         refine ax ?_
         exact oM (lL x :: lO x :: st) ([]) (m+1) cw ⟨(aiz (D:=D) (wd:=wd) rK sG jG ▸ sA),fun y hy=>by
          simp only [List.mem_cons] at hy
          rcases hy with rfl | rfl | hy
          ·exact(hL.half x mX J).1
          ·exact(hL.half x mX J).2
          ·exact ss y hy,J,J⟩ (he:=((((((aw.kill _ 10).trans (aw.kill _ 11)).trans (aw.kill _ 14)).trans (aw.kill _ 15)).trans (aw.kill _ 155))).trans (aw.of_eq (aj (aj (aj (aj (bz (by first | exact cl | (refine aH ?_;refine iB ?_ ?_<;>repeat (first | exact trivial | refine And.intro rfl ?_)))) cl) cl) cl) cl)))
     ·refine bq ?_
      refine aY 31 an ?_
      refine aL ?_
      refine dy 107 rfl ?_ ?_<;>intro aEf aDK
      ·refine a6 ?_
       refine cp aK (yM) ?_
       refine aL ?_
       refine dy 115 rfl ?_ ?_<;>intro awn adt
       ·refine tK ?_
        refine fY 7 [0] an ?_
        refine aA ?_
        try refine aH ?_
        refine eH rfl rfl (wJ (z:=fg ([],[],0,0)) (v:=.agg [.list 6 ((x.1.take na).map aD),.list 6 ((x.1.drop na).map aD),ah (lC (lk (x.1.take na) (x.1.drop na))),ah (kV (lk (x.1.take na) (x.1.drop na)))]) Tryz.underlying43 uz rfl rfl nS rfl rfl rfl xO ai ai) ?_
        refine bI rfl zP ?_
        try refine aH ?_
        refine aL ?_
        try refine aH ?_
        refine aR ?_
        exact oM st (x :: jk) (m+1) (cw++[mq na x (lk (x.1.take na) (x.1.drop na))]) ⟨(zC (D:=D) (wd:=wd) rK sG zB ▸ sA),ss,J,yK⟩ (he:=((((aw.kill _ 10).trans (aw.kill _ 11)).trans (aw.kill _ 143))).trans (aw.of_eq (aj (aj (aj (aj (bz (by first | exact cl | (refine aH ?_;refine iB ?_ ?_<;>repeat (first | exact trivial | refine And.intro rfl ?_)))) cl) cl) cl) cl)))
       ·refine aR ?_
        refine cp aq (alx x.1 wd J (fun s hs=>(sX s hs).1.le ai) J) ?_
        refine ax ?_
        refine dy 127 rfl ?_ ?_<;>intro aAn acd
        ·refine dj ?_
         refine fY 7 [0] an ?_
         refine aA ?_
         try refine aH ?_
         refine eH rfl rfl (wJ (z:=fg ([],[],0,0)) (v:=.agg [.list 6 ((x.1.take na).map aD),.list 6 ((x.1.drop na).map aD),ah (lC (lk (x.1.take na) (x.1.drop na))),ah (kV (lk (x.1.take na) (x.1.drop na)))]) Tryz.underlying43 uz rfl rfl nS rfl rfl rfl xO ai ai) ?_
         refine bI rfl zP ?_
         try refine aH ?_
         refine aL ?_
         try refine aH ?_
         refine aR ?_
         exact oM st (x :: jk) (m+1) (cw++[mq na x (lk (x.1.take na) (x.1.drop na))]) ⟨(zC (D:=D) (wd:=wd) rK sG zB ▸ sA),ss,J,yK⟩ (he:=((((aw.kill _ 10).trans (aw.kill _ 11)).trans (aw.kill _ 143))).trans (aw.of_eq (aj (aj (aj (aj (bz (by first | exact cl | (refine aH ?_;refine iB ?_ ?_<;>repeat (first | exact trivial | refine And.intro rfl ?_)))) cl) cl) cl) cl)))
        ·refine bp ?_
         refine aC rfl ?_ ?_<;>intro agA ajI
         ·refine ar ?_
          refine fY 7 [0] an ?_
          refine aA ?_
          try refine aH ?_
          refine eH rfl rfl (wJ (z:=fg ([],[],0,0)) (v:=.agg [.list 6 ((x.1.take na).map aD),.list 6 ((x.1.drop na).map aD),ah (lC (lk (x.1.take na) (x.1.drop na))),ah (kV (lk (x.1.take na) (x.1.drop na)))]) Tryz.underlying43 uz rfl rfl nS rfl rfl rfl xO ai ai) ?_
          refine bI rfl zP ?_
          try refine aH ?_
          refine aL ?_
          try refine aH ?_
          refine aR ?_
          exact oM st (x :: jk) (m+1) (cw++[mq na x (lk (x.1.take na) (x.1.drop na))]) ⟨(zC (D:=D) (wd:=wd) rK sG zB ▸ sA),ss,J,yK⟩ (he:=((((aw.kill _ 10).trans (aw.kill _ 11)).trans (aw.kill _ 143))).trans (aw.of_eq (aj (aj (aj (aj (bz (by first | exact cl | (refine aH ?_;refine iB ?_ ?_<;>repeat (first | exact trivial | refine And.intro rfl ?_)))) cl) cl) cl) cl)))
         ·have hmh:=aht (D:=D) (x:=x) (st:=st) J
          have jG:nI D wd x (lk (x.1.take na) (x.1.drop na))=false:=by first | exact ahA adt (by simpa using acd) J | exact aiQ J J
          refine a6 ?_
          refine gI rfl (.cons (.pure (so x)) .nil) (aiW x n D hlx bE J xG hdx J (hL.tm x mX) 1000 ai sX) ?_
          refine dk ?_
          try refine aH ?_
          refine bI rfl ah0 ?_
          refine ax ?_
          exact oM (lL x :: lO x :: st) ([]) (m+1) cw ⟨(aiz (D:=D) (wd:=wd) rK sG jG ▸ sA),fun y hy=>by
           simp only [List.mem_cons] at hy
           rcases hy with rfl | rfl | hy
           ·exact(hL.half x mX J).1
           ·exact(hL.half x mX J).2
           ·exact ss y hy,J,J⟩ (he:=((((((aw.kill _ 10).trans (aw.kill _ 11)).trans (aw.kill _ 14)).trans (aw.kill _ 15)).trans (aw.kill _ 155))).trans (aw.of_eq (aj (aj (aj (aj (bz (by first | exact cl | (refine aH ?_;refine iB ?_ ?_<;>repeat (first | exact trivial | refine And.intro rfl ?_)))) cl) cl) cl) cl)))
      ·refine akC ?_
       refine aC rfl ?_ ?_<;>intro agA ajI
       ·refine ar ?_
        refine fY 7 [0] an ?_
        refine aA ?_
        try refine aH ?_
        refine eH rfl rfl (wJ (z:=fg ([],[],0,0)) (v:=.agg [.list 6 ((x.1.take na).map aD),.list 6 ((x.1.drop na).map aD),ah (lC (lk (x.1.take na) (x.1.drop na))),ah (kV (lk (x.1.take na) (x.1.drop na)))]) Tryz.underlying43 uz rfl rfl nS rfl rfl rfl xO ai ai) ?_
        refine bI rfl zP ?_
        try refine aH ?_
        refine aL ?_
        try refine aH ?_
        refine aR ?_
        exact oM st (x :: jk) (m+1) (cw++[mq na x (lk (x.1.take na) (x.1.drop na))]) ⟨(zC (D:=D) (wd:=wd) rK sG zB ▸ sA),ss,J,yK⟩ (he:=((((aw.kill _ 10).trans (aw.kill _ 11)).trans (aw.kill _ 143))).trans (aw.of_eq (aj (aj (aj (aj (bz (by first | exact cl | (refine aH ?_;refine iB ?_ ?_<;>repeat (first | exact trivial | refine And.intro rfl ?_)))) cl) cl) cl) cl)))
       ·have hmh:=aht (D:=D) (x:=x) (st:=st) J
        have jG:nI D wd x (lk (x.1.take na) (x.1.drop na))=false:=by first | exact ahA adt (by simpa using acd) J | exact aiQ J J
        refine a6 ?_
        refine gI rfl (.cons (.pure (so x)) .nil) (aiW x n D hlx bE J xG hdx J (hL.tm x mX) 1000 ai sX) ?_
        refine dk ?_
        try refine aH ?_
        refine bI rfl ah0 ?_
        refine ax ?_
        exact oM (lL x :: lO x :: st) ([]) (m+1) cw ⟨(aiz (D:=D) (wd:=wd) rK sG jG ▸ sA),fun y hy=>by
         simp only [List.mem_cons] at hy
         rcases hy with rfl | rfl | hy
         ·exact(hL.half x mX J).1
         ·exact(hL.half x mX J).2
         ·exact ss y hy,J,J⟩ (he:=((((((aw.kill _ 10).trans (aw.kill _ 11)).trans (aw.kill _ 14)).trans (aw.kill _ 15)).trans (aw.kill _ 155))).trans (aw.of_eq (aj (aj (aj (aj (bz (by first | exact cl | (refine aH ?_;refine iB ?_ ?_<;>repeat (first | exact trivial | refine And.intro rfl ?_)))) cl) cl) cl) cl)))
 ·obtain rfl:st=[]:=by
   cases st with
   | nil=>rfl
   | cons x s=>simp at xW
  have hR:=hE.nil
  refine ax ?_
  rw [hR]
  refine⟨_,aw.kill _ 26,?_⟩
  refine aH ?_
  exact auL rfl rfl (by show (⟨_,_,_⟩:a8)=⟨_,_,_⟩;simp only [cX,LV.bJ,mE,ah,LV.cP (ph [1]) (ae wd) (ao.pure wd)];rfl) aO rfl (aaI _) rfl
theorem awd {l:List (Nat × a8)} {c:Nat} (h:∀ x∈l.map (·.1),x≠c):hp l c=none:=by
 induction l with
 | nil=>rfl
 | cons q t ih =>
  obtain⟨d,y⟩:=q
  have e:Nat.beq c d=false:=by
   rw [<-Bool.not_eq_true,Nat.beq_eq]
   exact fun e=>h d aO e.symm
  simp only [hp,e,cond_false]
  exact ih fun x hx=>h x (by simp only [List.map_cons,List.mem_cons];exact .inr hx)
abbrev lI:=Nat × List gQ
def pS (d w:Nat) (wd:Rat) (lk:cI->cI->iU) (dm:cI->Sp) (c e:cI) (s:lI):lI:=(rJ d w 1 wd (lk c e) ([([dm c]++[dm e],0,List.replicate 2 0)],s.1,s.2)).2
def ny (d w:Nat) (wd:Rat) (lk:cI->cI->iU) (dm:cI->Sp) (c:cI) (l:List cI) (s:lI):lI:=l.foldl (fun s e=>pS d w wd lk dm c e s) s
def pn (d w:Nat) (wd:Rat) (lk:cI->cI->iU) (dm:cI->Sp) (l m:List cI) (s:lI):lI:=l.foldl (fun s c=>ny d w wd lk dm c m s) s
theorem atJ {D W na:Nat} {wd:Rat} {lk:iU} (C:Nat) {s:RunT} (hW:W<=4096) (h1:s.2.1<=4096) (h:s.2.2.length+fj D s.1<=C):(rJ D W na wd lk s).2.1<=4096/\(rJ D W na wd lk s).2.2.length<=C:=by
 have:=(aa5 (D:=D) (W:=W) (na:=na) (wd:=wd) (lk:=lk) (fun s=>s.2.1<=4096/\s.2.2.length+fj D s.1<=C) (fun x st n cs hI=>by
  have hs:=ahf (D:=D) (W:=W) (na:=na) (wd:=wd) (lk:=lk) (x:=x) (st:=st) (n:=n) (cs:=cs)
  have hl:(lU D W na wd lk (x :: st,n,cs)).2.2.length<=cs.length+1:=by
   rw [lU]
   split
   ·simp
   ·split
    ·simp
    ·split<;>simp
  have hn:(lU D W na wd lk (x :: st,n,cs)).2.1<=4096:=by
   have pg:n<=4096:=hI.1
   rw [lU]
   split
   ·exact pg
   ·split
    ·show n+1<=4096;omega
    ·split<;>(show n+1<=4096;omega)
  have pI:cs.length+fj D (x :: st)<=C:=hI.2
  exact⟨hn,J⟩) (fj D s.1) (Nat.le_refl _) ⟨h1,h⟩ (abp D W na wd lk s)).1
 exact⟨this.1,by have:=this.2;omega⟩
theorem aq5 {d w:Nat} {wd:Rat} {lk:cI->cI->iU} {dm:cI->Sp} {c e:cI} {s:lI} (hd:d<=10) (hW:w<=4096) (h1:s.1<=4096) {m:Nat} (h:s.2.length<=m):(pS d w wd lk dm c e s).1<=4096/\(pS d w wd lk dm c e s).2.length<=m+2048:=by
 refine atJ (m+2048) hW h1 ?_
 have hp:2 ^ (d-0)<=2 ^ 10:=Nat.pow_le_pow_right ai J
 have e10:(2:Nat) ^ 10=1024:=rfl
 show s.2.length+((2*2 ^ (d-0)-1)+0)<=_
 omega
theorem auc {d w:Nat} {wd:Rat} {lk:cI->cI->iU} {dm:cI->Sp} {c:cI} {l:List cI} {j:Nat} {s:lI} (h:j<l.length):ny d w wd lk dm c (l.drop j) s=ny d w wd lk dm c (l.drop (j+1)) (pS d w wd lk dm c (l.getD j default) s):=by
 rw [List.drop_eq_getElem_cons h,List.getD_eq_getElem?_getD,List.getElem?_eq_getElem h];rfl
theorem az6 {d w:Nat} {wd:Rat} {lk:cI->cI->iU} {dm:cI->Sp} {l m:List cI} {j:Nat} {s:lI} (h:j<l.length):pn d w wd lk dm (l.drop j) m s=pn d w wd lk dm (l.drop (j+1)) m (ny d w wd lk dm (l.getD j default) m s):=by
 rw [List.drop_eq_getElem_cons h,List.getD_eq_getElem?_getD,List.getElem?_eq_getElem h];rfl
theorem api {P:Program} {L L0:St} {id:Nat} {ops:Array Oper} {d:Bool} {Q:iM->St->Prop} (hw:aw L L0) (h:cy P (.region id ops d) Q L0):cy P (.region id ops d) Q L:=by
 unfold cy at h ⊢
 obtain⟨L1,h1,h2⟩:=h
 exact⟨L1,hw.trans h1,h2⟩
theorem ayz {L:St} {b4 b14:a8} {p:LV} {m n:Nat} {l:List gQ} (hpp:p.pure=true) (h4:aG b4.vals=true) (jS:aG b14.vals=true)
  (hL:L.heap=hp [(4,b4),(42,⟨7,[.agg [p,.ref 1001041 4 0 m,ah n]],true⟩),(14,b14),(1001041,⟨4,l.map fg,true⟩)]) :
  aw L ⟨fun t=>((L.slot t).kill 144).bJ (gV 1001041 144),hp [(4,b4),(42,⟨7,[.agg [p,.ref 144 4 0 m,ah n]],true⟩),(144,⟨4,l.map fg,true⟩),(14,b14)]⟩:=by
 refine(aw.avA (b:=1001041) (b':=144) hL ai ai ai).trans (aw.of_eq ?_)
 simp only [St.mk.injEq,true_and]
 have hbq:∀ a b:Nat,Nat.beq a b=(a==b):=fun a b=>by rw [Bool.eq_iff_iff,Nat.beq_eq,beq_iff_eq]
 have k4:bN 144 b4.vals=b4.vals:=adf 144 _ h4
 have k14:bN 144 b14.vals=b14.vals:=adf 144 _ jS
 have kc:bN 144 (l.map fg)=l.map fg:=aP aaA ..
 have kr:bN 144 [LV.agg [p,.ref 1001041 4 0 m,ah n]]=[LV.agg [p,.ref 1001041 4 0 m,ah n]]:=by
  simp only [bN,LV.kill,LV.ki _ _ hpp,ah];rfl
 have r4:cX (gV 1001041 144) b4.vals=b4.vals:=mE _ _ h4
 have r14:cX (gV 1001041 144) b14.vals=b14.vals:=mE _ _ jS
 have rc:cX (gV 1001041 144) (l.map fg)=l.map fg:=mE _ _ (aaI _)
 have rr:cX (gV 1001041 144) [LV.agg [p,.ref 1001041 4 0 m,ah n]]=[LV.agg [p,.ref 144 4 0 m,ah n]]:=by
  simp only [cX,LV.bJ,LV.cP _ _ hpp,ah];rfl
 refine iB ?_ ?_
 all_goals
  simp only [nd,hbq,Nat.reduceBEq,cond_false,cond_true,List.map_cons,List.map_nil,k4,k14,kc,kr,r4,r14,rc,rr]
  simp only [gV,Nat.reduceEqDiff,reduceIte,acP,hp,hbq,Nat.reduceBEq,cond_false,cond_true,and_self]
theorem anx {l:List cI} {i:Nat} (h:i<l.length):(l.map dv)[((i:Nat):Int).toNat]?=some (dv (l.getD i default)):=by
 rw [Int.toNat_natCast,List.getElem?_map,List.getD_eq_getElem?_getD,List.getElem?_eq_getElem h];rfl
attribute [local irreducible] dv
namespace alT
theorem aH {p q:Prop} (k:q) (e:p=q:=by simp only [e1,e2,e3,e4,p1,p2,p3,q1,q2,q3,l1,t0,t1,r1,r2,r3,r4,Nat.zero_add,Nat.reduceMul,Nat.reduceAdd,b1,b2,b3,b4,b5,b6,i1,i2,i3,i4,i5,i6,Nat.reduceBEq,hc5,hc7,fy0,fyc,hnM,mE _ _ (aaI _),List.length_map,k5,kI,iz,List.length_cons,List.length_nil,List.nil_append,List.map_nil,List.take_nil,List.append_nil,aP bS,aP aaA,List.getD_cons_zero,List.getD_cons_succ,List.set_cons_zero,List.set_cons_succ,Nat.reduceEqDiff,reduceIte,if_true,if_false,dW,ec,aP bg,aP bw,aP ao,cH,dO,LV.kill,bN,aqF,aP fI];exact rfl):p:=e.mpr k
end alT
open alT in
theorem aCZ (d1 d2:Nat) (k1 k2:List Rat) (cg b9:List aF) (jF:cg.length<=1000) (mG:b9.length<=1000) (uU:∀ x∈cg,x.p.z=0) (yE:∀ x∈b9,x.p.z=0) (CA CB:List cI) (hA:CA.length<=10) (hB:CB.length<=10) (d w:Nat) (wd:Rat) (hd:d<=10) (hw:w<=4096) (hwd:rl wd<=100) (lk:cI->cI->iU) (dm:cI->Sp) (I:cI->cI->ez->Prop) (hVa:av Tryz.prog 37 [.agg [ah d,ah w,ae wd]] (bL true)) (hP1:av Tryz.prog 39 [.agg [ah d1,.list 3 (k1.map ae),.list 12 (cg.map aT)]] (.list 3 (CA.map dv))) (hP2:av Tryz.prog 39 [.agg [ah d2,.list 3 (k2.map ae),.list 12 (b9.map aT)]] (.list 3 (CB.map dv))) (hD1:∀ c∈CA,av Tryz.prog 41 [dv c] (aD (dm c))) (hD2:∀ c∈CB,av Tryz.prog 41 [dv c] (aD (dm c))) (hLk:∀ c∈CA,∀ e∈CB,adM Tryz.prog 42 [.bW (dv c),.bW (dv e)] d 1 2 (lk c e) (I c e)) (xM:∀ c∈CA,∀ e∈CB,I c e ([dm c]++[dm e],0,List.replicate 2 0)):av Tryz.prog 14 [.agg [ah d1,.list 3 (k1.map ae),.list 12 (cg.map aT)],.agg [ah d2,.list 3 (k2.map ae),.list 12 (b9.map aT)],.agg [ah d,ah w,ae wd]] (.a7 [.list 4 ((pn d w wd lk dm CA CB (0,[])).2.map fg),iL 0]):=by
 have hc5:(LV.agg [ah d,ah w,ae wd]).au=5:=by simp [LV.au,cF,ao.au]
 have hc7:(LV.agg [.agg [ah d,ah w,ae wd],.v (.slice none 0 0),ah 0]).au=7:=by simp [LV.au,cF,ao.au]
 have aaF:LV.pure (.agg [ah d1,.list 3 (k1.map ae),.list 12 (cg.map aT)])=true:=by simp [LV.pure,aG,aW ao,aW bw]
 have zq:LV.pure (.agg [ah d2,.list 3 (k2.map ae),.list 12 (b9.map aT)])=true:=by simp [LV.pure,aG,aW ao,aW bw]
 have ma:LV.pure (.agg [ah d,ah w,ae wd])=true:=ayi d w wd
 have hS0:∀ x:aF,x.p.z=0->av Tryz.prog 38 [ae x.p.z] (iL 0):=fun x h=>by
  rw [h]
  have:=vB 0 (by have:rl 0=1:=rfl;omega)
  rwa [show cM 0=0 from by decide +kernel] at this
 have hbR:∀ m n:Nat,cX (yV 42 144 65) [.agg [.agg [ah d,ah w,ae wd],.ref 1 4 0 m,ah n]]=[.agg [.agg [ah d,ah w,ae wd],.ref 144 4 0 m,ah n]]:=fun m n=>by
  simp only [cX,LV.bJ,ah,LV.cP _ (ae wd) (ao.pure wd)];rfl
 have hnR:∀ m n:Nat,cX (kR 42 65) [.agg [.agg [ah d,ah w,ae wd],.ref 1 4 0 m,ah n]]=[.agg [.agg [ah d,ah w,ae wd],.ref 1001041 4 0 m,ah n]]:=fun m n=>by
  simp only [cX,LV.bJ,ah,LV.cP _ (ae wd) (ao.pure wd)];rfl
 have hnM:∀ m n:Nat,cX (gV 1001041 144) [.agg [.agg [ah d,ah w,ae wd],.ref 1001041 4 0 m,ah n]]=[.agg [.agg [ah d,ah w,ae wd],.ref 144 4 0 m,ah n]]:=fun m n=>by
  simp only [cX,LV.bJ,ah,LV.cP _ (ae wd) (ao.pure wd)];rfl
 have hnC:∀ l:List gQ,cX (kR 42 65) (l.map fg)=l.map fg:=fun l=>mE _ _ (aaI _)
 have alj:=et fI 3 CA
 have anO:=et fI 3 CB
 have jc:kR 42 65 1=1001041:=rfl
 refine aN Tryz.func14 (ht:=(jg (by simp only [LV.pure,aaI]) rfl)) ?_
 refine dj ?_
 refine gI rfl (.cons (.pure ma) .nil) (hVa) ?_
 refine aJ ?_
 refine eF (b:=_) rfl (rfl) ?_
 refine aR ?_
 refine ak rfl (ad3 (v0:=.agg [ah d1,.list 3 (k1.map ae),.list 12 (cg.map aT)]) (v1:=.agg [ah d2,.list 3 (k2.map ae),.list 12 (b9.map aT)]) Tryz.underlying83 jH Z83 lz rfl rfl lz lz aaF zq) ?_
 refine ax ?_
 refine bG ?_
 refine aA ?_
 refine bY (b:=_) rfl ai ?_
 refine aA ?_
 first | refine ak rfl (.xp rfl Tryz.underlying83 jH rfl rfl ai rfl aaF) ?_ | refine ak rfl (.xp rfl Tryz.underlying83 jH rfl rfl ai rfl zq) ?_
 refine dj ?_
 refine jo (aw.kill _ 9) ?_
 refine dJ (fun(i:Nat) L=>(((((((((St.mk L.slot (hp [(3,⟨3,[.agg [ah d1,.list 3 (k1.map ae),.list 12 (cg.map aT)]],true⟩),(4,⟨3,[.agg [ah d2,.list 3 (k2.map ae),.list 12 (b9.map aT)]],true⟩),(5,⟨5,[.agg [ah d,ah w,ae wd]],true⟩)])).put (some 3) (.az 3 3 0 0)).put (some 4) (.az 4 3 0 0)).put (some 5) (.az 5 5 0 0)).put (some 22) (.agg [.agg [ah d1,.list 3 (k1.map ae),.list 12 (cg.map aT)],.agg [ah d2,.list 3 (k2.map ae),.list 12 (b9.map aT)]])).put (some 23) (ah 0)).put (some 27) (.list 12 (cg.map aT))).put (some 28) (ah cg.length)).put (some 29) (ah i))) (fun i=>i<=cg.length) (fun i=>cg.length-i) 0 (Nat.zero_le _) ?_
 rintro i L2 hi
 refine aA ?_
 refine aC rfl ?_ ?_<;>intro aaC yx
 ·have dB:i<cg.length:=by omega
  have yM:=hS0 _ (uU _ (qI dB))
  refine im ?_
  refine cp aK (yM) ?_
  refine aJ ?_
  refine eF (b:=_) rfl (rfl) ?_
  refine aJ ?_
  refine cq (aw.kill _ 11) ?_
  refine ak rfl cB ?_
  refine aJ ?_
  exact jX
 ·refine aA ?_
  refine cq (aw.kill _ 9) ?_
  refine ax ?_
  refine bG ?_
  refine aA ?_
  refine bY (b:=_) rfl ai ?_
  refine aA ?_
  first | refine ak rfl (.xp rfl Tryz.underlying83 jH rfl rfl ai rfl aaF) ?_ | refine ak rfl (.xp rfl Tryz.underlying83 jH rfl rfl ai rfl zq) ?_
  refine dj ?_
  refine jo (aw.kill _ 9) ?_
  refine dJ (fun(i:Nat) L=>(((((((((St.mk L.slot (hp [(3,⟨3,[.agg [ah d1,.list 3 (k1.map ae),.list 12 (cg.map aT)]],true⟩),(4,⟨3,[.agg [ah d2,.list 3 (k2.map ae),.list 12 (b9.map aT)]],true⟩),(5,⟨5,[.agg [ah d,ah w,ae wd]],true⟩)])).put (some 3) (.az 3 3 0 0)).put (some 4) (.az 4 3 0 0)).put (some 5) (.az 5 5 0 0)).put (some 22) (.agg [.agg [ah d1,.list 3 (k1.map ae),.list 12 (cg.map aT)],.agg [ah d2,.list 3 (k2.map ae),.list 12 (b9.map aT)]])).put (some 23) (ah 1)).put (some 27) (.list 12 (b9.map aT))).put (some 28) (ah b9.length)).put (some 29) (ah i))) (fun i=>i<=b9.length) (fun i=>b9.length-i) 0 (Nat.zero_le _) ?_
  rintro i L2 hi
  refine aA ?_
  refine aC rfl ?_ ?_<;>intro aaC yx
  ·have dB:i<b9.length:=by omega
   have yM:=hS0 _ (yE _ (qI dB))
   refine im ?_
   refine cp aK (yM) ?_
   refine aJ ?_
   refine eF (b:=_) rfl (rfl) ?_
   refine aJ ?_
   refine cq (aw.kill _ 11) ?_
   refine ak rfl cB ?_
   refine aJ ?_
   exact jX
  ·refine aA ?_
   refine cq (aw.kill _ 9) ?_
   refine ax ?_
   refine bG ?_
   refine aA ?_
   refine eF (b:=_) rfl ai ?_
   refine bf ?_
   refine ak rfl (show aB _ _ _ _ (.agg [.agg [ah d,ah w,ae wd],.v (.slice none 0 0),ah 0]) from .build (zs:=[.agg [.v (.int .i64 0),.v (.int .i64 0),ae 0],.v (.slice none 0 0),.v (.int .i64 0)]) (by simpa [lay,LV.au,cF,LV.isAgg,ao.au] using aln) Z87 (by simp only [List.forall_mem_cons];exact⟨⟨_,rfl,(show lay (.agg [ah d,ah w,ae wd])=lay (.agg [.v (.int .i64 0),.v (.int .i64 0),ae 0]) by simp [lay,LV.au,cF,LV.isAgg,ao.au]),kU⟩,fun _ h=>by cases h⟩)) ?_
   refine bf ?_
   refine cp aK (hP1) ?_
   refine a6 ?_
   refine jo (aw.kill _ 3) ?_
   refine jo (aw.kill _ 5) ?_
   refine jo (aw.aul (b:=42) (d:=144) (csz:=4) ai rfl rfl (fun Z μ w part h=>avN (d:=144) (c:=4) Z μ w part h)) ?_
   refine jP (fun(i:Nat) (s:lI) L=>((((((St.mk L.slot (hp [(4,⟨3,[.agg [ah d2,.list 3 (k2.map ae),.list 12 (b9.map aT)]],true⟩),(42,⟨7,[.agg [.agg [ah d,ah w,ae wd],.ref 144 4 0 s.2.length,ah s.1]],true⟩),(144,⟨4,s.2.map fg,true⟩)])).put (some 4) (.az 4 3 0 0)).put (some 12) (.az 42 7 0 0)).put (some 44) (.list 3 (CA.map dv))).put (some 45) (ah CA.length)).put (some 46) (ah i))) (fun i s=>i<=CA.length/\pn d w wd lk dm (CA.drop i) CB s=pn d w wd lk dm CA CB (0,[])/\s.1<=4096/\s.2.length<=i*20480) (fun i s=>CA.length-i) 0 (0,[]) ⟨Nat.zero_le _,rfl,Nat.zero_le _,Nat.zero_le _⟩ ?_
   rintro i s L3 ⟨hi,hR,jt,uy⟩
   refine aA ?_
   refine aC rfl ?_ ?_<;>intro abL h47
   ·have dB:i<CA.length:=by omega
    have hcA:=an3 dB
    have ayE:=hD1 _ hcA
    refine aA ?_
    refine ak rfl (.lQ (r:=dv (CA.getD i default)) rfl Tryz.underlying88 jH rfl J (anx dB) (fI.au _)) ?_
    try refine aH ?_
    refine ak rfl (.afM fI rfl jH) ?_
    refine ar ?_
    try refine aH ?_
    refine bI rfl (.store rfl rfl rfl rfl rfl rfl (adq _ _ (fI.au _).symm (fI.isAgg _).symm) (show bo _ _ (dv (CA.getD i default)).au (dv (CA.getD i default)).isAgg by rw [fI.au,fI.isAgg];exact jH) ⟨LV.eE (fI.pure _),LV.dY (fI.pure _)⟩) ?_
    refine a6 ?_
    refine cp aK (hP2) ?_
    refine a6 ?_
    refine jo (aw.bR (t:=46) (x:=ah i) (y:=ah i) [14] rfl rfl (.pure rfl)) ?_
    refine jP (fun(j:Nat) (r:lI) L=>((((((((((St.mk L.slot (hp [(4,⟨3,[.agg [ah d2,.list 3 (k2.map ae),.list 12 (b9.map aT)]],true⟩),(42,⟨7,[.agg [.agg [ah d,ah w,ae wd],.ref 144 4 0 r.2.length,ah r.1]],true⟩),(144,⟨4,r.2.map fg,true⟩),(14,⟨3,[dv (CA.getD i default)],false⟩)])).put (some 4) (.az 4 3 0 0)).put (some 12) (.az 42 7 0 0)).put (some 14) (.az 14 3 0 0)).put (some 44) (.list 3 (CA.map dv))).put (some 45) (ah CA.length)).put (some 46) (ah i)).put (some 51) (.list 3 (CB.map dv))).put (some 52) (ah CB.length)).put (some 53) (ah j))) (fun j r=>j<=CB.length/\ny d w wd lk dm (CA.getD i default) (CB.drop j) r=ny d w wd lk dm (CA.getD i default) CB s/\r.1<=4096/\r.2.length<=i*20480+j*2048) (fun j r=>CB.length-j) 0 s ⟨Nat.zero_le _,rfl,jt,J⟩ ?_
    rintro j r L4 ⟨hj,hQ,g8,nH⟩
    refine aA ?_
    refine aC rfl ?_ ?_<;>intro axj h54
    ·have gY:j<CB.length:=by omega
     have hcB:=an3 gY
     have avK:=hD2 _ hcB
     have ah6:LV.pure (dv (CA.getD i default))=true:=fI.pure _
     have anS:LV.pure (dv (CB.getD j default))=true:=fI.pure _
     have hQ2:ny d w wd lk dm (CA.getD i default) (CB.drop (j+1)) (pS d w wd lk dm (CA.getD i default) (CB.getD j default) r)=ny d w wd lk dm (CA.getD i default) CB s:=by rw [<-auc gY];exact hQ
     obtain⟨v8,ud⟩:=aq5 (wd:=wd) (lk:=lk) (dm:=dm) (c:=(CA.getD i default)) (e:=(CB.getD j default)) hd hw g8 nH
     have fG:aG ([.bW (dv (CA.getD i default)),.bW (dv (CB.getD j default))]:List LV)=true:=by simp only [aG,LV.pure,ah6,anS,Bool.and_self]
     have hcs:∀ x∈([.bW (dv (CA.getD i default)),.bW (dv (CB.getD j default))]:List LV),x.au=1/\x.isAgg=false:=fun x hx=>by
      simp only [List.mem_cons,List.not_mem_nil,or_false] at hx
      rcases hx with e | e<;>rw [e]<;>exact⟨rfl,rfl⟩
     have axx:=asm 42 1 2 d w ([.bW (dv (CA.getD i default)),.bW (dv (CB.getD j default))]:List LV) (lk (CA.getD i default) (CB.getD j default)) (I (CA.getD i default) (CB.getD j default)) (hLk _ hcA _ hcB) fG hcs [dm (CA.getD i default)] [dm (CB.getD j default)] rfl aO aO rfl ai (xM _ hcA _ hcB) wd hwd r.1 r.2 J hw g8 J
     refine aA ?_
     refine ak rfl (.lQ (r:=dv (CB.getD j default)) rfl Tryz.underlying88 jH rfl J (anx gY) (fI.au _)) ?_
     try refine aH ?_
     refine ak rfl (.afM fI rfl jH) ?_
     refine ar ?_
     try refine aH ?_
     refine bI rfl (.store rfl rfl rfl rfl rfl rfl (adq _ _ (fI.au _).symm (fI.isAgg _).symm) (show bo _ _ (dv (CB.getD j default)).au (dv (CB.getD j default)).isAgg by rw [fI.au,fI.isAgg];exact jH) ⟨LV.eE (fI.pure _),LV.dY (fI.pure _)⟩) ?_
     refine aL ?_
     refine azs rfl 8 an rfl ?_
     simp only [List.take_succ_cons,List.take_zero]
     refine ar ?_
     try refine aH ?_
     refine ak rfl (.fi (b:=14) (sz:=3) (i:=0) (o:=0) (x:=dv (CA.getD i default)) (r:=dv (CA.getD i default)) (n:=3) (ag:=true) rfl rfl rfl rfl (fI.au _) (dG (fI.au _) (fI.isAgg _)) jH) ?_
     refine cp aK (ayE) ?_
     try refine aH ?_
     refine eH rfl rfl (.aho (a:=dm (CA.getD i default)) (z:=(0,0)) bS Tryz.underlying49 y9 lD rfl ai ai) ?_
     try refine aH ?_
     refine ak rfl (.fi (b:=16) (sz:=3) (i:=0) (o:=0) (x:=dv (CB.getD j default)) (r:=dv (CB.getD j default)) (n:=3) (ag:=true) rfl rfl rfl rfl (fI.au _) (dG (fI.au _) (fI.isAgg _)) jH) ?_
     refine cp aK (avK) ?_
     try refine aH ?_
     refine eH rfl rfl (.aho (a:=dm (CB.getD j default)) (z:=(0,0)) bS Tryz.underlying49 y9 lD rfl ai ai) ?_
     try refine aH ?_
     refine mK [14,16,60,63] rfl rfl (.mk (caps:=([.bW (dv (CA.getD i default)),.bW (dv (CB.getD j default))]:List LV)) (.cons (.az rfl rfl rfl (fI.au _) (dG (fI.au _) (fI.isAgg _)) ah6 rfl) (.cons (.az rfl rfl rfl (fI.au _) (dG (fI.au _) (fI.isAgg _)) anS rfl) .nil)) hcs) rfl ?_
     try refine aH ?_
     refine ayQ rfl (aqv (f:=40) (b:=42) (c:=144) (sz:=7) (csz:=4) (vals:=[.agg [.agg [ah d,ah w,ae wd],.ref 1 4 0 r.2.length,ah r.1]]) (cvals:=r.2.map fg) 65 rfl ai ai (by rw [hbR];rfl) (by rw [mE _ _ (aaI _)];rfl) (.cons (.bJ (y:=.az 0 7 0 0) ⟨by simp,by simp⟩) (.cons (.cf (.ref (blk:=⟨6,[aD (dm (CA.getD i default))],false⟩) rfl rfl (by simp [aG,bS.pure]) aO rfl)) (.cons (.cf (.ref (blk:=⟨6,[aD (dm (CB.getD j default))],false⟩) rfl rfl (by simp [aG,bS.pure]) aO rfl)) (.cons (.cf (.pure (show LV.pure (.cV 42 ([.bW (dv (CA.getD i default)),.bW (dv (CB.getD j default))]:List LV))=true by simpa [LV.pure] using fG))) .nil)))) .ptr axx aO (fun k hk=>awd (by intro x hx;simp only [List.map_cons,List.map_nil,List.mem_cons,List.not_mem_nil,or_false] at hx;unfold dK;omega))) ?_
     simp only [qE,jc,hnR,hnC]
     refine aH ?_
     refine aL ?_
     refine api (((aw.kill _ 16).trans (aw.kill _ 60)).trans (aw.kill _ 63)) ?_
     try refine aH ?_
     refine api (ayz ma (by simp only [aG,zq,Bool.and_self]) (by simp only [aG,ah6,Bool.and_self]) rfl) ?_
     try refine aH ?_
     refine ar ?_
     refine ak rfl cB ?_
     refine aJ ?_
     exact fZ (j+1) (pS d w wd lk dm (CA.getD i default) (CB.getD j default) r) ⟨J,hQ2,v8,J⟩ (he:=aw.of_eq (aj (aj (aj (aj (aj (aj (aj (aj (aj (bz (by first | exact cl | (refine aH ?_;refine iB ?_ ?_<;>repeat (first | exact trivial | refine And.intro rfl ?_)))) cl) cl) cl) (show LV.bJ (gV 1001041 144) (LV.kill 144 (LV.list 3 (CA.map dv)))=LV.list 3 (CA.map dv) from by rw [LV.ki _ _ alj,LV.cP _ _ alj])) cl) cl) (show LV.bJ (gV 1001041 144) (LV.kill 144 (LV.list 3 (CB.map dv)))=LV.list 3 (CB.map dv) from by rw [LV.ki _ _ anO,LV.cP _ _ anO])) cl) cl))
    ·obtain rfl:CB.length=j:=by omega
     have xt:r=ny d w wd lk dm (CA.getD i default) CB s:=by rw [<-hQ,List.drop_length];rfl
     have hR2:pn d w wd lk dm (CA.drop (i+1)) CB r=pn d w wd lk dm CA CB (0,[]):=by rw [xt,<-az6 dB];exact hR
     refine aA ?_
     refine cq (aw.kill _ 14) ?_
     refine ak rfl cB ?_
     refine aJ ?_
     exact fZ (i+1) r ⟨J,hR2,g8,J⟩
   ·obtain rfl:CA.length=i:=by omega
    have hR3:s=pn d w wd lk dm CA CB (0,[]):=by rw [<-hR,List.drop_length];rfl
    refine mA ?_
    subst hR3
    exact ag8 [144] rfl rfl (eN (l:=(pn d w wd lk dm CA CB (0,[])).2) aaA rfl rfl rfl) rfl (.pure rfl)
theorem ayD {P:Program} {H:bK} {ρ:Operand->LV} {T:TypeId} [z:ZI P T (.agg [.agg [aS ⟨0,0,0⟩,aS ⟨0,0,0⟩,aS ⟨0,0,0⟩],aS ⟨0,0,0⟩])] [s:SI P T [(27,true),(9,true)]] :
  aB P H ρ (.build T #[]) (dV ⟨⟨0,0,0⟩,⟨0,0,0⟩,⟨0,0,0⟩,⟨0,0,0⟩⟩):=by
 have:=aB.bd (H:=H) (ρ:=ρ) (ps:=#[]) (z:=z) (s:=s) (by simp [lay,LV.au,cF,bg.au,bg.isAgg,qq]) (by
  intro q hq
  simp at hq)
 simp only [iC,List.map,List.foldl] at this
 exact this
def M30:M3:=⟨⟨0,0,0⟩,⟨0,0,0⟩,⟨0,0,0⟩,⟨0,0,0⟩⟩
def vlM (m:M3):Rat:=de m.a (gO m.b m.c)
def kO (m:M3):M3:=if vlM m=0 then M30 else zu m
def ivE (m:M3):Int:=if vlM m=0 then 9 else 0
open acQ in
theorem aCi (m:M3) (R:Nat) (hR:R<=40000000) (hm:qP R m) (hv:de m.a (gO m.b m.c)=0):av Tryz.prog 108 [dV m] (.a7 [dV M30,iL 9]):=by
 have fV:=hm
 obtain⟨iF,dZ,od,mi⟩:=hm
 have fw:=yQ dZ od
 have hV:=aqx m R J fV
 have g8:rl 1=1:=rfl
 have hrv:=zL iF fw
 have hQ:av Tryz.prog 169 [ae 1,ae (de m.a (gO m.b m.c))] (.a7 [ae (fW m.a m.b m.c),iL 3]):=by
  have:=tT 1 (de m.a (gO m.b m.c)) J
  rwa [if_pos hv] at this
 have rk:av Tryz.prog 107 [iL 1] (ae 1):=uc 1 ai ai
 refine aN Tryz.func108 (ht:=(jg (dN.pure _) rfl)) ?_
 refine bf ?_
 refine fY 8 [6] an ?_
 refine cp aK (rk) ?_
 refine ak rfl afx ?_
 refine gI rfl (.cons (.pure (dN.pure m)) .nil) hV ?_
 refine cp aq (hQ) ?_
 refine gz ?_
 refine bY (b:=_) rfl (rfl) ?_
 refine aL ?_
 refine ak rfl ayD ?_
 refine bI rfl (.xZ (e:=dV) (l:=[⟨⟨0,0,0⟩,⟨0,0,0⟩,⟨0,0,0⟩,⟨0,0,0⟩⟩]) (a:=M30) rfl rfl rfl aO) ?_
 refine a6 ?_
 exact sE [] rfl rfl rfl (dN.au M30) (dG (dN.au M30) rfl) uE (.pure (dN.pure M30)) rfl (.pure rfl)
theorem ay1 (m:M3) (R:Nat) (hR:R<=40000000) (hm:qP R m):av Tryz.prog 108 [dV m] (.a7 [dV (kO m),iL (ivE m)]):=by
 by_cases hv:vlM m=0
 ·unfold kO ivE
  rw [if_pos hv,if_pos hv]
  exact aCi m R hR hm hv
 ·unfold kO ivE
  rw [if_neg hv,if_neg hv]
  exact asQ m R hR hm hv
theorem abw (n:Nat):(ah n).pure=true:=rfl
theorem az5 {m:M3} {R:Nat} (hm:qP R m):ck (24*R+40) (kO m).a/\ck (24*R+40) (kO m).b:=by
 have qD:rl 0=1:=rfl
 have g8:rl 1=1:=rfl
 unfold kO
 split
 ·exact⟨⟨by show rl 0<=_;omega,by show rl 0<=_;omega,by show rl 0<=_;omega⟩,⟨by show rl 0<=_;omega,by show rl 0<=_;omega,by show rl 0<=_;omega⟩⟩
 ·obtain⟨iF,dZ,od,mi⟩:=hm
  have fw:=yQ dZ od
  have eT:=yQ od iF
  have p9:=yQ iF dZ
  have hrv:=zL iF fw
  have hrf:rl (fW m.a m.b m.c)<=20*R+30:=by
   have:=oH 1 (de m.a (gO m.b m.c))
   unfold fW
   omega
  have mQ:∀ q:V3,ck (4*R+5) q->ck (24*R+40) (jb (fW m.a m.b m.c) q):=fun q ⟨vN,q2',q3'⟩=>by
   have e1x:=cO (fW m.a m.b m.c) q.x
   have e2x:=cO (fW m.a m.b m.c) q.y
   have e3x:=cO (fW m.a m.b m.c) q.z
   exact⟨by show rl (fW m.a m.b m.c*q.x)<=_;omega,by show rl (fW m.a m.b m.c*q.y)<=_;omega,by show rl (fW m.a m.b m.c*q.z)<=_;omega⟩
  exact⟨⟨(mQ _ fw).1,(mQ _ eT).1,(mQ _ p9).1⟩,⟨(mQ _ fw).2.1,(mQ _ eT).2.1,(mQ _ p9).2.1⟩⟩
theorem asj {u v:V3} {R:Nat} (hu:ck R u) (hv:ck R v):qP (R+1) (jK u v):=by
 have e0:rl (-1)=1:=by decide +kernel
 have qD:rl 0=1:=rfl
 have g8:rl 1=1:=rfl
 have e5:=cO (-1) v.x
 have e6:=cO (-1) v.y
 obtain⟨u1,u2,u3⟩:=hu
 obtain⟨v1,v2,v3⟩:=hv
 exact⟨⟨by show rl u.x<=_;omega,by show rl (-1*v.x)<=_;omega,by show rl 0<=_;omega⟩,⟨by show rl u.y<=_;omega,by show rl (-1*v.y)<=_;omega,by show rl 0<=_;omega⟩,⟨by show rl 0<=_;omega,by show rl 0<=_;omega,by show rl 1<=_;omega⟩,⟨by show rl 0<=_;omega,by show rl 0<=_;omega,by show rl 0<=_;omega⟩⟩
theorem acK {l:List aF} {i:Nat} (h:i<l.length):(l.map aF.p).getD i default=(l.getD i default).p:=by
 rw [List.getD_eq_getElem?_getD,List.getElem?_map,List.getD_eq_getElem?_getD,List.getElem?_eq_getElem h];rfl
open acQ in
theorem aCR (d1 d2:Nat) (k1 k2:List Rat) (cg b9:List aF) (S T:o5) (RS:Nat) (hRS:RS<=20000000) (hSb:nq RS S) (hTb:nq RS T) (s t:Sp) (x y:Rat) (u v:V3) (R:Nat) (hR:R<=3700000) (hub:ck R u) (hvb:ck R v) (hlA:0<cg.length) (hlB:0<b9.length) (aAq:cg.length<=1000) (ayJ:b9.length<=1000) (aef:∀ q∈(cg.map aF.p),ck 90000000 q) (afs:∀ q∈(b9.map aF.p),ck 90000000 q) (hS1:av Tryz.prog 100 [.agg [ah d1,.list 3 (k1.map ae),.list 12 (cg.map aT)]] (lN S)) (hS2:av Tryz.prog 100 [.agg [ah d2,.list 3 (k2.map ae),.list 12 (b9.map aT)]] (lN T)) (hD1:av Tryz.prog 41 [.agg [ah d1,.list 3 (k1.map ae),.list 12 (cg.map aT)]] (aD s)) (hD2:av Tryz.prog 41 [.agg [ah d2,.list 3 (k2.map ae),.list 12 (b9.map aT)]] (aD t)) (hM1:av Tryz.prog 105 [aD s] (ae x)) (hM2:av Tryz.prog 105 [aD t] (ae y)) (hT1:av Tryz.prog 104 [.agg [ah d1,.list 3 (k1.map ae),.list 12 (cg.map aT)],ae x] (.a7 [aS u,iL 0])) (hT2:av Tryz.prog 104 [.agg [ah d2,.list 3 (k2.map ae),.list 12 (b9.map aT)],ae y] (.a7 [aS v,iL 0])) (hE1:av Tryz.prog 111 [.agg [ah d1,.list 3 (k1.map ae),.list 12 (cg.map aT)]] (.a7 [aS (cg.getD 0 default).p,aS (cg.getD (cg.length-1) default).p])) (wP:av Tryz.prog 111 [.agg [ah d2,.list 3 (k2.map ae),.list 12 (b9.map aT)]] (.a7 [aS (b9.getD 0 default).p,aS (b9.getD (b9.length-1) default).p])):av Tryz.prog 46 [.agg [ah d1,.list 3 (k1.map ae),.list 12 (cg.map aT)],.agg [ah d2,.list 3 (k2.map ae),.list 12 (b9.map aT)]] (ah (oO S T u v (cg.map aF.p) (b9.map aF.p))):=by
 have aaF:LV.pure (.agg [ah d1,.list 3 (k1.map ae),.list 12 (cg.map aT)])=true:=by simp [LV.pure,aG,aW ao,aW bw]
 have zq:LV.pure (.agg [ah d2,.list 3 (k2.map ae),.list 12 (b9.map aT)])=true:=by simp [LV.pure,aG,aW ao,aW bw]
 have hpD:LV.pure (.agg [.agg [aD S.x,aD (me T.x)],.agg [aD S.y,aD (me T.y)]])=true:=by simp only [LV.pure,aG,bS.pure,Bool.and_self]
 have fv:∀ l1 l2:List V3,LV.pure (.agg [.list 9 (l1.map aS),.list 9 (l2.map aS)])=true:=fun l1 l2=>by simp only [LV.pure,aG,aW bg,Bool.and_self]
 have arR:=ani hTb.1
 have amJ:=ani hTb.2.1
 have uB:db (4*RS+1) (d2S S.x (me T.x) S.y (me T.y)):=ar3 hSb.1 arR hSb.2.1 amJ
 have rk:av Tryz.prog 107 [iL 1] (ae 1):=uc 1 ai ai
 have h1m:av Tryz.prog 107 [iL (-1)] (ae (-1)):=by
  have:=uc (-1) ai ai
  rwa [show (((-1:Int)):Rat)=-1 from by decide +kernel] at this
 have re:=asj hub hvb
 have hSc:=acW (-1) v (R+1) J (by have:rl (-1)=1:=an;omega) (hvb.le J)
 have aCK:=ay1 (jK u v) (R+1) J re
 have hiv:=az5 re
 have ax9:ck 90000000 (kO (jK u v)).a:=hiv.1.le J
 have aBt:ck 90000000 (kO (jK u v)).b:=hiv.2.le J
 have hP1:av Tryz.prog 110 [.list 12 (cg.map aT)] (.list 9 ((cg.map aF.p).map aS)):=alV cg hlA aAq
 have hP2:av Tryz.prog 110 [.list 12 (b9.map aT)] (.list 9 ((b9.map aF.p).map aS)):=alV b9 hlB ayJ
 have mm:∀ (l:List aF) (i:Nat),i<l.length->(∀ q∈l.map aF.p,ck 90000000 q)->ck 90000000 (l.getD i default).p:=fun l i hi h=>h _ (List.mem_map.2 ⟨_,qI hi,rfl⟩)
 have ayy:∀ q∈[(cg.getD 0 default).p],ck 90000000 q:=fun q hq=>by rw [List.mem_singleton.1 hq];exact mm cg 0 hlA aef
 have aBu:∀ q∈[(cg.getD (cg.length-1) default).p],ck 90000000 q:=fun q hq=>by rw [List.mem_singleton.1 hq];exact mm cg _ J aef
 have au3:∀ q∈[(b9.getD 0 default).p],ck 90000000 q:=fun q hq=>by rw [List.mem_singleton.1 hq];exact mm b9 0 hlB afs
 have az8:∀ q∈[(b9.getD (b9.length-1) default).p],ck 90000000 q:=fun q hq=>by rw [List.mem_singleton.1 hq];exact mm b9 _ J afs
 have kL:iW (d2S S.x (me T.x) S.y (me T.y)) 0=false->vlM (jK u v)≠0->(oO S T u v (cg.map aF.p) (b9.map aF.p))=if (tb (jr (kO (jK u v)).a [(cg.getD 0 default).p] (b9.map aF.p)) (jr (kO (jK u v)).a [(cg.getD (cg.length-1) default).p] (b9.map aF.p))) && (tb (jr (kO (jK u v)).b (cg.map aF.p) [(b9.getD 0 default).p]) (jr (kO (jK u v)).b (cg.map aF.p) [(b9.getD (b9.length-1) default).p])) then 3 else 2:=fun h1 h2=>by
  have hg:kO (jK u v)=zu (jK u v):=if_neg h2
  unfold oO
  rw [if_neg (by rw [h1];decide),if_neg (show ¬de (wO u v) (gO (wN u v) wz)=0 from h2),hg]
  unfold arj apT
  rw [acK hlA,acK hlB,List.length_map,List.length_map,acK (show cg.length-1<cg.length by omega),acK (show b9.length-1<b9.length by omega)]
  rfl
 refine aN Tryz.func46 (ht:=(fun g=>LV.cP g _ (abw _))) ?_
 refine bf ?_
 refine aY 6 an ?_
 refine ar ?_
 refine cp aK (hS1) ?_
 refine ar ?_
 refine cp aK (hS2) ?_
 refine aR ?_
 refine aY 15 an ?_
 refine ax ?_
 refine cp aK (amY T.x RS J hTb.1) ?_
 refine ak rfl (ad3 (v0:=aD S.x) (v1:=aD (me T.x)) Tryz.underlying169 lD aqX lz rfl rfl lz lz (bS.pure _) (bS.pure _)) ?_
 refine ax ?_
 refine cp aK (amY T.y RS J hTb.2.1) ?_
 refine ak rfl (ad3 (v0:=aD S.y) (v1:=aD (me T.y)) Tryz.underlying169 lD aqX lz rfl rfl lz lz (bS.pure _) (bS.pure _)) ?_
 refine ak rfl (ad3 (v0:=.agg [aD S.x,aD (me T.x)]) (v1:=.agg [aD S.y,aD (me T.y)]) Tryz.underlying170 apD azc lz rfl rfl lz lz pu pu) ?_
 refine gI rfl (.cons (.pure hpD) .nil) (awz S.x (me T.x) S.y (me T.y) RS J hSb.1 arR hSb.2.1 amJ) ?_
 refine bq ?_
 refine cp aq (aek (d2S S.x (me T.x) S.y (me T.y)) 0 (by have:=uB.1;have:rl 0=1:=rfl;omega) (by have:=uB.2;have:rl 0=1:=rfl;omega)) ?_
 refine aL ?_
 refine aC rfl ?_ ?_<;>intro aaU h41
 ·have xR:(oO S T u v (cg.map aF.p) (b9.map aF.p))=0:=if_pos h41
  refine aR ?_
  refine dA (x:=ah (oO S T u v (cg.map aF.p) (b9.map aF.p))) ?_ ?_
  ·first | rw [xR] | rw [pe.trans (if_neg ack)]
   rfl
  ·exact .pure (abw _)
 ·have lh:iW (d2S S.x (me T.x) S.y (me T.y)) 0=false:=by simpa using h41
  refine aJ ?_
  refine fY 9 [7] an ?_
  refine aL ?_
  refine cp aK (hD1) ?_
  refine cp aK (hM1) ?_
  refine cp aq (hT1) ?_
  refine bq ?_
  refine fY 9 [7] an ?_
  refine aL ?_
  refine cp aK (hD2) ?_
  refine cp aK (hM2) ?_
  refine cp aq (hT2) ?_
  refine bq ?_
  refine aY 3 an ?_
  refine cp aK (h1m) ?_
  refine ar ?_
  refine cp aq (hSc) ?_
  refine ax ?_
  refine fY 19 [17] an ?_
  refine ax ?_
  refine pY (agK rfl rfl) ?_
  refine ax ?_
  refine pY (agK rfl rfl) ?_
  refine cp aK (rk) ?_
  refine pY (atM rfl) ?_
  refine ak rfl (agJ rfl rfl rfl) ?_
  refine ak rfl (ahr (a:=wO u v) (b:=wN u v) (c:=wz) rfl) ?_
  refine gI rfl (.cons (.pure (dN.pure (jK u v))) .nil) aCK ?_
  refine ax ?_
  refine bI rfl (.xZ (e:=dV) (l:=[⟨⟨0,0,0⟩,⟨0,0,0⟩,⟨0,0,0⟩,⟨0,0,0⟩⟩]) (a:=kO (jK u v)) rfl rfl rfl aO) ?_
  refine bC ?_
  refine aC rfl ?_ ?_<;>intro aDY h80
  ·have hvz:vlM (jK u v)=0:=by
    refine Decidable.byContradiction fun e=>?_
    rw [show ivE (jK u v)=0 from if_neg e] at h80
    simp at h80
   have xR:(oO S T u v (cg.map aF.p) (b9.map aF.p))=2:=by
    unfold oO
    rw [if_neg (by rw [lh];decide),if_pos (show de (wO u v) (gO (wN u v) wz)=0 from hvz)]
   refine aR ?_
   refine dA (x:=ah (oO S T u v (cg.map aF.p) (b9.map aF.p))) ?_ ?_
   ·first | rw [xR] | rw [pe.trans (if_neg ack)]
    rfl
   ·exact .pure (abw _)
  ·have hvn:vlM (jK u v)≠0:=fun e=>by
    rw [show ivE (jK u v)=9 from if_pos e] at h80
    simp at h80
   have pe:=kL lh hvn
   refine bf ?_
   refine aY 8 an ?_
   refine aL ?_
   refine cp aK (hP1) ?_
   refine aL ?_
   refine cp aK (hP2) ?_
   refine aR ?_
   refine cp aK (hE1) ?_
   refine bC ?_
   refine aY 15 an ?_
   refine aL ?_
   refine ak rfl (.fi rfl rfl rfl rfl (dN.au _) (abM _) ig) ?_
   refine aL ?_
   refine mK [] rfl rfl (.cV (f:=109) (cap:=[]) (args:=[aS (cg.getD 0 default).p]) rfl (.cons (.pure (bg.pure _)) .nil) ⟨rfl,by simp⟩ (yU (cg.getD 0 default).p).1 ai (fun _ h=>by cases h)) ((yU (cg.getD 0 default).p).2 _) ?_
   refine ax ?_
   refine mK [] rfl rfl (.cV (f:=109) (cap:=[]) (args:=[aS (cg.getD (cg.length-1) default).p]) rfl (.cons (.pure (bg.pure _)) .nil) ⟨rfl,by simp⟩ (yU (cg.getD (cg.length-1) default).p).1 ai (fun _ h=>by cases h)) ((yU (cg.getD (cg.length-1) default).p).2 _) ?_
   refine aL ?_
   refine gI rfl (.cons (.pure (bg.pure _)) (.cons (.pure (fv [(cg.getD 0 default).p] (b9.map aF.p))) (.cons (.pure (fv [(cg.getD (cg.length-1) default).p] (b9.map aF.p))) .nil))) (aqi (kO (jK u v)).a 90000000 J ax9 [(cg.getD 0 default).p] (b9.map aF.p) [(cg.getD (cg.length-1) default).p] (b9.map aF.p) aO aO ayy kB kB afs aO aO aBu kB kB afs) ?_
   refine aA ?_
   refine cp aK (wP) ?_
   refine bf ?_
   refine aY 15 an ?_
   refine aL ?_
   refine ak rfl (.fi rfl rfl rfl rfl (dN.au _) (acD _) ig) ?_
   refine aJ ?_
   refine mK [] rfl rfl (.cV (f:=109) (cap:=[]) (args:=[aS (b9.getD 0 default).p]) rfl (.cons (.pure (bg.pure _)) .nil) ⟨rfl,by simp⟩ (yU (b9.getD 0 default).p).1 ai (fun _ h=>by cases h)) ((yU (b9.getD 0 default).p).2 _) ?_
   refine ax ?_
   refine mK [] rfl rfl (.cV (f:=109) (cap:=[]) (args:=[aS (b9.getD (b9.length-1) default).p]) rfl (.cons (.pure (bg.pure _)) .nil) ⟨rfl,by simp⟩ (yU (b9.getD (b9.length-1) default).p).1 ai (fun _ h=>by cases h)) ((yU (b9.getD (b9.length-1) default).p).2 _) ?_
   refine ar ?_
   refine gI rfl (.cons (.pure (bg.pure _)) (.cons (.pure (fv (cg.map aF.p) [(b9.getD 0 default).p])) (.cons (.pure (fv (cg.map aF.p) [(b9.getD (b9.length-1) default).p])) .nil))) (aqi (kO (jK u v)).b 90000000 J aBt (cg.map aF.p) [(b9.getD 0 default).p] (cg.map aF.p) [(b9.getD (b9.length-1) default).p] kB kB aef aO aO au3 kB kB aef aO aO az8) ?_
   refine bf ?_
   refine dy 126 rfl ?_ ?_<;>intro aEi arN
   ·refine ax ?_
    refine aC rfl ?_ ?_<;>intro aD0 alk
    ·have xR:(oO S T u v (cg.map aF.p) (b9.map aF.p))=3:=pe.trans (if_pos (by rw [show (tb (jr (kO (jK u v)).a [(cg.getD 0 default).p] (b9.map aF.p)) (jr (kO (jK u v)).a [(cg.getD (cg.length-1) default).p] (b9.map aF.p)))=true from arN,show (tb (jr (kO (jK u v)).b (cg.map aF.p) [(b9.getD 0 default).p]) (jr (kO (jK u v)).b (cg.map aF.p) [(b9.getD (b9.length-1) default).p]))=true from alk];rfl))
     refine aR ?_
     refine dA (x:=ah (oO S T u v (cg.map aF.p) (b9.map aF.p))) ?_ ?_
     ·first | rw [xR] | rw [pe.trans (if_neg ack)]
      rfl
     ·exact .pure (abw _)
    ·have xR:(oO S T u v (cg.map aF.p) (b9.map aF.p))=2:=pe.trans (if_neg (by rw [show (tb (jr (kO (jK u v)).b (cg.map aF.p) [(b9.getD 0 default).p]) (jr (kO (jK u v)).b (cg.map aF.p) [(b9.getD (b9.length-1) default).p]))=false from alk];simp))
     refine bf ?_
     refine dA (x:=ah (oO S T u v (cg.map aF.p) (b9.map aF.p))) ?_ ?_
     ·first | rw [xR] | rw [pe.trans (if_neg ack)]
      rfl
     ·exact .pure (abw _)
   ·refine dj ?_
    refine dA (x:=ah (oO S T u v (cg.map aF.p) (b9.map aF.p))) ?_ ?_
    ·first | rw [xR] | rw [pe.trans (if_neg ack)]
     rfl
    ·exact .pure (abw _)
def w7 (X Y:o5) (K:Nat):Bool × Nat × Nat:=if meB X Y then(false,K,0) else(true,0,0)
open vp in
theorem aBF (e1 e2:Nat) (k1 k2 k3 k4:List Rat) (cg b9 jI poD:List aF) (s t:Sp) (X Y:o5) (R:Nat) (hR:R<=1000000) (hbX:nq R X) (hbY:nq R Y) (K:Nat) (hU1:av Tryz.prog 43 [.agg [ah e1,.list 3 (k1.map ae),.list 12 (cg.map aT)],ae s.1,ae s.2] (.a7 [.agg [ah e1,.list 3 (k3.map ae),.list 12 (jI.map aT)],iL 0])) (hU2:av Tryz.prog 43 [.agg [ah e2,.list 3 (k2.map ae),.list 12 (b9.map aT)],ae t.1,ae t.2] (.a7 [.agg [ah e2,.list 3 (k4.map ae),.list 12 (poD.map aT)],iL 0])) (hX1:av Tryz.prog 45 [.agg [ah e1,.list 3 (k3.map ae),.list 12 (jI.map aT)]] (lN X)) (hX2:av Tryz.prog 45 [.agg [ah e2,.list 3 (k4.map ae),.list 12 (poD.map aT)]] (lN Y)) (hKi:av Tryz.prog 46 [.agg [ah e1,.list 3 (k3.map ae),.list 12 (jI.map aT)],.agg [ah e2,.list 3 (k4.map ae),.list 12 (poD.map aT)]] (ah K)):av Tryz.prog 42 [.list 6 ([s].map aD),.list 6 ([t].map aD),.bW (.agg [ah e1,.list 3 (k1.map ae),.list 12 (cg.map aT)]),.bW (.agg [ah e2,.list 3 (k2.map ae),.list 12 (b9.map aT)])] (vdL (w7 X Y K)):=by
 have hus:aD s=.agg [ae s.1,ae s.2]:=by unfold aD;rfl
 have hut:aD t=.agg [ae t.1,ae t.2]:=by unfold aD;rfl
 have aaF:LV.pure (.agg [ah e1,.list 3 (k1.map ae),.list 12 (cg.map aT)])=true:=by simp [LV.pure,aG,aW ao,aW bw]
 have zq:LV.pure (.agg [ah e2,.list 3 (k2.map ae),.list 12 (b9.map aT)])=true:=by simp [LV.pure,aG,aW ao,aW bw]
 have aDP:LV.pure (.agg [ah e1,.list 3 (k3.map ae),.list 12 (jI.map aT)])=true:=by simp [LV.pure,aG,aW ao,aW bw]
 have aia:LV.pure (.agg [ah e2,.list 3 (k4.map ae),.list 12 (poD.map aT)])=true:=by simp [LV.pure,aG,aW ao,aW bw]
 have hMB:=aBd X Y R J hbX hbY
 refine aN Tryz.func42 (ht:=(fun g=>LV.cP g _ (asU _))) ?_
 refine aA ?_
 refine fY 14 [12] an ?_
 refine ak rfl (.vL rfl jH aaF) ?_
 refine ar ?_
 refine ak rfl (.lQ (n:=0) (r:=.agg [ae s.1,ae s.2]) rfl Tryz.underlying49 lD rfl ai (by show some (aD s)=_;rw [hus]) (by rw [<-hus];exact bS.au _)) ?_
 refine aJ ?_
 refine ak rfl (.lQ (n:=0) (r:=.agg [ae s.1,ae s.2]) rfl Tryz.underlying49 lD rfl ai (by show some (aD s)=_;rw [hus]) (by rw [<-hus];exact bS.au _)) ?_
 refine aL ?_
 refine cp fH (hU1) ?_
 refine bq ?_
 refine fY 14 [12] an ?_
 refine ak rfl (.vL rfl jH zq) ?_
 refine ar ?_
 refine ak rfl (.lQ (n:=0) (r:=.agg [ae t.1,ae t.2]) rfl Tryz.underlying49 lD rfl ai (by show some (aD t)=_;rw [hut]) (by rw [<-hut];exact bS.au _)) ?_
 refine aJ ?_
 refine ak rfl (.lQ (n:=0) (r:=.agg [ae t.1,ae t.2]) rfl Tryz.underlying49 lD rfl ai (by show some (aD t)=_;rw [hut]) (by rw [<-hut];exact bS.au _)) ?_
 refine aL ?_
 refine cp fH (hU2) ?_
 refine bC ?_
 refine aY 6 an ?_
 refine ar ?_
 refine cp aK (hX1) ?_
 refine ar ?_
 refine cp aK (hX2) ?_
 refine gI rfl (.cons (.pure (xf.pure _)) (.cons (.pure (xf.pure _)) .nil)) hMB ?_
 refine aJ ?_
 refine aC rfl ?_ ?_<;>intro awK h42
 ·have hv:(w7 X Y K)=(true,0,0):=if_neg (by simpa using h42)
  refine bf ?_
  exact fS [] rfl rfl rfl cs (dG cs rfl) T92 (by rw [hv];exact .pure pu)
 ·have hv:(w7 X Y K)=(false,K,0):=if_pos (by simpa using h42)
  refine aA ?_
  refine cp aq (hKi) ?_
  refine a6 ?_
  exact fS [] rfl rfl rfl cs (dG cs rfl) T92 (by rw [hv];exact .pure pu)
def cL (a b:Rat) (s:Sp):Sp:=(a+(b-a)*s.1,a+(b-a)*s.2)
theorem aiC (x:Rat):x/2*2=x:=Rat.div_mul_cancel ai
theorem aiE (a b:Rat) (s:Sp):iS (cL a b s)=a+(b-a)*iS s:=by
 have h1:=aiC (s.1+s.2)
 have h2:=aiC (a+(b-a)*s.1+(a+(b-a)*s.2))
 show (a+(b-a)*s.1+(a+(b-a)*s.2))/2=a+(b-a)*((s.1+s.2)/2)
 grind
theorem anN (a b:Rat) (s:Sp):nX (cL a b s)=cL a b (nX s):=by
 have:=aiE a b s
 unfold nX
 rw [this];rfl
theorem akh (a b:Rat) (s:Sp):oT (cL a b s)=cL a b (oT s):=by
 have:=aiE a b s
 unfold oT
 rw [this];rfl
theorem aoX (a b:Rat):cL a b pK=(a,b):=by
 show (a+(b-a)*0,a+(b-a)*1)=(a,b)
 rw [show a+(b-a)*0=a by grind,show a+(b-a)*1=b by grind]
theorem ux {a b:Rat} (h:a<b) (x:Rat):(a+(b-a)*x-a)/(b-a)=x:=by
 have hn:b-a≠0:=by grind
 rw [show a+(b-a)*x-a=x*(b-a) by grind,Rat.mul_div_cancel hn]
theorem aaX {a b x y:Rat} (h:a<b) (hx:x<y):a+(b-a)*x<a+(b-a)*y:=by
 have h1:0<b-a:=by grind
 have h2:0<y-x:=by grind
 have:=Rat.mul_pos h1 h2
 grind
theorem amc {a b x y:Rat} (h:a<b) (hx:x<=y):a+(b-a)*x<=a+(b-a)*y:=by
 have h1:0<=b-a:=by grind
 have h2:0<=y-x:=by grind
 have:=Rat.mul_nonneg h1 h2
 grind
theorem arh {a b x:Rat} (h:a<b) (h0:0<=x) (h1:x<=1):a<=a+(b-a)*x/\a+(b-a)*x<=b:=by
 have e1:=amc h h0
 have e2:=amc h h1
 constructor<;>grind
theorem tq {a b x:Rat} {A:Nat} (ha:Go.Lg.rl a<=A) (hb:Go.Lg.rl b<=A) (hx:Go.Lg.rl x<=1):Go.Lg.rl (a+(b-a)*x)<=3*A+5:=by
 have h1:=iq b a
 have h2:=cO (b-a) x
 have h3:=jq a ((b-a)*x)
 omega
def qe (D:Nat) (a b c d:Rat) (x:ez):Prop:=∃ (s t:Sp) (i j:Int),x.1=[cL a b s,cL c d t]/\x.2.2=[i,j]/\(0<=i/\i<=x.2.1/\0<=j/\j<=x.2.1)/\x.2.1<=D/\l5 x.2.1 s/\l5 x.2.1 t
theorem ajS (D:Nat) (a b c d:Rat):qe D a b c d ([(a,b)]++[(c,d)],0,List.replicate 2 0):=by
 have h0:ji 0 (0:Rat):=aj7 0
 have h1:ji 0 (1:Rat):=aj7 1
 refine⟨pK,pK,0,0,?_,rfl,⟨Int.le_refl _,Int.le_refl _,Int.le_refl _,Int.le_refl _⟩,Nat.zero_le _,⟨h0,h1,by decide +kernel,by decide +kernel,by decide +kernel⟩,⟨h0,h1,by decide +kernel,by decide +kernel,by decide +kernel⟩⟩
 rw [aoX,aoX];rfl
theorem ajJ {D:Nat} {a b c d:Rat} {x:ez} (h:qe D a b c d x) (hd:x.2.1<D):qe D a b c d (lL x)/\qe D a b c d (lO x):=by
 obtain⟨s,t,i,j,e,f,⟨i1,i2,j1,j2⟩,_,hs,ht⟩:=h
 have ha:eU x=0\/eU x=1:=by
  have:=abf (t:=x.2.2) x.2.2.length (Nat.le_refl _) (by rw [f];exact Nat.succ_pos _)
  have hl:x.2.2.length=2:=by rw [f];rfl
  unfold eU;omega
 unfold lL lO yo
 rcases ha with g | g
 ·rw [g,e,f]
  exact⟨⟨nX s,t,i+1,j,by rw [<-anN];rfl,rfl,⟨J,by show i+1<=((x.2.1+1:Nat):Int);omega,j1,by show j<=((x.2.1+1:Nat):Int);omega⟩,hd,hs.half.1,ht.succ⟩,
   ⟨oT s,t,i+1,j,by rw [<-akh];rfl,rfl,⟨J,by show i+1<=((x.2.1+1:Nat):Int);omega,j1,by show j<=((x.2.1+1:Nat):Int);omega⟩,hd,hs.half.2,ht.succ⟩⟩
 ·rw [g,e,f]
  exact⟨⟨s,nX t,i,j+1,by rw [<-anN];rfl,rfl,⟨i1,by show i<=((x.2.1+1:Nat):Int);omega,J,by show j+1<=((x.2.1+1:Nat):Int);omega⟩,hd,hs.succ,ht.half.1⟩,
   ⟨s,oT t,i,j+1,by rw [<-akh];rfl,rfl,⟨i1,by show i<=((x.2.1+1:Nat):Int);omega,J,by show j+1<=((x.2.1+1:Nat):Int);omega⟩,hd,hs.succ,ht.half.2⟩⟩
theorem aAO {P:Program} {f:Nat} {cap:List LV} {D:Nat} (hD:D<=24) {a b c d:Rat} (cu:a<b) (vD:c<d) (ha:Go.Lg.rl a<=300) (hb:Go.Lg.rl b<=300) (hc:Go.Lg.rl c<=300) (hd:Go.Lg.rl d<=300) (lk:iU)
  (hl:∀ s t:Sp,l5 D s->l5 D t->av P f ([.list 6 ([cL a b s].map aD),.list 6 ([cL c d t].map aD)]++cap) (vdL (lk [cL a b s] [cL c d t])))
  (hk:∀ s t:Sp,l5 D s->l5 D t->(lk [cL a b s] [cL c d t]).2.1<=4/\(lk [cL a b s] [cL c d t]).2.2<=4):adM P f cap D 1 2 lk (qe D a b c d):=by
 have hle:∀ {n:Nat} {s:Sp},n<=D->l5 n s->l5 D s:=fun hn h=>⟨h.1.le hn,h.2.1.le hn,h.2.2⟩
 refine⟨fun x h=>?_,fun x h t ht=>?_,fun x h=>?_,fun x h s hs=>?_,fun x h hd=>ajJ h hd,fun x h=>?_,fun x h=>?_⟩
 ·obtain⟨s,t,i,j,e,f,_⟩:=h;rw [e,f];exact⟨rfl,rfl⟩
 ·obtain⟨s,t',i,j,e,f,⟨i1,i2,j1,j2⟩,hd,_⟩:=h
  rw [f] at ht
  simp only [List.mem_cons,List.not_mem_nil,or_false] at ht
  rcases ht with rfl | rfl<;>omega
 ·obtain⟨_,_,_,_,_,_,_,hd,_⟩:=h;exact hd
 ·obtain⟨s',t',i,j,e,f,_,hd9,k1,k2⟩:=h
  rw [e] at hs
  simp only [List.mem_cons,List.not_mem_nil,or_false] at hs
  rcases hs with rfl | rfl
  ·have hr:=k1.rl J
   have h1:=tq ha hb hr.1
   have h2:=tq ha hb hr.2
   exact⟨⟨by show Go.Lg.rl (a+(b-a)*s'.1)<=_;omega,by show Go.Lg.rl (a+(b-a)*s'.2)<=_;omega⟩,Rat.le_of_lt (aaX cu k1.2.2.2.1)⟩
  ·have hr:=k2.rl J
   have h1:=tq hc hd hr.1
   have h2:=tq hc hd hr.2
   exact⟨⟨by show Go.Lg.rl (c+(d-c)*t'.1)<=_;omega,by show Go.Lg.rl (c+(d-c)*t'.2)<=_;omega⟩,Rat.le_of_lt (aaX vD k2.2.2.2.1)⟩
 ·obtain⟨s',t',i,j,e,f,_,hd,k1,k2⟩:=h
  rw [e];exact hl s' t' (hle hd k1) (hle hd k2)
 ·obtain⟨s',t',i,j,e,f,_,hd,k1,k2⟩:=h
  rw [e];exact hk s' t' (hle hd k1) (hle hd k2)
def cj (D N:Nat) (x:Rat):Prop:=∃ z:Int,x*((D:Int):Rat)=(z:Rat)/\z.natAbs<=N
theorem xq (m n:Nat):(((m*n:Nat):Int):Rat)=((m:Int):Rat)*((n:Int):Rat):=by push_cast;rfl
theorem ab9 {D:Nat} (h:0<D):(0:Rat)<((D:Int):Rat):=Rat.intCast_pos.2 J
theorem cj.rl {D N k:Nat} {x:Rat} (h:cj D N x) (hD:0<D) (hN:N<4294967296 ^ k) (ee:D<4294967296 ^ k) (hk:1<=k):Go.Lg.rl x<=k:=by
 obtain⟨z,e,hz⟩:=h
 have hp:=ab9 hD
 have:x=(z:Rat)/((D:Int):Rat):=by rw [<-e,Rat.mul_div_cancel cA]
 rw [this,<-ac5]
 have:=aaf (k:=k) (decide (z<0) != decide ((D:Int)<0)) (n:=z.natAbs) (d:=(D:Int).natAbs) J (by simpa using ee)
 omega
theorem cj.div {D N k:Nat} {x y:Rat} (h:cj D N x) (g:cj D N y) (hD:0<D) (hN:N<4294967296 ^ k) (hk:1<=k):Go.Lg.rl (x/y)<=k:=by
 obtain⟨z,e,hz⟩:=h
 obtain⟨u,f,hu⟩:=g
 have hp:=ab9 hD
 have:x/y=(z:Rat)/(u:Rat):=by
  rw [<-e,<-f]
  by_cases hy:y=0
  ·subst hy;rw [Rat.zero_mul,Rat.div_def,Rat.div_def];simp
  ·have h1:y*((D:Int):Rat)≠0:=by
    intro e0
    rcases Rat.mul_eq_zero.1 e0 with e1 | e1
    ·exact hy e1
    ·grind
   have h2:x/y*y=x:=Rat.div_mul_cancel hy
   have h3:x*((D:Int):Rat)/(y*((D:Int):Rat))*(y*((D:Int):Rat))=x*((D:Int):Rat):=Rat.div_mul_cancel h1
   have h4:x/y*(y*((D:Int):Rat))=x*((D:Int):Rat):=by rw [<-Rat.mul_assoc,h2]
   have h5:x/y=x*((D:Int):Rat)/(y*((D:Int):Rat)):=by rw [<-h4,Rat.mul_div_cancel h1]
   exact h5
 rw [this,<-ac5]
 have:=aaf (k:=k) (decide (z<0) != decide (u<0)) (n:=z.natAbs) (d:=u.natAbs) J J
 omega
def uQ (E:Nat) (x:Rat):Prop:=∃ α β:Nat,x*((E:Int):Rat)=((α:Int):Rat)/\(1-x)*((E:Int):Rat)=((β:Int):Rat)
theorem uQ.sum {E:Nat} {x:Rat} {α β:Nat} (h1:x*((E:Int):Rat)=((α:Int):Rat)) (h2:(1-x)*((E:Int):Rat)=((β:Int):Rat)):α+β=E:=by
 have:(((α+β:Nat):Int):Rat)=((E:Int):Rat):=by
  push_cast
  push_cast at h1 h2
  rw [<-h1,<-h2];grind
 have:=Rat.intCast_inj.1 this
 omega
theorem anQ {n:Nat} {x:Rat} (h:ji n x) (h0:0<=x) (h1:x<=1):uQ (2 ^ n) x:=by
 obtain⟨z,e⟩:=h.mul
 have hp:=two_pos n
 have m0:=Rat.mul_nonneg h0 (Rat.le_of_lt hp)
 have m1:=Rat.mul_nonneg (show 0<=1-x by grind) (Rat.le_of_lt hp)
 have e2:(1-x)*(((2 ^ n:Nat):Int):Rat)=((((2 ^ n:Nat):Int)-z:Int):Rat):=by
  push_cast
  push_cast at e
  rw [<-e];grind
 rw [e] at m0
 rw [e2] at m1
 have z0:0<=z:=Rat.intCast_nonneg.1 m0
 have z1:0<=((2 ^ n:Nat):Int)-z:=Rat.intCast_nonneg.1 m1
 refine⟨z.toNat,(((2 ^ n:Nat):Int)-z).toNat,?_,?_⟩
 ·rw [Int.toNat_of_nonneg z0];exact e
 ·rw [Int.toNat_of_nonneg z1];exact e2
theorem ac3 {a:Rat} {E:Nat} (ha:uQ E a):∀ (n:Nat) {D N:Nat} (f:Nat->Rat),(∀ i,i<=n->cj D N (f i))->cj (D*E ^ n) (N*E ^ n) (fE (1-a) a n f)
 | 0,D,N,f,h=>by
  have:=h 0 (Nat.le_refl _)
  simpa [fE] using this
 | n+1,D,N,f,h=>by
  rw [fE,Nat.pow_succ,Nat.mul_comm (E ^ n) E,<-Nat.mul_assoc,<-Nat.mul_assoc]
  refine ac3 ha n _ fun i hi=>?_
  obtain⟨α,β,e1,e2⟩:=ha
  have es:=uQ.sum e1 e2
  obtain⟨z,f1,g1⟩:=h i J
  obtain⟨u,f2,g2⟩:=h (i+1) J
  refine⟨(β:Int)*z+(α:Int)*u,?_,?_⟩
  ·rw [xq,Rat.intCast_add,Rat.intCast_mul,Rat.intCast_mul,<-e1,<-e2,<-f1,<-f2]
   grind
  ·have h1:=Int.natAbs_add_le ((β:Int)*z) ((α:Int)*u)
   rw [Int.natAbs_mul,Int.natAbs_mul,Int.natAbs_natCast,Int.natAbs_natCast] at h1
   have h2:=Nat.mul_le_mul_left β g1
   have h3:=Nat.mul_le_mul_left α g2
   have h4:N*E=β*N+α*N:=by rw [<-es,Nat.mul_comm,Nat.add_mul,Nat.add_comm]
   omega
theorem arn {a b:Rat} {E:Nat} (ha:uQ E a) (hb:uQ E b) {n j D N:Nat} (hj:j<=n) {f:Nat->Rat} (h:∀ i,i<=n->cj D N (f i)):cj (D*E ^ n) (N*E ^ n) (oK a b n f j):=by
 have h1:∀ m,m<=n-j->cj (D*E ^ j) (N*E ^ j) (sI b j f m):=fun m hm=>by
  rw [qZ]
  exact ac3 hb j _ fun i hi=>h _ J
 unfold oK
 rw [qZ]
 have:=ac3 ha (n-j) (fun i=>sI b j f (0+i)) fun i hi=>h1 (0+i) J
 rw [Nat.mul_assoc,Nat.mul_assoc,<-Nat.pow_add,Nat.add_sub_cancel' hj] at this
 exact this
structure cvC (po:List aF) (d D N:Nat):Prop where
 n:∀ k i,i<=d->cj D N ((bj po k).getD i 0)
 w:∀ i,i<=d->cj D N ((aX po).getD i 0)
theorem aAX {po:List aF} {d R:Nat} (h:ke po d R) {x y:Rat} (fw:0<=x) (eT:x<1) (gR:0<=y) (kg:y<=1) {D N E k:Nat} (hD:0<D) (hE:0<E) (hx:uQ E x) (hy:uQ E y) (hc:cvC po d D N)
  (hN:N*E ^ d<4294967296 ^ k) (ee:D*E ^ d<4294967296 ^ k) (hk:1<=k):ke (kt po x y) d k:=by
 have hl:=h.hl
 have hDE:0<D*E ^ d:=Nat.mul_pos hD (Nat.pow_pos hE)
 refine⟨by rw [qG,hl],h.hd,h.h6,fun q hq=>?_⟩
 obtain⟨j,hj,rfl⟩:=List.mem_map.1 hq
 have hj:j<po.length:=by simpa using hj
 have hw:cj (D*E ^ d) (N*E ^ d) ((dH (aX po) x y).getD j 0):=by
  rw [acr h eT J]
  exact arn hx hy J fun i hi=>hc.w i hi
 have hn:∀ k,cj (D*E ^ d) (N*E ^ d) ((dH (bj po k) x y).getD j 0):=fun k=>by
  rw [abA h eT k J]
  exact arn hx hy J fun i hi=>hc.n k i hi
 exact⟨⟨(hn 0).div hw hDE hN hk,(hn 1).div hw hDE hN hk,(hn 2).div hw hDE hN hk⟩,hw.rl hDE hN ee hk,ad8 h fw eT gR kg J⟩
theorem alp {p:List Rat} {x:Rat} {R:Nat} (hp:∀ z∈p,rl z<=R) (hx:rl x<=4):rl (cN p x)<=(R+11)*2 ^ p.length:=by
 have h5:=iq 1 x
 rw [show rl 1=1 from rfl] at h5
 have kJ:0<2 ^ p.length:=Nat.pow_pos ai
 have h:∀ z∈p,(rl z+11)*2 ^ p.length<=(R+11)*2 ^ p.length:=fun z hz=>Nat.mul_le_mul_right _ (by have:=hp z hz;omega)
 have h1:1<=(R+11)*2 ^ p.length:=Nat.mul_pos J kJ
 exact ga h1 (fun z hz=>by have:=ajv (C:=11) J p.length p rfl h z hz;omega) _
theorem atV {po:List aF} {d:Nat} {W x:Rat} (h3:d<=3) (h:mf po d 100) (hW:rl W<=200) (hx:rl x<=4):ck 3700000 (agW W po x):=by
 have h5:=h.d5
 have hd:=h.c.hd
 have w:=h.w
 have hw:=alp w.2 hx
 have gM:2 ^ (aX po).length<=2 ^ 4:=Nat.pow_le_pow_right ai J
 have hw2:rl (cN (aX po) x)<=111*2 ^ 4:=Nat.le_trans hw (Nat.mul_le_mul_left _ gM)
 have ht:∀ k,rl (cN (fC po k) x)<=48802*2 ^ 6:=fun k=>by
  have t:=h.t k
  have h1:=alp t.2 hx
  have h2:2 ^ (fC po k).length<=2 ^ 6:=Nat.pow_le_pow_right ai J
  exact Nat.le_trans h1 (Nat.le_trans (Nat.mul_le_mul_left _ h2) J)
 have m0:=cO (cN (aX po) x) (cN (aX po) x)
 have m1:=cO W (cN (aX po) x*cN (aX po) x)
 have m2:=oH 1 (W*(cN (aX po) x*cN (aX po) x))
 have r1:rl 1=1:=rfl
 have g:∀ k,rl (1/(W*(cN (aX po) x*cN (aX po) x))*cN (fC po k) x)<=3700000:=fun k=>by
  have m3:=cO (1/(W*(cN (aX po) x*cN (aX po) x))) (cN (fC po k) x)
  have:=ht k
  omega
 exact⟨g 0,g 1,g 2⟩
theorem atg {po:List aF} {d:Nat} {W:Rat} (h:mf po d 100) (hW:rl W<=200):nq 20000000 (abl W po):=by
 have g:∀ k,db 20000000 (zQ W po k):=fun k=>(arG (h.qu k) (show db 200 (W,W) from ⟨hW,hW⟩)).le J
 exact⟨g 0,g 1,g 2⟩
theorem ayp (S T:o5) (u v:V3) (l m:List V3):oO S T u v l m<=4:=by
 unfold oO
 split
 ·omega
 ·split
  ·omega
  ·split<;>omega
theorem ax5 {s:Sp} (h:s.1<s.2):(iS s-s.1)/(s.2-s.1)=1/2:=by
 have e:=aiC (s.1+s.2)
 have hn:s.2-s.1≠0:=by grind
 have:iS s-s.1=1/2*(s.2-s.1):=by
  show (s.1+s.2)/2-s.1=_
  grind
 rw [this,Rat.mul_div_cancel hn]
structure gJ where
 d:Nat
 a:Rat
 b:Rat
 po:List aF
def ib (q:gJ):cI:=(q.d,bl q.d q.a q.b,q.po)
structure xh (q:gJ) (Dp D N:Nat):Prop where
 d5:q.d<=3
 ab:q.a<q.b
 ra:rl q.a<=30
 rb:rl q.b<=30
 c:ke q.po q.d 1000
 cc:cvC q.po q.d D N
 D0:0<D
 hN:N*(2 ^ Dp) ^ q.d<4294967296 ^ 100
 hD:D*(2 ^ Dp) ^ q.d<4294967296 ^ 100
def fe (q:gJ) (s:Sp):List aF:=kt q.po ((s.1-q.a)/(q.b-q.a)) ((s.2-q.a)/(q.b-q.a))
def lkU (q:gJ) (s:Sp):V3:=agW (s.2-s.1) (fe q s) ((iS s-s.1)/(s.2-s.1))
def tc (p q:gJ):iU:=fun A B =>
 w7 (oa ((fe p (A.getD 0 default)).map aF.p)) (oa ((fe q (B.getD 0 default)).map aF.p))
  (oO (abl ((A.getD 0 default).2-(A.getD 0 default).1) (fe p (A.getD 0 default))) (abl ((B.getD 0 default).2-(B.getD 0 default).1) (fe q (B.getD 0 default))) (lkU p (A.getD 0 default)) (lkU q (B.getD 0 default)) ((fe p (A.getD 0 default)).map aF.p) ((fe q (B.getD 0 default)).map aF.p))
structure sdK (q:gJ) (s:Sp):Prop where
 len:(fe q s).length=q.d+1
 cv:mf (fe q s) q.d 100
 pos:∀ z∈(fe q s).map aF.p,ck 100 z
 box:nq 100 (oa ((fe q s).map aF.p))
 spd:nq 20000000 (abl (s.2-s.1) (fe q s))
 tan:ck 3700000 (lkU q s)
 cut:av Tryz.prog 43 [.agg [ah q.d,.list 3 ((bl q.d q.a q.b).map ae),.list 12 (q.po.map aT)],ae s.1,ae s.2] (.a7 [.agg [ah q.d,.list 3 ((bl q.d s.1 s.2).map ae),.list 12 ((fe q s).map aT)],iL 0])
 bx:av Tryz.prog 45 [.agg [ah q.d,.list 3 ((bl q.d s.1 s.2).map ae),.list 12 ((fe q s).map aT)]] (lN (oa ((fe q s).map aF.p)))
 sp:av Tryz.prog 100 [.agg [ah q.d,.list 3 ((bl q.d s.1 s.2).map ae),.list 12 ((fe q s).map aT)]] (lN (abl (s.2-s.1) (fe q s)))
 dom:av Tryz.prog 41 [.agg [ah q.d,.list 3 ((bl q.d s.1 s.2).map ae),.list 12 ((fe q s).map aT)]] (aD s)
 mid:av Tryz.prog 105 [aD s] (ae (iS s))
 tg:av Tryz.prog 104 [.agg [ah q.d,.list 3 ((bl q.d s.1 s.2).map ae),.list 12 ((fe q s).map aT)],ae (iS s)] (.a7 [aS (lkU q s),iL 0])
 ends:av Tryz.prog 111 [.agg [ah q.d,.list 3 ((bl q.d s.1 s.2).map ae),.list 12 ((fe q s).map aT)]] (.a7 [aS ((fe q s).getD 0 default).p,aS ((fe q s).getD ((fe q s).length-1) default).p])
theorem apo {q:gJ} {Dp D N:Nat} (h:xh q Dp D N) (hDp:Dp<=23) {σ:Sp} (hs:l5 Dp σ):sdK q (cL q.a q.b σ):=by
 obtain⟨s1,s2,s3,s4,s5⟩:=hs
 have hσ:l5 Dp σ:=⟨s1,s2,s3,s4,s5⟩
 have cu:=h.ab
 have apV:=hσ.rl J
 have hra:=h.ra
 have hrb:=h.rb
 have h5:=h.d5
 have hc:=h.c
 have r1:=tq hra hrb apV.1
 have r2:=tq hra hrb apV.2
 have eC:fe q (cL q.a q.b σ)=kt q.po σ.1 σ.2:=by
  unfold fe
  rw [show ((cL q.a q.b σ).1-q.a)/(q.b-q.a)=σ.1 from ux cu σ.1,show ((cL q.a q.b σ).2-q.a)/(q.b-q.a)=σ.2 from ux cu σ.2]
 have eT:σ.1<1:=by grind
 have gR:0<=σ.2:=by grind
 have akV:σ.1<=1:=by grind
 have vg:=anQ s1 s3 akV
 have rL:=anQ s2 gR s5
 have hE:0<2 ^ Dp:=Nat.pow_pos ai
 have hR:=aAX hc s3 eT gR s5 (k:=100) h.D0 hE vg rL h.cc h.hN h.hD ai
 have oZ:mf (fe q (cL q.a q.b σ)) q.d 100:=by rw [eC];exact⟨hR,J,by decide,by decide⟩
 have bE:(cL q.a q.b σ).1<(cL q.a q.b σ).2:=aaX cu s4
 have ayO:=arh cu s3 akV
 have aCb:=arh cu gR s5
 have e1:=iq 1 σ.1
 have e2:=iq 1 σ.2
 have rr1:rl 1=1:=rfl
 have ew:=iq (cL q.a q.b σ).2 (cL q.a q.b σ).1
 have r1':rl (cL q.a q.b σ).1<=95:=by show rl (q.a+(q.b-q.a)*σ.1)<=_;omega
 have r2':rl (cL q.a q.b σ).2<=95:=by show rl (q.a+(q.b-q.a)*σ.2)<=_;omega
 have hW:rl ((cL q.a q.b σ).2-(cL q.a q.b σ).1)<=200:=by omega
 have yC:=azT bE
 have hmr:rl (iS (cL q.a q.b σ))<=95:=by
  rw [aiE]
  have hm:=(hσ.half.1).rl (show Dp+1<=24 by omega)
  have:=tq hra hrb hm.2
  have e:(nX σ).2=iS σ:=rfl
  rw [e] at this
  omega
 have hlen:(fe q (cL q.a q.b σ)).length=q.d+1:=oZ.c.hl
 have kJ:∀ z∈(fe q (cL q.a q.b σ)).map aF.p,ck 100 z:=fun z hz=>by
  obtain⟨y,hy,rfl⟩:=List.mem_map.1 hz
  exact(oZ.c.ok y hy).1
 have hbx:nq 100 (oa ((fe q (cL q.a q.b σ)).map aF.p)):=by
  have hb:∀ i,i<((fe q (cL q.a q.b σ)).map aF.p).length->ck 100 (((fe q (cL q.a q.b σ)).map aF.p).getD i default):=fun i hi=>by
   rw [List.getD_eq_getElem?_getD,List.getElem?_eq_getElem hi]
   exact kJ _ (List.getElem_mem hi)
  have hl0:((fe q (cL q.a q.b σ)).map aF.p).length-1<((fe q (cL q.a q.b σ)).map aF.p).length:=by rw [List.length_map,hlen];omega
  exact⟨acV hb 0 _ hl0,acV hb 1 _ hl0,acV hb 2 _ hl0⟩
 have ay9:=ax5 bE
 have hrh:rl ((iS (cL q.a q.b σ)-(cL q.a q.b σ).1)/((cL q.a q.b σ).2-(cL q.a q.b σ).1))<=4:=by rw [ay9];decide +kernel
 have ao8:=avM q.d q.a q.b q.po J J cu J (cL q.a q.b σ).1 (cL q.a q.b σ).2 σ.1 σ.2 J J ayO.1 bE aCb.2 (ux cu σ.1) (ux cu σ.2) eT J J 1000 ai hc (fun k z hz=>Nat.le_trans (acF hc.ok k z hz) ai) (fun z hz=>Nat.le_trans (acI hc.ok z hz) ai) s3 gR s5
 rw [<-eC] at ao8
 exact⟨hlen,oZ,kJ,hbx,atg oZ hW,atV h5 oZ hW hrh,ao8,atH _ _ _ 100 ai oZ.c,az1 _ _ _ _ J J bE J 100 oZ,ad1 _ _ _ _ J J bE J,apJ _ J,avw _ _ _ _ J J bE J 100 oZ _ _ J yC.1 yC.2 rfl J,ayu _ _ _ 100 ai oZ.c⟩
theorem axy {p q:gJ} {Dp D N D' N':Nat} (hp:xh p Dp D N) (hq:xh q Dp D' N') (hDp:Dp<=23):adM Tryz.prog 42 [.bW (dv (ib p)),.bW (dv (ib q))] Dp 1 2 (tc p q) (qe Dp p.a p.b q.a q.b):=by
 have iT:=hp.ra
 have pZ:=hp.rb
 have oW:=hq.ra
 have hq2:=hq.rb
 refine aAO J hp.ab hq.ab J J J J (tc p q) (fun s t hs ht=>?_) (fun s t hs ht=>?_)
 ·have h1:=apo hp hDp hs
  have h2:=apo hq hDp ht
  have hpd:=hp.d5
  have hqd:=hq.d5
  have jF:=h1.len
  have mG:=h2.len
  have hK:=aCR p.d q.d _ _ _ _ _ _ 20000000 ai h1.spd h2.spd _ _ _ _ _ _ 3700000 ai h1.tan h2.tan J J J J (fun z hz=>(h1.pos z hz).le ai) (fun z hz=>(h2.pos z hz).le ai) h1.sp h2.sp h1.dom h2.dom h1.mid h2.mid h1.tg h2.tg h1.ends h2.ends
  exact aBF p.d q.d _ _ _ _ p.po q.po _ _ _ _ _ _ 100 ai h1.box h2.box _ h1.cut h2.cut h1.bx h2.bx hK
 ·show (w7 _ _ _).2.1<=4/\(w7 _ _ _).2.2<=4
  unfold w7
  split
  ·exact⟨ayp _ _ _ _ _ _,Nat.zero_le _⟩
  ·exact⟨Nat.zero_le _,Nat.zero_le _⟩
theorem aA1 (d:Nat) (a t b:Rat) (po:List aF) (R R4:Nat) (h1:1<=d) (h6:d<=6) (bV:a<t) (df:t<b) (ha:rl a<=64) (ht:rl t<=64) (hb:rl b<=64) (hl:po.length=d+2) (eJ:1<=R) (hR:R<=1000) (xd:∀ q∈po,ow R q) (hQ:∀ q∈(po.map cS),nR 10000000 q) (hk:yi (bO d a t b) d) (hds:cT (bO d a t b) (bO d a t b).length=[a,t,b])
  (hR4:R4<=1000000000) (hA:∀ q∈ks d a t b (po.map cS),nR R4 q/\0<q.w) (hZ:∀ q∈jY d a t b (po.map cS),nR R4 q/\0<q.w) (zG:(ks d a t b (po.map cS)).length<=200) (hZl:(jY d a t b (po.map cS)).length<=200) :
  av Tryz.prog 39 [.agg [ah d,.list 3 ((bO d a t b).map ae),.list 12 (po.map aT)]] (.list 3 ((([⟨d,a,t,(ks d a t b (po.map cS)).map dX⟩,⟨d,t,b,(jY d a t b (po.map cS)).map dX⟩]:List gJ).map ib).map dv)):=by
 have h3:=aa7 (d:=d) ha ht hb
 have hlen:=nL d a t b
 have hC:(po.map cS).length=d+2:=by rw [List.length_map,hl]
 have nH:∀ (x y:Rat),rl x<=64->rl y<=64->∀ z∈bl d x y,rl z<=1000:=fun x y hx hy z hz=>Nat.le_trans (aaG hx hy z hz) ai
 exact anC d (bO d a t b) [a,t,b] po (fun i=>if i=0 then ks d a t b (po.map cS) else jY d a t b (po.map cS)) 2 rfl ai J J h3 hds (alg d (bO d a t b) po hk J) (apF d (bO d a t b) po R eJ hR J J (fun x hx=>Nat.le_trans (h3 x hx) ai) J xd)
  (fun i hi=>by
   match i,hi with
   | 0,_=>exact aCa d a t b (po.map cS) 10000000 h1 h6 bV df ha ht hb hC ai ai hQ
   | 1,_=>exact aAE d a t b (po.map cS) 10000000 h1 h6 bV df ha ht hb hC ai ai hQ)
  (fun i hi=>by
   match i,hi with
   | 0,_=>exact agV d (bl d a t) _ R4 hR4 J (by rw [jV];omega) (nH a t ha ht) zG hA
   | 1,_=>exact agV d (bl d t b) _ R4 hR4 J (by rw [jV];omega) (nH t b ht hb) hZl hZ)
theorem ar6 (d:Nat) (a t b:Rat):bO d a t b=kx d a [t] b:=by
 unfold bO kq kx
 simp
theorem ax4 {d:Nat} {a t b:Rat} (h1:1<=d) (bV:a<t) (df:t<b) (ht:rl t<=64):ahs d a [t] b :=
 ⟨fun x hx=>by rw [List.mem_singleton.1 hx];exact⟨bV,df⟩,fun i hi=>by simp at hi,fun x hx=>by
  rw [List.mem_singleton.1 hx]
  have:=ac7 [t] t [t].length
  exact Nat.le_trans this h1,Nat.le_succ 1,fun x hx=>by rw [List.mem_singleton.1 hx];exact ht⟩
theorem awN {d:Nat} {a t b:Rat} (h1:1<=d) (h6:d<=6) (bV:a<t) (df:t<b) (ha:rl a<=64) (ht:rl t<=64) (hb:rl b<=64):yi (bO d a t b) d:=by
 rw [ar6]
 exact alm h1 h6 ha hb cA (ax4 h1 bV df ht)
theorem aog {d:Nat} {a t b:Rat}:∀ i,i+1<=d+1->cT (bO d a t b) (i+1)=[a]
 | 0,_=>by rw [cT,if_pos (.inl rfl),dT _ _ _ _ _ J,if_pos J];rfl
 | i+1,h=>by
  rw [aaJ J (by rw [dT _ _ _ _ _ J,dT _ _ _ _ _ J,if_pos J,if_pos J]),aog i J]
theorem asA {d:Nat} {a t b:Rat} (bV:a<t):cT (bO d a t b) (d+2)=[a,t]:=by
 rw [afm J (by rw [dT _ _ _ _ _ J,dT _ _ _ _ _ J,if_neg J,if_pos J,if_pos J];grind),aog d J,dT _ _ _ _ _ J,if_neg J,if_pos J];rfl
theorem apd {d:Nat} {a t b:Rat} (bV:a<t) (df:t<b):∀ i,i+1<=d+1->cT (bO d a t b) (d+2+(i+1))=[a,t,b]
 | 0,_=>by
  rw [<-Nat.add_assoc,afm J (by rw [dT _ _ _ _ _ J,dT _ _ _ _ _ J,if_neg J,if_neg J,if_neg J,if_pos J];grind),Nat.add_zero,asA bV,dT _ _ _ _ _ J,if_neg J,if_neg J];rfl
 | i+1,h=>by
  rw [<-Nat.add_assoc,aaJ J (by rw [dT _ _ _ _ _ J,dT _ _ _ _ _ J,if_neg J,if_neg J,if_neg J,if_neg J]),apd bV df i J]
theorem avm {d:Nat} {a t b:Rat} (bV:a<t) (df:t<b):cT (bO d a t b) (bO d a t b).length=[a,t,b]:=by
 have:=apd (d:=d) bV df d (Nat.le_refl _)
 rwa [show d+2+(d+1)=(bO d a t b).length by rw [nL];omega] at this
theorem atk {x y f:Rat} (h0:0<=f) (h1:f<=1) (hx:0<x) (hy:0<y):0<x+f*(y-x):=by
 rcases Rat.le_total (a:=x) (b:=y) with g | g
 ·have:=Rat.mul_nonneg h0 (show 0<=y-x by grind)
  grind
 ·have:=Rat.mul_nonneg (show 0<=1-f by grind) (show 0<=x-y by grind)
  grind
theorem atw {f:Nat->Rat} {v:List Rat} {j:Nat} (hf:∀ i,j<i->i<v.length->0<=f i/\f i<=1) (hv:∀ x∈v,0<x):∀ x∈nK f v j,0<x:=fun x hx=>by
 obtain⟨i,hi,rfl⟩:=ac8 hx
 rw [r9] at hi
 rw [vj f v j i hi]
 have a:=hv _ (dg hi)
 split
 ·rename_i g
  have h0:=hf i g hi
  have b:=hv _ (dg (show i-1<v.length by omega))
  exact atk h0.1 h0.2 b a
 ·exact a
theorem ap6 {F:Nat->Nat->Rat} {v:List Rat} {n:Nat} (hF:∀ r i,r<n->r<i->i<v.length->0<=F r i/\F r i<=1) (hv:∀ x∈v,0<x):∀ r,r<=n->∀ x∈cr F v r,0<x
 | 0,_=>hv
 | r+1,h=>atw (fun i h1 h2=>hF r i J h1 (by rwa [uS] at h2)) (ap6 hF hv r J)
theorem cj.scale {D N E:Nat} {x:Rat} (h:cj D N x):cj (D*E) (N*E) x:=by
 obtain⟨z,e,g⟩:=h
 refine⟨z*(E:Int),?_,?_⟩
 ·rw [xq,<-Rat.mul_assoc,e,Rat.intCast_mul]
 ·rw [Int.natAbs_mul,Int.natAbs_natCast];exact Nat.mul_le_mul_right _ g
theorem azG {D N E:Nat} {x y f:Rat} (hf:uQ E f) (hx:cj D N x) (hy:cj D N y):cj (D*E) (N*E) (x+f*(y-x)):=by
 obtain⟨α,β,e1,e2⟩:=hf
 have es:=uQ.sum e1 e2
 obtain⟨z,f1,g1⟩:=hx
 obtain⟨u,f2,g2⟩:=hy
 refine⟨(β:Int)*z+(α:Int)*u,?_,?_⟩
 ·rw [xq,Rat.intCast_add,Rat.intCast_mul,Rat.intCast_mul,<-e1,<-e2,<-f1,<-f2]
  grind
 ·have h1:=Int.natAbs_add_le ((β:Int)*z) ((α:Int)*u)
  rw [Int.natAbs_mul,Int.natAbs_mul,Int.natAbs_natCast,Int.natAbs_natCast] at h1
  have h2:=Nat.mul_le_mul_left β g1
  have h3:=Nat.mul_le_mul_left α g2
  have h4:N*E=β*N+α*N:=by rw [<-es,Nat.mul_comm,Nat.add_mul,Nat.add_comm]
  omega
theorem atG {f:Nat->Rat} {v:List Rat} {j D N E:Nat} (hf:∀ i,j<i->i<v.length->uQ E (f i)) (hv:∀ x∈v,cj D N x):∀ x∈nK f v j,cj (D*E) (N*E) x:=fun x hx=>by
 obtain⟨i,hi,rfl⟩:=ac8 hx
 rw [r9] at hi
 rw [vj f v j i hi]
 have a:=hv _ (dg hi)
 split
 ·rename_i g
  exact azG (hf i g hi) (hv _ (dg (show i-1<v.length by omega))) a
 ·exact a.scale
theorem aov {F:Nat->Nat->Rat} {v:List Rat} {n D N E:Nat} (hF:∀ r i,r<n->r<i->i<v.length->uQ E (F r i)) (hv:∀ x∈v,cj D N x):∀ r,r<=n->∀ x∈cr F v r,cj (D*E ^ r) (N*E ^ r) x
 | 0,_=>fun x hx=>by simpa using hv x hx
 | r+1,h=>fun x hx=>by
  rw [Nat.pow_succ,<-Nat.mul_assoc,<-Nat.mul_assoc]
  exact atG (fun i h1 h2=>hF r i J h1 (by rwa [uS] at h2)) (aov hF hv r J) x hx
def gk (c:cI):gJ:=⟨c.1,c.2.1.getD 0 0,c.2.1.getD (2*(c.1+1)-1) 0,c.2.2⟩
theorem wu (q:gJ):gk (ib q)=q:=by
 obtain⟨d,a,b,po⟩:=q
 show gJ.mk d ((bl d a b).getD 0 0) ((bl d a b).getD (2*(d+1)-1) 0) po=_
 rw [xi,aar]
def oA (d w:Nat) (wd:Rat) (lA lB:List gJ):lI:=pn d w wd (fun c e=>tc (gk c) (gk e)) (fun c=>((gk c).a,(gk c).b)) (lA.map ib) (lB.map ib) (0,[])
theorem avQ (d1 d2:Nat) (k1 k2:List Rat) (cg b9:List aF) (jF:cg.length<=1000) (mG:b9.length<=1000) (uU:∀ x∈cg,x.p.z=0) (yE:∀ x∈b9,x.p.z=0) (lA lB:List gJ) (hA:lA.length<=10) (hB:lB.length<=10) (d w:Nat) (wd:Rat) (hd:d<=10) (hw:w<=4096) (hwd:rl wd<=100)
  (hVa:av Tryz.prog 37 [.agg [ah d,ah w,ae wd]] (bL true)) (hP1:av Tryz.prog 39 [.agg [ah d1,.list 3 (k1.map ae),.list 12 (cg.map aT)]] (.list 3 ((lA.map ib).map dv))) (hP2:av Tryz.prog 39 [.agg [ah d2,.list 3 (k2.map ae),.list 12 (b9.map aT)]] (.list 3 ((lB.map ib).map dv)))
  (hKA:∀ q∈lA,∃ D N,xh q d D N) (hKB:∀ q∈lB,∃ D N,xh q d D N) :
  av Tryz.prog 14 [.agg [ah d1,.list 3 (k1.map ae),.list 12 (cg.map aT)],.agg [ah d2,.list 3 (k2.map ae),.list 12 (b9.map aT)],.agg [ah d,ah w,ae wd]] (.a7 [.list 4 ((oA d w wd lA lB).2.map fg),iL 0]):=by
 have uP:∀ (l:List gJ),(∀ q∈l,∃ D N,xh q d D N)->∀ c∈l.map ib,av Tryz.prog 41 [dv c] (aD ((gk c).a,(gk c).b)):=fun l hK c hc=>by
  obtain⟨q,hq,rfl⟩:=List.mem_map.1 hc
  obtain⟨D,N,h⟩:=hK q hq
  have h5:=h.d5
  have ha:=h.ra
  have hb:=h.rb
  rw [wu]
  exact ad1 q.d q.a q.b q.po J J h.ab J
 refine aCZ d1 d2 k1 k2 cg b9 jF mG uU yE (lA.map ib) (lB.map ib) kB kB d w wd hd hw hwd (fun c e=>tc (gk c) (gk e)) (fun c=>((gk c).a,(gk c).b)) (fun c e=>qe d (gk c).a (gk c).b (gk e).a (gk e).b) hVa hP1 hP2 (uP lA hKA) (uP lB hKB) (fun c hc e he=>?_) (fun c hc e he=>ajS ..)
 obtain⟨p,hp,rfl⟩:=List.mem_map.1 hc
 obtain⟨q,hq,rfl⟩:=List.mem_map.1 he
 obtain⟨D,N,h⟩:=hKA p hp
 obtain⟨D',N',h'⟩:=hKB q hq
 show adM _ _ _ d 1 2 (tc (gk (ib p)) (gk (ib q))) (qe d (gk (ib p)).a (gk (ib p)).b (gk (ib q)).a (gk (ib q)).b)
 rw [wu,wu]
 exact axy h h' J
def qn (s:Sp) (x:Rat):Prop:=s.1<=x/\x<=s.2
def nJ (x:ez) (t u:Rat):Prop:=x.1.length=2/\x.2.2.length=2/\qn (x.1.getD 0 default) t/\qn (x.1.getD 1 default) u
def iA (c:gQ) (t u:Rat):Prop:=qn (c.1.getD 0 default) t/\qn (c.2.1.getD 0 default) u
theorem anV {s:Sp} {x:Rat} (h:qn s x):qn (nX s) x\/qn (oT s) x:=by
 rcases Rat.le_total (a:=x) (b:=iS s) with g | g
 ·exact .inl ⟨h.1,g⟩
 ·exact .inr ⟨g,h.2⟩
theorem apg {x:ez} {t u:Rat} (h:nJ x t u):nJ (lL x) t u\/nJ (lO x) t u:=by
 obtain⟨h1,h2,h3,h4⟩:=h
 have ha:eU x=0\/eU x=1:=by
  have:=abf (t:=x.2.2) x.2.2.length (Nat.le_refl _) J
  unfold eU;omega
 obtain⟨l,n,m⟩:=x
 match l,h1 with
 | [s,r],_ =>
  unfold lL lO yo
  rcases ha with g | g
  ·rw [g]
   rcases anV h3 with k | k
   ·exact .inl ⟨rfl,by simpa using h2,k,h4⟩
   ·exact .inr ⟨rfl,by simpa using h2,k,h4⟩
  ·rw [g]
   rcases anV h4 with k | k
   ·exact .inl ⟨rfl,by simpa using h2,h3,k⟩
   ·exact .inr ⟨rfl,by simpa using h2,h3,k⟩
theorem ae6 {x:ez} {t u:Rat} {v:Bool × Nat × Nat} (h:nJ x t u):iA (mq 1 x v) t u:=by
 obtain⟨h1,h2,h3,h4⟩:=h
 obtain⟨l,n,m⟩:=x
 match l,h1 with
 | [s,r],_=>exact⟨h3,h4⟩
theorem aEp {D W:Nat} {wd:Rat} {lk:iU} {t u:Rat} (hk:∀ x,nJ x t u->(lk (x.1.take 1) (x.1.drop 1)).1=false) {s:RunT} (h:(∃ x∈s.1,nJ x t u)\/∃ c∈s.2.2,iA c t u):∃ c∈(rJ D W 1 wd lk s).2.2,iA c t u:=by
 have:=aa5 (D:=D) (W:=W) (na:=1) (wd:=wd) (lk:=lk) (fun s=>(∃ x∈s.1,nJ x t u)\/∃ c∈s.2.2,iA c t u) (fun x st n cs hI=>by
  have vZ:∀ (y:List ez) (wC:List gQ),(∀ z∈st,z∈y)->(∀ c∈cs,c∈wC)->(nJ x t u->(∃ z∈y,nJ z t u)\/∃ c∈wC,iA c t u)->(∃ z∈y,nJ z t u)\/∃ c∈wC,iA c t u:=fun y wC hy hc hx=>by
   rcases hI with⟨z,hz,g⟩ | ⟨c,uD,g⟩
   ·rcases List.mem_cons.1 hz with rfl | hz
    ·exact hx g
    ·exact .inl ⟨z,hy z hz,g⟩
   ·exact .inr ⟨c,hc c uD,g⟩
  rw [lU]
  split
  ·exact vZ st _ (fun z hz=>hz) (fun c hc=>List.mem_append_left _ hc) (fun g=>.inr ⟨_,List.mem_append_right _ (List.mem_singleton.2 rfl),ae6 g⟩)
  ·split
   ·rename_i hd
    exact vZ st cs (fun z hz=>hz) (fun c hc=>hc) (fun g=>by rw [hk x g] at hd;cases hd)
   ·split
    ·exact vZ st _ (fun z hz=>hz) (fun c hc=>List.mem_append_left _ hc) (fun g=>.inr ⟨_,List.mem_append_right _ (List.mem_singleton.2 rfl),ae6 g⟩)
    ·refine vZ (lL x :: lO x :: st) cs (fun z hz=>by simp [hz]) (fun c hc=>hc) (fun g=>?_)
     rcases apg g with g | g
     ·exact .inl ⟨_,by simp,g⟩
     ·exact .inl ⟨_,by simp,g⟩) (fj D s.1) (Nat.le_refl _) h (abp D W 1 wd lk s)
 obtain⟨h1,h2⟩:=this
 rcases h1 with⟨x,hx,_⟩ | h1
 ·rw [h2] at hx;cases hx
 ·exact h1
theorem axV {D W:Nat} {wd:Rat} {lk:iU} {t u:Rat} {s:RunT} (h:∃ c∈s.2.2,iA c t u):∃ c∈(rJ D W 1 wd lk s).2.2,iA c t u:=by
 have:=aa5 (D:=D) (W:=W) (na:=1) (wd:=wd) (lk:=lk) (fun s=>∃ c∈s.2.2,iA c t u) (fun x st n cs hI=>by
  obtain⟨c,hc,g⟩:=hI
  rw [lU]
  split
  ·exact⟨c,List.mem_append_left _ hc,g⟩
  ·split
   ·exact⟨c,hc,g⟩
   ·split
    ·exact⟨c,List.mem_append_left _ hc,g⟩
    ·exact⟨c,hc,g⟩) (fj D s.1) (Nat.le_refl _) h (abp D W 1 wd lk s)
 exact this.1
theorem aAw {D W:Nat} {wd:Rat} {lk:iU} {t u:Rat} {I:ez->Prop} (hH:∀ x,I x->x.2.1<D->I (lL x)/\I (lO x)) (hk:∀ x,I x->nJ x t u->(lk (x.1.take 1) (x.1.drop 1)).1=false) {s:RunT} (h0:∀ x∈s.1,I x) (h:(∃ x∈s.1,nJ x t u)\/∃ c∈s.2.2,iA c t u) :
  ∃ c∈(rJ D W 1 wd lk s).2.2,iA c t u:=by
 have:=aa5 (D:=D) (W:=W) (na:=1) (wd:=wd) (lk:=lk) (fun s=>(∀ x∈s.1,I x)/\((∃ x∈s.1,nJ x t u)\/∃ c∈s.2.2,iA c t u)) (fun x st n cs xM=>by
  obtain⟨hA,hI⟩:=xM
  have fw:=hA x aO
  have cQ:∀ y∈st,I y:=fun y hy=>hA y (by simp [hy])
  have vZ:∀ (y:List ez) (wC:List gQ),(∀ z∈st,z∈y)->(∀ c∈cs,c∈wC)->(nJ x t u->(∃ z∈y,nJ z t u)\/∃ c∈wC,iA c t u)->(∃ z∈y,nJ z t u)\/∃ c∈wC,iA c t u:=fun y wC hy hc hx=>by
   rcases hI with⟨z,hz,g⟩ | ⟨c,uD,g⟩
   ·rcases List.mem_cons.1 hz with rfl | hz
    ·exact hx g
    ·exact .inl ⟨z,hy z hz,g⟩
   ·exact .inr ⟨c,hc c uD,g⟩
  rw [lU]
  split
  ·exact⟨cQ,vZ st _ (fun z hz=>hz) (fun c hc=>List.mem_append_left _ hc) (fun g=>.inr ⟨_,List.mem_append_right _ (List.mem_singleton.2 rfl),ae6 g⟩)⟩
  ·split
   ·rename_i hd
    exact⟨cQ,vZ st cs (fun z hz=>hz) (fun c hc=>hc) (fun g=>by rw [hk x fw g] at hd;cases hd)⟩
   ·split
    ·exact⟨cQ,vZ st _ (fun z hz=>hz) (fun c hc=>List.mem_append_left _ hc) (fun g=>.inr ⟨_,List.mem_append_right _ (List.mem_singleton.2 rfl),ae6 g⟩)⟩
    ·rename_i jG
     have bE:x.2.1<D:=by
      rcases Nat.lt_or_ge x.2.1 D with g | g
      ·exact g
      ·exact absurd (agC (x:=x) (wd:=wd) g) jG
     have hh:=hH x fw bE
     refine⟨fun y hy=>?_,vZ (lL x :: lO x :: st) cs (fun z hz=>by simp [hz]) (fun c hc=>hc) (fun g=>?_)⟩
     ·simp only [List.mem_cons] at hy
      rcases hy with rfl | rfl | hy
      ·exact hh.1
      ·exact hh.2
      ·exact cQ y hy
     ·rcases apg g with g | g
      ·exact .inl ⟨_,by simp,g⟩
      ·exact .inl ⟨_,by simp,g⟩) (fj D s.1) (Nat.le_refl _) ⟨h0,h⟩ (abp D W 1 wd lk s)
 obtain⟨⟨_,h1⟩,h2⟩:=this
 rcases h1 with⟨x,hx,_⟩ | h1
 ·rw [h2] at hx;cases hx
 ·exact h1
section
variable {d w:Nat} {wd:Rat} {lk:cI->cI->iU} {dm:cI->Sp} {t u:Rat}
theorem atW {c e:cI} {s:lI} (h:∃ x∈s.2,iA x t u):∃ x∈(pS d w wd lk dm c e s).2,iA x t u:=axV h
theorem ahz {c:cI}:∀ (l:List cI) {s:lI},(∃ x∈s.2,iA x t u)->∃ x∈(ny d w wd lk dm c l s).2,iA x t u
 | [],_,h=>h
 | e :: l,s,h=>ahz l (s:=pS d w wd lk dm c e s) (atW h)
theorem arb {c e:cI} (hp:∀ s,∃ x∈(pS d w wd lk dm c e s).2,iA x t u):∀ (l:List cI) {s:lI},e∈l->∃ x∈(ny d w wd lk dm c l s).2,iA x t u
 | e' :: l,s,h=>by
  rcases List.mem_cons.1 h with rfl | h
  ·exact ahz l (hp s)
  ·exact arb hp l (s:=pS d w wd lk dm c e' s) h
theorem amh {m:List cI}:∀ (l:List cI) {s:lI},(∃ x∈s.2,iA x t u)->∃ x∈(pn d w wd lk dm l m s).2,iA x t u
 | [],_,h=>h
 | c :: l,s,h=>amh l (s:=ny d w wd lk dm c m s) (ahz m h)
theorem an6 {c e:cI} {m:List cI} (he:e∈m) (hp:∀ s,∃ x∈(pS d w wd lk dm c e s).2,iA x t u):∀ (l:List cI) {s:lI},c∈l->∃ x∈(pn d w wd lk dm l m s).2,iA x t u
 | c' :: l,s,h=>by
  rcases List.mem_cons.1 h with rfl | h
  ·exact amh l (arb hp m he)
  ·exact an6 he hp l (s:=ny d w wd lk dm c' m s) h
end
theorem avS {d w:Nat} {wd:Rat} {lA lB:List gJ} {p q:gJ} (hp:p∈lA) (hq:q∈lB) {t u:Rat} (ht:qn (p.a,p.b) t) (hu:qn (q.a,q.b) u)
  (hk:∀ x,qe d p.a p.b q.a q.b x->nJ x t u->(tc p q (x.1.take 1) (x.1.drop 1)).1=false):∃ x∈(oA d w wd lA lB).2,iA x t u:=by
 refine an6 (c:=ib p) (e:=ib q) (List.mem_map.2 ⟨q,hq,rfl⟩) (fun s=>?_) _ (List.mem_map.2 ⟨p,hp,rfl⟩)
 show ∃ x∈(rJ d w 1 wd (tc (gk (ib p)) (gk (ib q))) ([([((gk (ib p)).a,(gk (ib p)).b)]++[((gk (ib q)).a,(gk (ib q)).b)],0,List.replicate 2 0)],s.1,s.2)).2.2,iA x t u
 rw [wu,wu]
 refine aAw (I:=qe d p.a p.b q.a q.b) (fun x=>ajJ) hk (fun x hx=>?_) (.inl ⟨_,List.mem_singleton.2 rfl,rfl,rfl,ht,hu⟩)
 rw [List.mem_singleton.1 hx]
 exact ajS ..
theorem avX {po:List aF} {d R:Nat} (h:ke po d R) {x:Rat} (h0:0<=x) (h1:x<=1) {k:Nat} (hk:k<3) {lo hi:Rat} (hb:∀ i,i<=d->lo<=(po.getD i default).p.at k/\(po.getD i default).p.at k<=hi):lo<=(mW po x).at k/\(mW po x).at k<=hi:=by
 have hl:=h.hl
 have fw:0<=1-x:=by grind
 have eT:0<1-x+x:=by grind
 have l1:=acy h
 have l2:=abc h k
 have hw:∀ i,i<=d->0<(po.getD i default).w:=fun i hi=>(h.ok _ (qI (po:=po) (j:=i) J)).2.2
 have ew:cN (aX po) x=fE (1-x) x d (fun i=>(po.getD i default).w):=by
  rw [sN J,l1]
  exact qm _ _ _ _ _ fun i hi=>abm J
 have en:cN (bj po k) x=fE (1-x) x d (fun i=>(po.getD i default).w*(po.getD i default).p.at k):=by
  rw [sN J,l2]
  exact qm _ _ _ _ _ fun i hi=>aag J
 have hp:0<cN (aX po) x:=by rw [ew];exact aaK fw h0 eT d _ hw
 have k1:0<=hi*cN (aX po) x+(-1)*cN (bj po k) x:=by
  rw [ew,en,<-aba]
  refine ajE fw h0 d _ fun i lT=>?_
  have:=Rat.mul_nonneg (Rat.le_of_lt (hw i lT)) (show 0<=hi-(po.getD i default).p.at k by have:=(hb i lT).2;grind)
  grind
 have k2:0<=(-lo)*cN (aX po) x+1*cN (bj po k) x:=by
  rw [ew,en,<-aba]
  refine ajE fw h0 d _ fun i lT=>?_
  have:=Rat.mul_nonneg (Rat.le_of_lt (hw i lT)) (show 0<=(po.getD i default).p.at k-lo by have:=(hb i lT).1;grind)
  grind
 have ek:(mW po x).at k=1/cN (aX po) x*cN (bj po k) x:=by
  match k,hk with
  | 0,_=>rfl
  | 1,_=>rfl
  | 2,_=>rfl
 rw [ek]
 have qz:=(arP hp Rat.le_refl).1
 have aQ:cN (aX po) x≠0:=by grind
 have hr:1/cN (aX po) x*cN (aX po) x=1:=Rat.div_mul_cancel aQ
 have m1:=Rat.mul_nonneg (Rat.le_of_lt qz) k1
 have m2:=Rat.mul_nonneg (Rat.le_of_lt qz) k2
 clear ek hb ew en k1 k2
 generalize 1/cN (aX po) x=r at *
 generalize cN (aX po) x=w at *
 generalize cN (bj po k) x=n at *
 have q1:r*(hi*w+-1*n)=hi*(r*w)-r*n:=by grind
 have q2:r*(-lo*w+1*n)=r*n-lo*(r*w):=by grind
 rw [q1,hr] at m1
 rw [q2,hr] at m2
 constructor<;>grind
theorem amD {po:List aF} {d R:Nat} (h:ke po d R) {x:Rat} (h0:0<=x) (h1:x<=1) {k:Nat} (hk:k<3):(jD (po.map aF.p) k d).1<=(mW po x).at k/\(mW po x).at k<=(jD (po.map aF.p) k d).2:=by
 refine avX h h0 h1 hk fun i hi=>?_
 have:=aqa (po.map aF.p) k d i hi
 rwa [acK (by have:=h.hl;omega)] at this
theorem aAy {s t:Rat × Rat} {x:Rat} (h1:s.1<=x/\x<=s.2) (h2:t.1<=x/\x<=t.2):jR s t=true:=by
 unfold jR
 refine decide_eq_true ?_
 unfold fQ gj
 split<;>split<;>grind
theorem axd {pa pb:List aF} {d e R S:Nat} (ha:ke pa d R) (hb:ke pb e S) {x y:Rat} (fw:0<=x) (eT:x<=1) (gR:0<=y) (kg:y<=1) (he:mW pa x=mW pb y):meB (oa (pa.map aF.p)) (oa (pb.map aF.p))=true:=by
 have l1:=ha.hl
 have l2:=hb.hl
 have g:∀ k,k<3->jR (jD (pa.map aF.p) k ((pa.map aF.p).length-1)) (jD (pb.map aF.p) k ((pb.map aF.p).length-1))=true:=fun k hk=>by
  have e1:(pa.map aF.p).length-1=d:=by rw [List.length_map];omega
  have e2:(pb.map aF.p).length-1=e:=by rw [List.length_map];omega
  rw [e1,e2]
  have b1:=amD ha fw eT hk
  have b2:=amD hb gR kg hk
  rw [<-he] at b2
  exact aAy b1 b2
 show (jR _ _ && jR _ _ && jR _ _)=true
 rw [show jR (oa (pa.map aF.p)).x (oa (pb.map aF.p)).x=true from g 0 ai,show jR (oa (pa.map aF.p)).y (oa (pb.map aF.p)).y=true from g 1 ai,show jR (oa (pa.map aF.p)).z (oa (pb.map aF.p)).z=true from g 2 ai]
 rfl
def zR (q:gJ) (t:Rat):V3:=mW q.po ((t-q.a)/(q.b-q.a))
theorem aco {a b t:Rat} (h:a<b) (h1:a<=t) (h2:t<=b):0<=(t-a)/(b-a)/\(t-a)/(b-a)<=1:=by
 have hp:0<b-a:=by grind
 have hi:=(arP hp Rat.le_refl).1
 have hr:1/(b-a)*(b-a)=1:=Rat.div_mul_cancel cA
 have e:(t-a)/(b-a)=1/(b-a)*(t-a):=by rw [Rat.div_def,Rat.div_def,Rat.one_mul,Rat.mul_comm]
 have m1:=Rat.mul_nonneg (Rat.le_of_lt hi) (show 0<=t-a by grind)
 have m2:=Rat.mul_nonneg (Rat.le_of_lt hi) (show 0<=b-t by grind)
 rw [e]
 generalize 1/(b-a)=r at *
 constructor
 ·exact m1
 ·have:r*(b-t)=r*(b-a)-r*(t-a):=by grind
  rw [this,hr] at m2
  grind
theorem aoh {q:gJ} {R:Nat} (hc:ke q.po q.d R) (cu:q.a<q.b) {σ:Sp} (h0:0<=σ.1) (hl:σ.1<σ.2) (h1:σ.2<=1) {t:Rat} (ht:qn (cL q.a q.b σ) t) :
  ∃ x,0<=x/\x<=1/\mW (fe q (cL q.a q.b σ)) x=zR q t:=by
 have bE:(cL q.a q.b σ).1<(cL q.a q.b σ).2:=aaX cu hl
 have ho:=aco bE ht.1 ht.2
 refine⟨_,ho.1,ho.2,?_⟩
 have eC:fe q (cL q.a q.b σ)=kt q.po σ.1 σ.2:=by
  unfold fe
  rw [show ((cL q.a q.b σ).1-q.a)/(q.b-q.a)=σ.1 from ux cu σ.1,show ((cL q.a q.b σ).2-q.a)/(q.b-q.a)=σ.2 from ux cu σ.2]
 rw [eC,azS hc h0 cA cA h1]
 unfold zR
 congr 1
 have hW:q.b-q.a≠0:=by grind
 have hD:(cL q.a q.b σ).2-(cL q.a q.b σ).1=(q.b-q.a)*(σ.2-σ.1):=by
  show q.a+(q.b-q.a)*σ.2-(q.a+(q.b-q.a)*σ.1)=_
  grind
 have hD0:(cL q.a q.b σ).2-(cL q.a q.b σ).1≠0:=by grind
 have e1:(t-(cL q.a q.b σ).1)/((cL q.a q.b σ).2-(cL q.a q.b σ).1)*((cL q.a q.b σ).2-(cL q.a q.b σ).1)=t-(cL q.a q.b σ).1:=Rat.div_mul_cancel hD0
 have e2:(t-q.a)/(q.b-q.a)*(q.b-q.a)=t-q.a:=Rat.div_mul_cancel hW
 have e3:(cL q.a q.b σ).1=q.a+(q.b-q.a)*σ.1:=rfl
 have e4:(σ.1+(t-(cL q.a q.b σ).1)/((cL q.a q.b σ).2-(cL q.a q.b σ).1)*(σ.2-σ.1))*(q.b-q.a)=(t-q.a)/(q.b-q.a)*(q.b-q.a):=by
  rw [e2]
  rw [hD] at e1
  rw [hD,e3]
  rw [e3] at e1
  generalize (t-(q.a+(q.b-q.a)*σ.1))/((q.b-q.a)*(σ.2-σ.1))=z at *
  grind
 have e5:=congrArg (·/(q.b-q.a)) e4
 simp only [Rat.mul_div_cancel hW] at e5
 exact e5
theorem auM {p q:gJ} {D R S:Nat} (hp:ke p.po p.d R) (hq:ke q.po q.d S) (ub:p.a<p.b) (xU:q.a<q.b) {t u:Rat} (he:zR p t=zR q u) :
  ∀ x,qe D p.a p.b q.a q.b x->nJ x t u->(tc p q (x.1.take 1) (x.1.drop 1)).1=false:=fun x hx hh=>by
 obtain⟨s,r,i,j,e,f,_,_,hs,hr⟩:=hx
 obtain⟨_,_,h3,h4⟩:=hh
 rw [e] at h3 h4 ⊢
 obtain⟨x,x0,x1,ex⟩:=aoh hp ub hs.2.2.1 hs.2.2.2.1 hs.2.2.2.2 h3
 obtain⟨y,y0,y1,ey⟩:=aoh hq xU hr.2.2.1 hr.2.2.2.1 hr.2.2.2.2 h4
 have c1:∃ R',ke (fe p (cL p.a p.b s)) p.d R':=by
  have eC:fe p (cL p.a p.b s)=kt p.po s.1 s.2:=by
   unfold fe
   rw [show ((cL p.a p.b s).1-p.a)/(p.b-p.a)=s.1 from ux ub s.1,show ((cL p.a p.b s).2-p.a)/(p.b-p.a)=s.2 from ux ub s.2]
  rw [eC]
  obtain⟨_,_,g0,g1,g2⟩:=hs
  have oZ:ke p.po p.d (R+1):=⟨hp.hl,hp.hd,hp.h6,fun z hz=>⟨(hp.ok z hz).1.le J,Nat.le_trans (hp.ok z hz).2.1 J,(hp.ok z hz).2.2⟩⟩
  exact⟨_,ak7 oZ g0 cA cA g2 (Nat.le_add_right _ (rl (1-s.2)+rl s.2+1)) (Nat.le_add_left _ (rl (1-s.1)+rl s.1+1)) J⟩
 have c2:∃ R',ke (fe q (cL q.a q.b r)) q.d R':=by
  have eC:fe q (cL q.a q.b r)=kt q.po r.1 r.2:=by
   unfold fe
   rw [show ((cL q.a q.b r).1-q.a)/(q.b-q.a)=r.1 from ux xU r.1,show ((cL q.a q.b r).2-q.a)/(q.b-q.a)=r.2 from ux xU r.2]
  rw [eC]
  obtain⟨_,_,g0,g1,g2⟩:=hr
  have oZ:ke q.po q.d (S+1):=⟨hq.hl,hq.hd,hq.h6,fun z hz=>⟨(hq.ok z hz).1.le J,Nat.le_trans (hq.ok z hz).2.1 J,(hq.ok z hz).2.2⟩⟩
  exact⟨_,ak7 oZ g0 cA cA g2 (Nat.le_add_right _ (rl (1-r.2)+rl r.2+1)) (Nat.le_add_left _ (rl (1-r.1)+rl r.1+1)) J⟩
 obtain⟨_,c1⟩:=c1
 obtain⟨_,c2⟩:=c2
 have hm:=axd c1 c2 x0 x1 y0 y1 (by rw [ex,ey,he])
 show (w7 (oa ((fe p (cL p.a p.b s)).map aF.p)) (oa ((fe q (cL q.a q.b r)).map aF.p)) _).1=false
 unfold w7
 rw [if_pos hm]
theorem axI {d w:Nat} {wd:Rat} {lA lB:List gJ} {p q:gJ} (hp:p∈lA) (hq:q∈lB) {R S:Nat} (hpc:ke p.po p.d R) (hqc:ke q.po q.d S) (ub:p.a<p.b) (xU:q.a<q.b) {t u:Rat} (ht:qn (p.a,p.b) t) (hu:qn (q.a,q.b) u)
  (he:zR p t=zR q u):∃ x∈(oA d w wd lA lB).2,iA x t u:=avS hp hq ht hu (auM hpc hqc ub xU he)
theorem ahY {d:Nat} {a t b:Rat} {args:List Rat} (bV:a<t) (df:t<b) (ha:∀ r,r<d->a<=args.getD r 0/\args.getD r 0<=t) {r j:Nat} (hr:r<d) (hj:r<j) (hd:j<d+1):0<=gF (bO d a t b) d d args r j/\gF (bO d a t b) d d args r j<=1:=by
 have e0:(bO d a t b).getD (d-d+j) 0=a:=by rw [dT _ _ _ _ _ J,if_pos J]
 have hK:t<=(bO d a t b).getD (d+j-r) 0:=by
  rw [dT _ _ _ _ _ J,if_neg J]
  split
  ·exact Rat.le_refl
  ·exact Rat.le_of_lt df
 have h:=ha r hr
 unfold gF
 rw [e0]
 exact aco cA h.1 cA
theorem akr {d:Nat} {a t b:Rat} {args:List Rat} (bV:a<t) (df:t<b) (ha:∀ r,r<d->t<=args.getD r 0/\args.getD r 0<=b) {r j:Nat} (hr:r<d) (hj:r<j) (hd:j<d+1):0<=gF (bO d a t b) d (d+1) args r j/\gF (bO d a t b) d (d+1) args r j<=1:=by
 have e0:(bO d a t b).getD (d+1-d+j) 0<=t:=by
  rw [dT _ _ _ _ _ J]
  split
  ·exact Rat.le_of_lt bV
  ·rw [if_pos J];exact Rat.le_refl
 have hK:(bO d a t b).getD (d+1+j-r) 0=b:=by rw [dT _ _ _ _ _ J,if_neg J,if_neg J]
 have h:=ha r hr
 unfold gF
 rw [hK]
 exact aco cA cA h.2
theorem afJ {n m r:Nat} {x y:Rat} (h:r<n+m):(List.replicate n x++List.replicate m y).getD r 0=x\/(List.replicate n x++List.replicate m y).getD r 0=y:=by
 have hm:(List.replicate n x++List.replicate m y).getD r 0∈List.replicate n x++List.replicate m y:=dg lJ
 rcases List.mem_append.1 hm with g | g
 ·exact .inl (List.mem_replicate.1 g).2
 ·exact .inr (List.mem_replicate.1 g).2
theorem adA {k:List Rat} {d pc:Nat} {v args:List Rat} (hv:∀ x∈v,0<x) (hl:pc+1<=v.length) (hp:d<=pc) (hF:∀ r j,r<d->r<j->j<d+1->0<=gF k d pc args r j/\gF k d pc args r j<=1):0<da k d pc v args:=by
 unfold da
 have hlen:((v.drop (pc-d)).take (d+1)).length=d+1:=by rw [List.length_take,List.length_drop];omega
 refine ap6 (n:=d) (fun r i h1 h2 h3=>hF r i h1 h2 J) (fun x hx=>hv x (List.mem_of_mem_drop (List.mem_of_mem_take hx))) d (Nat.le_refl _) _ (dg ?_)
 rw [uS,hlen];omega
theorem aiY {d:Nat} {a t b:Rat} {C:List Q4} (bV:a<t) (df:t<b) (hC:C.length=d+2) (hw:∀ q∈C,0<q.w):∀ q∈ks d a t b C,0<q.w:=fun q hq=>by
 obtain⟨j,hj,rfl⟩:=List.mem_map.1 hq
 have hj:j<d+1:=List.mem_range.1 hj
 refine adA (fun x hx=>?_) kB (Nat.le_refl _) (fun r i h1 h2 h3=>ahY bV df (fun r hr=>?_) h1 h2 h3)
 ·obtain⟨z,hz,rfl⟩:=List.mem_map.1 hx;exact hw z hz
 ·rcases afJ (n:=d-j) (m:=j) (x:=a) (y:=t) (r:=r) J with e | e<;>rw [e]<;>constructor<;>grind
theorem ago {d:Nat} {a t b:Rat} {C:List Q4} (bV:a<t) (df:t<b) (hC:C.length=d+2) (hw:∀ q∈C,0<q.w):∀ q∈jY d a t b C,0<q.w:=fun q hq=>by
 obtain⟨i,hi,rfl⟩:=List.mem_map.1 hq
 have hi:i<d+1:=List.mem_range.1 hi
 have hwm:∀ x∈C.map (·.w),0<x:=fun x hx=>by obtain⟨z,hz,rfl⟩:=List.mem_map.1 hx;exact hw z hz
 by_cases c:i=0
 ·rw [if_pos c]
  refine adA hwm kB (Nat.le_refl _) (fun r j h1 h2 h3=>ahY bV df (fun r hr=>?_) h1 h2 h3)
  subst c
  rcases afJ (n:=d-0) (m:=0) (x:=t) (y:=b) (r:=r) J with e | e
  ·rw [e];constructor<;>grind
  ·have:(List.replicate (d-0) t++List.replicate 0 b).getD r 0=t:=by
    rw [List.replicate_zero,List.append_nil]
    exact(List.mem_replicate.1 (dg (p:=List.replicate (d-0) t) (i:=r) (by simpa using hr))).2
   rw [this];constructor<;>grind
 ·rw [if_neg c]
  refine adA hwm kB J (fun r j h1 h2 h3=>akr bV df (fun r hr=>?_) h1 h2 h3)
  rcases afJ (n:=d-i) (m:=i) (x:=t) (y:=b) (r:=r) J with e | e<;>rw [e]<;>constructor<;>grind
theorem uQ.scale {E F:Nat} {x:Rat} (h:uQ E x):uQ (E*F) x:=by
 obtain⟨α,β,e1,e2⟩:=h
 refine⟨α*F,β*F,?_,?_⟩
 ·rw [xq,xq,<-Rat.mul_assoc,e1]
 ·rw [xq,xq,<-Rat.mul_assoc,e2]
theorem azl {x p q:Rat} {M:Nat} {X P Q:Int} (hM:0<M) (hx:x*((M:Int):Rat)=(X:Rat)) (hp:p*((M:Int):Rat)=(P:Rat)) (hq:q*((M:Int):Rat)=(Q:Rat)) (h1:p<=x) (h2:x<=q) (hpq:p<q):uQ (Q-P).toNat ((x-p)/(q-p)):=by
 have hm:=ab9 hM
 have hn:q-p≠0:=by grind
 have a1:((X-P:Int):Rat)=(x-p)*((M:Int):Rat):=by rw [Rat.intCast_sub,<-hx,<-hp];grind
 have a2:((Q-X:Int):Rat)=(q-x)*((M:Int):Rat):=by rw [Rat.intCast_sub,<-hx,<-hq];grind
 have a3:((Q-P:Int):Rat)=(q-p)*((M:Int):Rat):=by rw [Rat.intCast_sub,<-hp,<-hq];grind
 have z1:0<=X-P:=Rat.intCast_nonneg.1 (by rw [a1];exact Rat.mul_nonneg cA (Rat.le_of_lt hm))
 have z2:0<=Q-X:=Rat.intCast_nonneg.1 (by rw [a2];exact Rat.mul_nonneg cA (Rat.le_of_lt hm))
 have z3:0<=Q-P:=by omega
 have e:=Rat.div_mul_cancel (a:=x-p) hn
 refine⟨(X-P).toNat,(Q-X).toNat,?_,?_⟩
 ·rw [Int.toNat_of_nonneg z3,Int.toNat_of_nonneg z1,a3,a1,<-Rat.mul_assoc,e]
 ·rw [Int.toNat_of_nonneg z3,Int.toNat_of_nonneg z2,a3,a2,<-Rat.mul_assoc]
  have:(1-(x-p)/(q-p))*(q-p)=(q-p)-(x-p)/(q-p)*(q-p):=by grind
  rw [this,e]
  grind
theorem aiD {k:List Rat} {d pc D N E:Nat} {v args:List Rat} (hv:∀ x∈v,cj D N x) (hl:pc+1<=v.length) (hp:d<=pc) (hF:∀ r j,r<d->r<j->j<d+1->uQ E (gF k d pc args r j)):cj (D*E ^ d) (N*E ^ d) (da k d pc v args):=by
 unfold da
 have hlen:((v.drop (pc-d)).take (d+1)).length=d+1:=by rw [List.length_take,List.length_drop];omega
 refine aov (n:=d) (fun r i h1 h2 h3=>hF r i h1 h2 J) (fun x hx=>hv x (List.mem_of_mem_drop (List.mem_of_mem_take hx))) d (Nat.le_refl _) _ (dg ?_)
 rw [uS,hlen];omega
theorem yr {n r:Nat} {x:Rat} (h:r<n):(List.replicate n x).getD r 0=x:=by
 rw [List.getD_eq_getElem?_getD,List.getElem?_replicate,if_pos h];rfl
theorem ami {k:List Rat} {d pc:Nat} {t:Rat} {v:List Rat} (hv:v.length=d+1) (hp:d<=pc) (hs:∀ i j,i<=pc->pc<j->j<=pc+d->k.getD i 0≠k.getD j 0):∀ e,e<=d ->
  sm (e+1) (fun j=>eG k pc t e (pc-e+j)*(cr (gF k d pc (List.replicate d t)) v (d-e)).getD (d-e+j) 0)=(cr (gF k d pc (List.replicate d t)) v d).getD d 0
 | 0,_=>by
  show 0+eG k pc t 0 (pc-0+0)*_=_
  rw [eG,if_pos J,Rat.zero_add,Rat.one_mul]
  rfl
 | e+1,he=>by
  rw [<-ami (t:=t) hv hp hs e J]
  obtain⟨C,hC⟩:∃ C,C=cr (gF k d pc (List.replicate d t)) v (d-(e+1)):=⟨_,rfl⟩
  have hCl:C.length=d+1:=by rw [hC,uS,hv]
  obtain⟨N,hN⟩:∃ N:Nat->Rat,N=fun j=>eG k pc t e (pc-e+j):=⟨_,rfl⟩
  obtain⟨A,hA⟩:∃ A:Nat->Rat,A=fun j=>(t-k.getD (pc-e+j) 0)/(k.getD (pc+j+1) 0-k.getD (pc-e+j) 0):=⟨_,rfl⟩
  have hC':∀ j,j<=e->(cr (gF k d pc (List.replicate d t)) v (d-e)).getD (d-e+j) 0=C.getD (d-(e+1)+j) 0+A j*(C.getD (d-(e+1)+(j+1)) 0-C.getD (d-(e+1)+j) 0):=fun j hj=>by
   rw [show d-e=d-(e+1)+1 by omega,cr,<-hC,vj _ _ _ _ J,if_pos J,hA,gF,yr J,show d-(e+1)+1+j-1=d-(e+1)+j by omega,show d-(e+1)+(j+1)=d-(e+1)+1+j by omega,show pc-d+(d-(e+1)+1+j)=pc-e+j by omega,show pc+(d-(e+1)+1+j)-(d-(e+1))=pc+j+1 by omega]
  have cQ:∀ j,j<=e+1->eG k pc t (e+1) (pc-(e+1)+j)=(if 1<=j then A (j-1)*N (j-1) else 0)+(if j<=e then(1-A j)*N j else 0):=fun j hj=>by
   rw [eG,if_neg J]
   congr 1
   ·by_cases h1:1<=j
    ·rw [if_pos h1,hA,hN,show pc-(e+1)+j+(e+1)=pc+(j-1)+1 by omega,show pc-(e+1)+j=pc-e+(j-1) by omega]
    ·rw [if_neg h1]
     have hz:eG k pc t e (pc-(e+1)+j)=0:=by
      cases e with
      | zero=>rw [eG,if_neg J]
      | succ e=>rw [eG,if_pos (.inr J)]
     rw [hz,Rat.mul_zero]
   ·by_cases h1:j<=e
    ·rw [if_pos h1,hA,hN,show pc-(e+1)+j+(e+1)+1=pc+j+1 by omega,show pc-(e+1)+j+1=pc-e+j by omega]
     congr 1
     have aQ:=hs (pc-e+j) (pc+j+1) J J J
     have c1:(t-k.getD (pc-e+j) 0)/(k.getD (pc+j+1) 0-k.getD (pc-e+j) 0)*(k.getD (pc+j+1) 0-k.getD (pc-e+j) 0)=t-k.getD (pc-e+j) 0:=Rat.div_mul_cancel cA
     have c2:k.getD (pc+j+1) 0-t=(1-(t-k.getD (pc-e+j) 0)/(k.getD (pc+j+1) 0-k.getD (pc-e+j) 0))*(k.getD (pc+j+1) 0-k.getD (pc-e+j) 0):=by grind
     rw [c2,Rat.mul_div_cancel cA]
    ·rw [if_neg h1]
     have hz:eG k pc t e (pc-(e+1)+j+1)=0:=by
      cases e with
      | zero=>rw [eG,if_neg J]
      | succ e=>rw [eG,if_pos (.inl J)]
     rw [hz,Rat.mul_zero]
  have e1:sm (e+1+1) (fun j=>eG k pc t (e+1) (pc-(e+1)+j)*C.getD (d-(e+1)+j) 0) =
    sm (e+2) (fun j=>(if 1<=j then A (j-1)*N (j-1)*C.getD (d-(e+1)+j) 0 else 0))+sm (e+2) (fun j=>if j<=e then(1-A j)*N j*C.getD (d-(e+1)+j) 0 else 0):=by
   rw [<-afB]
   refine wF _ _ _ fun j hj=>?_
   rw [cQ j J]
   split<;>split<;>grind
  have e2:sm (e+2) (fun j=>(if 1<=j then A (j-1)*N (j-1)*C.getD (d-(e+1)+j) 0 else 0))=sm (e+1) (fun j=>A j*N j*C.getD (d-(e+1)+(j+1)) 0):=by
   rw [arv,if_neg J,Rat.zero_add]
   refine wF _ _ _ fun j hj=>?_
   rw [if_pos J,Nat.add_sub_cancel]
  have e3:sm (e+2) (fun j=>if j<=e then(1-A j)*N j*C.getD (d-(e+1)+j) 0 else 0)=sm (e+1) (fun j=>(1-A j)*N j*C.getD (d-(e+1)+j) 0):=by
   rw [sm,if_neg J,Rat.add_zero]
   refine wF _ _ _ fun j hj=>?_
   rw [if_pos J]
  rw [<-hC,e1,e2,e3,<-afB]
  refine wF _ _ _ fun j hj=>?_
  rw [hC' j J,show eG k pc t e (pc-e+j)=N j by rw [hN]]
  grind
theorem aaQ {k:List Rat} {d pc:Nat} {t:Rat} {v:List Rat} (hv:pc+1<=v.length) (hp:d<=pc) (hs:∀ i j,i<=pc->pc<j->j<=pc+d->k.getD i 0≠k.getD j 0) :
  sm (d+1) (fun j=>eG k pc t d (pc-d+j)*v.getD (pc-d+j) 0)=da k d pc v (List.replicate d t):=by
 unfold da
 rw [<-ami (t:=t) (by rw [List.length_take,List.length_drop];omega) hp hs d (Nat.le_refl _)]
 refine wF _ _ _ fun j hj=>?_
 rw [Nat.sub_self,cr,Nat.zero_add]
 congr 1
 simp only [List.getD_eq_getElem?_getD,List.getElem?_take,List.getElem?_drop]
 rw [if_pos hj]
theorem aaq (F:Nat->Nat->Rat) (a b:Rat):(cr F [a,b] 1).getD 1 0=a+F 0 1*(b-a):=rfl
theorem wg (F:Nat->Nat->Rat) (a b c:Rat):(cr F [a,b,c] 2).getD 2 0=(a+F 0 1*(b-a))+F 1 2*((b+F 0 2*(c-b))-(a+F 0 1*(b-a))):=rfl
theorem tz (F:Nat->Nat->Rat) (a b c d:Rat):(cr F [a,b,c,d] 3).getD 3 0 =
  ((a+F 0 1*(b-a))+F 1 2*((b+F 0 2*(c-b))-(a+F 0 1*(b-a))))+F 2 3*(((b+F 0 2*(c-b))+F 1 3*((c+F 0 3*(d-c))-(b+F 0 2*(c-b))))-((a+F 0 1*(b-a))+F 1 2*((b+F 0 2*(c-b))-(a+F 0 1*(b-a))))):=rfl
theorem agf {F G:Nat->Nat->Rat} {v:List Rat}:∀ n,(∀ r j,r<n->r<j->j<v.length->F r j=G r j)->cr F v n=cr G v n
 | 0,_=>rfl
 | n+1,h=>by
  rw [cr,cr,agf n fun r j h1 h2 h3=>h r j J h2 h3]
  unfold nK
  refine List.map_congr_left fun i hi=>?_
  have hi:=List.mem_range.1 hi
  rw [uS] at hi
  split
  ·rename_i g;rw [h n i J g hi]
  ·rfl
theorem anK {n m r:Nat} {x y:Rat} (h:r<n+m):(List.replicate n x++List.replicate m y).getD r 0=if r<n then x else y:=by
 rw [List.getD_eq_getElem?_getD,List.getElem?_append]
 simp only [List.length_replicate]
 split
 ·rw [List.getElem?_replicate,if_pos (by assumption)];rfl
 ·rw [List.getElem?_replicate,if_pos J];rfl
def qM (q:Rat) (X:Nat->Rat) (r j:Nat):Rat:=if j=r+1 then X r else X r*q
def vm (d:Nat) (q:Rat) (X:Nat->Rat) (r j:Nat):Rat:=if j=d then X r else q+X r*(1-q)
theorem ajo {d:Nat} {a t b:Rat} (bV:a<t) (cu:a<b) {args:List Rat} {r j:Nat} (hr:r<d) (hj:r<j) (hd:j<d+1):gF (bO d a t b) d d args r j=qM ((t-a)/(b-a)) (fun r=>(args.getD r 0-a)/(t-a)) r j:=by
 unfold gF qM
 rw [dT _ _ _ _ _ J,if_pos J,dT _ _ _ _ _ J,if_neg J]
 have h1:t-a≠0:=by grind
 have h2:b-a≠0:=by grind
 by_cases h:j=r+1
 ·rw [if_pos J,if_pos h]
 ·rw [if_neg J,if_neg h]
  grind
theorem amA {d:Nat} {a t b:Rat} (df:t<b) (cu:a<b) {args:List Rat} {r j:Nat} (hr:r<d) (hj:r<j) (hd:j<d+1):gF (bO d a t b) d (d+1) args r j=vm d ((t-a)/(b-a)) (fun r=>(args.getD r 0-t)/(b-t)) r j:=by
 unfold gF vm
 have eh:(bO d a t b).getD (d+1+j-r) 0=b:=by rw [dT _ _ _ _ _ J,if_neg J,if_neg J]
 have el:(bO d a t b).getD (d+1-d+j) 0=if j=d then t else a:=by
  rw [dT _ _ _ _ _ J]
  by_cases h:j=d
  ·rw [if_neg J,if_pos J,if_pos h]
  ·rw [if_pos J,if_neg h]
 rw [eh,el]
 have h1:b-t≠0:=by grind
 have h2:b-a≠0:=by grind
 by_cases h:j=d
 ·rw [if_pos h,if_pos h]
 ·rw [if_neg h,if_neg h]
  show (args.getD r 0-a)/(b-a)=(t-a)/(b-a)+(args.getD r 0-t)/(b-t)*(1-(t-a)/(b-a))
  generalize args.getD r 0=x
  clear eh el
  grind
theorem ajp {d:Nat} {a t b:Rat} (bV:a<t) (cu:a<b) {args v:List Rat} {X:Nat->Rat} (hX:∀ r,r<d->(args.getD r 0-a)/(t-a)=X r) (hv:d+1<=v.length):da (bO d a t b) d d v args=(cr (qM ((t-a)/(b-a)) X) (v.take (d+1)) d).getD d 0:=by
 unfold da
 rw [Nat.sub_self,List.drop_zero]
 rw [agf d fun r j h1 h2 h3=>?_]
 rw [List.length_take] at h3
 rw [ajo bV cu h1 h2 J]
 unfold qM
 simp only [hX r h1]
theorem am7 {d:Nat} {a t b:Rat} (df:t<b) (cu:a<b) {args v:List Rat} {X:Nat->Rat} (hX:∀ r,r<d->(args.getD r 0-t)/(b-t)=X r) (hv:d+2<=v.length):da (bO d a t b) d (d+1) v args=(cr (vm d ((t-a)/(b-a)) X) ((v.drop 1).take (d+1)) d).getD d 0:=by
 unfold da
 rw [show d+1-d=1 by omega]
 rw [agf d fun r j h1 h2 h3=>?_]
 rw [List.length_take,List.length_drop] at h3
 rw [amA df cu h1 h2 J]
 unfold vm
 simp only [hX r h1]
theorem abY {a b s:Rat} (h:a<b) (hs:s=b):(s-a)/(b-a)=1:=by
 have:b-a≠0:=by grind
 subst hs;grind
theorem aiS {a b s:Rat} (h:a<b) (hs:s=a):(s-a)/(b-a)=0:=by
 have:b-a≠0:=by grind
 subst hs;grind
theorem aBZ {d:Nat} {a t b s:Rat} (h1:1<=d) (h3:d<=3) (bV:a<t) (cu:a<b) {v:List Rat} (hv:v.length=d+2) :
  fE (1-(s-a)/(t-a)) ((s-a)/(t-a)) d (fun i=>da (bO d a t b) d d v (List.replicate (d-i) a++List.replicate i t))=da (bO d a t b) d d v (List.replicate d s):=by
 have hX:∀ i,i<=d->∀ r,r<d->((List.replicate (d-i) a++List.replicate i t).getD r 0-a)/(t-a)=(fun r=>if r<d-i then(0:Rat) else 1) r:=fun i hi r hr=>by
  rw [anK J]
  by_cases c:r<d-i
  ·simp only [if_pos c];exact aiS bV rfl
  ·simp only [if_neg c];exact abY bV rfl
 have hS:∀ r,r<d->((List.replicate d s).getD r 0-a)/(t-a)=(fun _=>(s-a)/(t-a)) r:=fun r hr=>by rw [yr hr]
 rw [ajp bV cu hS J]
 have e:∀ i,i<=d->da (bO d a t b) d d v (List.replicate (d-i) a++List.replicate i t)=(cr (qM ((t-a)/(b-a)) (fun r=>if r<d-i then(0:Rat) else 1)) (v.take (d+1)) d).getD d 0:=fun i hi=>ajp bV cu (hX i hi) J
 generalize (s-a)/(t-a)=x at *
 generalize (t-a)/(b-a)=q at *
 match d,h1,h3,v,hv with
 | 1,_,_,[v0,v1,v2],_ =>
  simp only [fE]
  rw [e 0 J,e 1 J]
  show (1-x)*(cr _ [v0,v1] 1).getD 1 0+x*(cr _ [v0,v1] 1).getD 1 0=(cr _ [v0,v1] 1).getD 1 0
  rw [aaq,aaq,aaq]
  simp [qM]
  grind
 | 2,_,_,[v0,v1,v2,v3],_ =>
  simp only [fE]
  rw [e 0 J,e 1 J,e 2 J]
  show (1-x)*((1-x)*(cr _ [v0,v1,v2] 2).getD 2 0+x*(cr _ [v0,v1,v2] 2).getD 2 0)+x*((1-x)*(cr _ [v0,v1,v2] 2).getD 2 0+x*(cr _ [v0,v1,v2] 2).getD 2 0)=(cr _ [v0,v1,v2] 2).getD 2 0
  rw [wg,wg,wg,wg]
  simp [qM]
  grind
 | 3,_,_,[v0,v1,v2,v3,v4],_ =>
  simp only [fE]
  rw [e 0 J,e 1 J,e 2 J,e 3 J]
  show (1-x)*((1-x)*((1-x)*(cr _ [v0,v1,v2,v3] 3).getD 3 0+x*(cr _ [v0,v1,v2,v3] 3).getD 3 0)+x*((1-x)*(cr _ [v0,v1,v2,v3] 3).getD 3 0+x*(cr _ [v0,v1,v2,v3] 3).getD 3 0))+x*((1-x)*((1-x)*(cr _ [v0,v1,v2,v3] 3).getD 3 0+x*(cr _ [v0,v1,v2,v3] 3).getD 3 0)+x*((1-x)*(cr _ [v0,v1,v2,v3] 3).getD 3 0+x*(cr _ [v0,v1,v2,v3] 3).getD 3 0))=(cr _ [v0,v1,v2,v3] 3).getD 3 0
  rw [tz,tz,tz,tz,tz]
  simp [qM]
  grind
theorem asc {d:Nat} {a t b s:Rat} (h1:1<=d) (h3:d<=3) (bV:a<t) (df:t<b) {v:List Rat} (hv:v.length=d+2) :
  fE (1-(s-t)/(b-t)) ((s-t)/(b-t)) d (fun i=>da (bO d a t b) d (if i=0 then d else d+1) v (List.replicate (d-i) t++List.replicate i b))=da (bO d a t b) d (d+1) v (List.replicate d s):=by
 have cu:a<b:=by grind
 have hX:∀ i,i<=d->∀ r,r<d->((List.replicate (d-i) t++List.replicate i b).getD r 0-t)/(b-t)=(fun r=>if r<d-i then(0:Rat) else 1) r:=fun i hi r hr=>by
  rw [anK J]
  by_cases c:r<d-i
  ·simp only [if_pos c];exact aiS df rfl
  ·simp only [if_neg c];exact abY df rfl
 have hS:∀ r,r<d->((List.replicate d s).getD r 0-t)/(b-t)=(fun _=>(s-t)/(b-t)) r:=fun r hr=>by rw [yr hr]
 rw [am7 df cu hS J]
 obtain⟨f,hf⟩:∃ f:Nat->Rat,f=fun i=>da (bO d a t b) d (if i=0 then d else d+1) v (List.replicate (d-i) t++List.replicate i b):=⟨_,rfl⟩
 rw [<-hf]
 have e0:f 0=(cr (qM ((t-a)/(b-a)) (fun _=>1)) (v.take (d+1)) d).getD d 0:=by
  rw [hf]
  show da (bO d a t b) d (if 0=0 then d else d+1) v _=_
  rw [if_pos rfl]
  exact ajp bV cu (fun r hr=>by rw [List.replicate_zero,List.append_nil,Nat.sub_zero,yr hr];exact abY bV rfl) J
 have e:∀ i,0<i->i<=d->f i=(cr (vm d ((t-a)/(b-a)) (fun r=>if r<d-i then(0:Rat) else 1)) ((v.drop 1).take (d+1)) d).getD d 0:=fun i h0 hi=>by
  rw [hf]
  show da (bO d a t b) d (if i=0 then d else d+1) v _=_
  rw [if_neg J]
  exact am7 df cu (hX i hi) J
 clear hf hX hS
 generalize (s-t)/(b-t)=x at *
 generalize (t-a)/(b-a)=q at *
 match d,h1,h3,v,hv with
 | 1,_,_,[v0,v1,v2],_ =>
  simp only [fE]
  rw [e0,e 1 J J]
  show (1-x)*(cr _ [v0,v1] 1).getD 1 0+x*(cr _ [v1,v2] 1).getD 1 0=(cr _ [v1,v2] 1).getD 1 0
  rw [aaq,aaq,aaq]
  simp [qM,vm]
  grind
 | 2,_,_,[v0,v1,v2,v3],_ =>
  simp only [fE]
  rw [e0,e 1 J J,e 2 J J]
  show (1-x)*((1-x)*(cr _ [v0,v1,v2] 2).getD 2 0+x*(cr _ [v1,v2,v3] 2).getD 2 0)+x*((1-x)*(cr _ [v1,v2,v3] 2).getD 2 0+x*(cr _ [v1,v2,v3] 2).getD 2 0)=(cr _ [v1,v2,v3] 2).getD 2 0
  rw [wg,wg,wg,wg]
  simp [qM,vm]
  grind
 | 3,_,_,[v0,v1,v2,v3,v4],_ =>
  simp only [fE]
  rw [e0,e 1 J J,e 2 J J,e 3 J J]
  show (1-x)*((1-x)*((1-x)*(cr _ [v0,v1,v2,v3] 3).getD 3 0+x*(cr _ [v1,v2,v3,v4] 3).getD 3 0)+x*((1-x)*(cr _ [v1,v2,v3,v4] 3).getD 3 0+x*(cr _ [v1,v2,v3,v4] 3).getD 3 0))+x*((1-x)*((1-x)*(cr _ [v1,v2,v3,v4] 3).getD 3 0+x*(cr _ [v1,v2,v3,v4] 3).getD 3 0)+x*((1-x)*(cr _ [v1,v2,v3,v4] 3).getD 3 0+x*(cr _ [v1,v2,v3,v4] 3).getD 3 0))=(cr _ [v1,v2,v3,v4] 3).getD 3 0
  rw [tz,tz,tz,tz,tz]
  simp [qM,vm]
  grind
theorem aie {f:Nat->Rat} {n i:Nat} (h:i<n):((List.range n).map f).getD i 0=f i:=by
 rw [List.getD_eq_getElem?_getD,List.getElem?_map,List.getElem?_range h];rfl
theorem afo {d:Nat} {a t b s:Rat} (h1:1<=d) (h3:d<=3) (bV:a<t) (cu:a<b) {v:List Rat} (hv:v.length=d+2) :
  cN ((List.range (d+1)).map fun i=>da (bO d a t b) d d v (List.replicate (d-i) a++List.replicate i t)) ((s-a)/(t-a))=da (bO d a t b) d d v (List.replicate d s):=by
 rw [sN aO,List.length_map,List.length_range,Nat.add_sub_cancel,<-aBZ h1 h3 bV cu hv]
 exact qm _ _ _ _ _ fun i hi=>aie J
theorem ad6 {d:Nat} {a t b s:Rat} (h1:1<=d) (h3:d<=3) (bV:a<t) (df:t<b) {v:List Rat} (hv:v.length=d+2) :
  cN ((List.range (d+1)).map fun i=>da (bO d a t b) d (if i=0 then d else d+1) v (List.replicate (d-i) t++List.replicate i b)) ((s-t)/(b-t))=da (bO d a t b) d (d+1) v (List.replicate d s):=by
 rw [sN aO,List.length_map,List.length_range,Nat.add_sub_cancel,<-asc h1 h3 bV df hv]
 exact qm _ _ _ _ _ fun i hi=>aie J
theorem acE {d:Nat} {a b s:Rat} (h1:1<=d) (h3:d<=3) (cu:a<b) {v:List Rat} (hv:v.length=d+1):da (bl d a b) d d v (List.replicate d s)=cN v ((s-a)/(b-a)):=by
 have e:da (bl d a b) d d v (List.replicate d s)=(cr (fun _ _=>(s-a)/(b-a)) v d).getD d 0:=by
  unfold da
  rw [Nat.sub_self,List.drop_zero,List.take_of_length_le J,agf d fun r j g1 g2 g3=>?_]
  unfold gF
  rw [yr g1,fR _ _ _ _ J,fR _ _ _ _ J,if_pos J,if_neg J]
 rw [e,sN J,hv,Nat.add_sub_cancel]
 generalize (s-a)/(b-a)=x at *
 match d,h1,h3,v,hv with
 | 1,_,_,[v0,v1],_ =>
  rw [aaq]
  show _=(1-x)*v0+x*v1
  grind
 | 2,_,_,[v0,v1,v2],_ =>
  rw [wg]
  show _=(1-x)*((1-x)*v0+x*v1)+x*((1-x)*v1+x*v2)
  grind
 | 3,_,_,[v0,v1,v2,v3],_ =>
  rw [tz]
  show _=(1-x)*((1-x)*((1-x)*v0+x*v1)+x*((1-x)*v1+x*v2))+x*((1-x)*((1-x)*v1+x*v2)+x*((1-x)*v2+x*v3))
  grind
def uH (k:List Rat) (d pc:Nat) (po:List aF) (s:Rat):V3:=jb (1/da k d pc (aX po) (List.replicate d s)) ⟨da k d pc (bj po 0) (List.replicate d s),da k d pc (bj po 1) (List.replicate d s),da k d pc (bj po 2) (List.replicate d s)⟩
theorem adF {C:List Q4} (h:∀ q∈C,0<q.w):bj (C.map dX) 0=C.map (·.x)/\bj (C.map dX) 1=C.map (·.y)/\bj (C.map dX) 2=C.map (·.z)/\aX (C.map dX)=C.map (·.w):=by
 have g:∀ q∈C,∀ y:Rat,q.w*(y/q.w)=y:=fun q hq y=>by
  have:=h q hq
  rw [Rat.mul_comm];exact Rat.div_mul_cancel cA
 unfold bj aX
 simp only [List.map_map]
 refine⟨?_,?_,?_,?_⟩
 ·exact List.map_congr_left fun q hq=>g q hq q.x
 ·exact List.map_congr_left fun q hq=>g q hq q.y
 ·exact List.map_congr_left fun q hq=>g q hq q.z
 ·exact List.map_congr_left fun q hq=>rfl
theorem afU (po:List aF):(po.map cS).map (·.x)=bj po 0/\(po.map cS).map (·.y)=bj po 1/\(po.map cS).map (·.z)=bj po 2/\(po.map cS).map (·.w)=aX po:=by
 unfold bj aX
 simp only [List.map_map]
 exact⟨rfl,rfl,rfl,rfl⟩
theorem aeL {d:Nat} {a t b:Rat} {po:List aF} (h:∀ q∈ks d a t b (po.map cS),0<q.w):∀ k,bj ((ks d a t b (po.map cS)).map dX) k=(List.range (d+1)).map fun j=>da (bO d a t b) d d (bj po k) (List.replicate (d-j) a++List.replicate j t):=fun k=>by
 obtain⟨n0,n1,n2,_⟩:=adF h
 obtain⟨m0,m1,m2,_⟩:=afU po
 match k with
 | 0=>rw [n0,<-m0];unfold ks;rw [List.map_map];rfl
 | 1=>rw [n1,<-m1];unfold ks;rw [List.map_map];rfl
 | k+2 =>
  show bj ((ks d a t b (po.map cS)).map dX) 2=(List.range (d+1)).map fun j=>da (bO d a t b) d d (bj po 2) (List.replicate (d-j) a++List.replicate j t)
  rw [n2,<-m2];unfold ks;rw [List.map_map];rfl
theorem arZ {d:Nat} {a t b:Rat} {po:List aF} (h:∀ q∈ks d a t b (po.map cS),0<q.w):aX ((ks d a t b (po.map cS)).map dX)=(List.range (d+1)).map fun j=>da (bO d a t b) d d (aX po) (List.replicate (d-j) a++List.replicate j t):=by
 rw [(adF h).2.2.2,<-(afU po).2.2.2];unfold ks;rw [List.map_map];rfl
theorem afw {d:Nat} {a t b:Rat} {po:List aF} (h:∀ q∈jY d a t b (po.map cS),0<q.w):∀ k,bj ((jY d a t b (po.map cS)).map dX) k=(List.range (d+1)).map fun j=>da (bO d a t b) d (if j=0 then d else d+1) (bj po k) (List.replicate (d-j) t++List.replicate j b):=fun k=>by
 obtain⟨n0,n1,n2,_⟩:=adF h
 obtain⟨m0,m1,m2,_⟩:=afU po
 match k with
 | 0=>rw [n0,<-m0];unfold jY;rw [List.map_map];rfl
 | 1=>rw [n1,<-m1];unfold jY;rw [List.map_map];rfl
 | k+2 =>
  show bj ((jY d a t b (po.map cS)).map dX) 2=(List.range (d+1)).map fun j=>da (bO d a t b) d (if j=0 then d else d+1) (bj po 2) (List.replicate (d-j) t++List.replicate j b)
  rw [n2,<-m2];unfold jY;rw [List.map_map];rfl
theorem aqR {d:Nat} {a t b:Rat} {po:List aF} (h:∀ q∈jY d a t b (po.map cS),0<q.w):aX ((jY d a t b (po.map cS)).map dX)=(List.range (d+1)).map fun j=>da (bO d a t b) d (if j=0 then d else d+1) (aX po) (List.replicate (d-j) t++List.replicate j b):=by
 rw [(adF h).2.2.2,<-(afU po).2.2.2];unfold jY;rw [List.map_map];rfl
theorem axA {d:Nat} {a t b s:Rat} {po:List aF} (h1:1<=d) (h3:d<=3) (bV:a<t) (cu:a<b) (hl:po.length=d+2) (h:∀ q∈ks d a t b (po.map cS),0<q.w):mW ((ks d a t b (po.map cS)).map dX) ((s-a)/(t-a))=uH (bO d a t b) d d po s:=by
 unfold mW uH
 rw [aeL h,aeL h,aeL h,arZ h,afo h1 h3 bV cu oz,afo h1 h3 bV cu oz,afo h1 h3 bV cu oz,afo h1 h3 bV cu oz]
theorem av4 {d:Nat} {a t b s:Rat} {po:List aF} (h1:1<=d) (h3:d<=3) (bV:a<t) (df:t<b) (hl:po.length=d+2) (h:∀ q∈jY d a t b (po.map cS),0<q.w):mW ((jY d a t b (po.map cS)).map dX) ((s-t)/(b-t))=uH (bO d a t b) d (d+1) po s:=by
 unfold mW uH
 rw [afw h,afw h,afw h,aqR h,ad6 h1 h3 bV df oz,ad6 h1 h3 bV df oz,ad6 h1 h3 bV df oz,ad6 h1 h3 bV df oz]
theorem aCs {d:Nat} {a b s:Rat} {po:List aF} (h1:1<=d) (h3:d<=3) (cu:a<b) (hl:po.length=d+1):uH (bl d a b) d d po s=mW po ((s-a)/(b-a)):=by
 unfold mW uH
 rw [acE h1 h3 cu oz,acE h1 h3 cu oz,acE h1 h3 cu oz,acE h1 h3 cu oz]
structure jI (po:List aF) (D N:Nat):Prop where
 D0:0<D
 n:∀ k,∀ x∈bj po k,cj D N x
 w:∀ x∈aX po,cj D N x
 p:∀ q∈po,0<q.w
theorem jI.okR {po:List aF} {D N k:Nat} (h:jI po D N) (hN:N<4294967296 ^ k) (hD:D<4294967296 ^ k) (hk:1<=k):∀ q∈po,ow k q:=fun q hq=>by
 have hp:=h.p q hq
 have hw:=h.w _ (List.mem_map.2 ⟨q,hq,rfl⟩)
 have g:∀ j,rl (q.p.at j)<=k:=fun j=>by
  have:=(h.n j _ (List.mem_map.2 ⟨q,hq,rfl⟩)).div hw h.D0 hN hk
  rwa [Rat.mul_comm,Rat.mul_div_cancel cA] at this
 exact⟨⟨g 0,g 1,g 2⟩,hw.rl h.D0 hN hD hk,hp⟩
theorem jI.cvK {po:List aF} {d D N:Nat} (h:jI po D N) (hl:po.length=d+1):cvC po d D N:=⟨fun k i hi=>h.n k _ (dg (by rw [n9];omega)),fun i hi=>h.w _ (dg (by rw [mD];omega))⟩
theorem ags (E:Nat):uQ E 0:=⟨0,E,by rw [Rat.zero_mul];rfl,by rw [show (1:Rat)-0=1 by decide +kernel,Rat.one_mul]⟩
theorem aiX (E:Nat):uQ E 1:=⟨E,0,by rw [Rat.one_mul],by rw [show (1:Rat)-1=0 by decide +kernel,Rat.zero_mul];rfl⟩
theorem akR {E:Nat} {q:Rat} (h:uQ E q) {X:Nat->Rat} {r:Nat} (hX:X r=0\/X r=1) (j:Nat):uQ E (qM q X r j):=by
 unfold qM
 rcases hX with e | e<;>rw [e]
 ·split
  ·exact ags E
  ·rw [Rat.zero_mul];exact ags E
 ·split
  ·exact aiX E
  ·rw [Rat.one_mul];exact h
theorem awM {E d:Nat} {q:Rat} (h:uQ E q) {X:Nat->Rat} {r:Nat} (hX:X r=0\/X r=1) (j:Nat):uQ E (vm d q X r j):=by
 unfold vm
 rcases hX with e | e<;>rw [e]
 ·split
  ·exact ags E
  ·rw [Rat.zero_mul,Rat.add_zero];exact h
 ·split
  ·exact aiX E
  ·rw [Rat.one_mul,show q+(1-q)=1 by grind];exact aiX E
theorem al8 {n m r:Nat} {x y:Rat} (hxy:x<y) (h:r<n+m):((List.replicate n x++List.replicate m y).getD r 0-x)/(y-x)=0\/((List.replicate n x++List.replicate m y).getD r 0-x)/(y-x)=1:=by
 rcases afJ h with e | e<;>rw [e]
 ·exact .inl (aiS hxy rfl)
 ·exact .inr (abY hxy rfl)
theorem alv {d:Nat} {a t b:Rat} {po:List aF} {D N E:Nat} (bV:a<t) (df:t<b) (hl:po.length=d+2) (h:jI po D N) (hE0:0<E) (hE:uQ E ((t-a)/(b-a))):jI ((ks d a t b (po.map cS)).map dX) (D*E ^ d) (N*E ^ d):=by
 have cu:a<b:=by grind
 have hw:∀ q∈ks d a t b (po.map cS),0<q.w:=aiY bV df (by rw [List.length_map,hl]) fun q hq=>by
  obtain⟨z,hz,rfl⟩:=List.mem_map.1 hq;exact h.p z hz
 have g:∀ v:List Rat,v.length=d+2->(∀ x∈v,cj D N x)->∀ x∈((List.range (d+1)).map fun j=>da (bO d a t b) d d v (List.replicate (d-j) a++List.replicate j t)),cj (D*E ^ d) (N*E ^ d) x:=fun v hv hc x hx=>by
  obtain⟨j,hj,rfl⟩:=List.mem_map.1 hx
  have hj:=List.mem_range.1 hj
  refine aiD hc J (Nat.le_refl _) fun r i h1 h2 h3=>?_
  rw [ajo bV cu h1 h2 h3]
  exact akR hE (al8 bV J) _
 refine⟨Nat.mul_pos h.D0 (Nat.pow_pos hE0),fun k=>?_,?_,fun q hq=>?_⟩
 ·rw [aeL hw];exact g _ oz (h.n k)
 ·rw [arZ hw];exact g _ oz h.w
 ·obtain⟨z,hz,rfl⟩:=List.mem_map.1 hq;exact hw z hz
theorem alL {d:Nat} {a t b:Rat} {po:List aF} {D N E:Nat} (bV:a<t) (df:t<b) (hl:po.length=d+2) (h:jI po D N) (hE0:0<E) (hE:uQ E ((t-a)/(b-a))):jI ((jY d a t b (po.map cS)).map dX) (D*E ^ d) (N*E ^ d):=by
 have cu:a<b:=by grind
 have hw:∀ q∈jY d a t b (po.map cS),0<q.w:=ago bV df (by rw [List.length_map,hl]) fun q hq=>by
  obtain⟨z,hz,rfl⟩:=List.mem_map.1 hq;exact h.p z hz
 have g:∀ v:List Rat,v.length=d+2->(∀ x∈v,cj D N x)->∀ x∈((List.range (d+1)).map fun j=>da (bO d a t b) d (if j=0 then d else d+1) v (List.replicate (d-j) t++List.replicate j b)),cj (D*E ^ d) (N*E ^ d) x:=fun v hv hc x hx=>by
  obtain⟨j,hj,rfl⟩:=List.mem_map.1 hx
  have hj:=List.mem_range.1 hj
  by_cases c:j=0
  ·rw [if_pos c]
   refine aiD hc J (Nat.le_refl _) fun r i h1 h2 h3=>?_
   rw [ajo bV cu h1 h2 h3]
   refine akR hE (.inr ?_) _
   subst c
   rw [List.replicate_zero,List.append_nil,Nat.sub_zero]
   show ((List.replicate d t).getD r 0-a)/(t-a)=1
   rw [yr h1];exact abY bV rfl
  ·rw [if_neg c]
   refine aiD hc J J fun r i h1 h2 h3=>?_
   rw [amA df cu h1 h2 h3]
   exact awM hE (al8 df J) _
 refine⟨Nat.mul_pos h.D0 (Nat.pow_pos hE0),fun k=>?_,?_,fun q hq=>?_⟩
 ·rw [afw hw];exact g _ oz (h.n k)
 ·rw [aqR hw];exact g _ oz h.w
 ·obtain⟨z,hz,rfl⟩:=List.mem_map.1 hq;exact hw z hz
theorem aCV {d D N Dp:Nat} {a b:Rat} {po:List aF} (h1:1<=d) (h3:d<=3) (cu:a<b) (ha:rl a<=30) (hb:rl b<=30) (hl:po.length=d+1) (h:jI po D N) (hN:N<4294967296 ^ 80) (hD:D<4294967296 ^ 80) (hDp:Dp<=24):xh ⟨d,a,b,po⟩ Dp D N:=by
 have hp:(2 ^ Dp) ^ d<=4294967296 ^ 3:=by
  have e1:(2 ^ Dp) ^ d<=(2 ^ 32) ^ d:=Nat.pow_le_pow_left (Nat.pow_le_pow_right ai J) d
  have e2:(2 ^ 32) ^ d<=(2 ^ 32) ^ 3:=Nat.pow_le_pow_right ai h3
  exact Nat.le_trans e1 e2
 have g:∀ n,n<4294967296 ^ 80->n*(2 ^ Dp) ^ d<4294967296 ^ 100:=fun n hn=>by
  have e1:n*(2 ^ Dp) ^ d<=4294967296 ^ 80*4294967296 ^ 3:=Nat.mul_le_mul (Nat.le_of_lt hn) hp
  refine Nat.lt_of_le_of_lt e1 ?_
  rw [<-Nat.pow_add]
  exact Nat.pow_lt_pow_right ai ai
 refine⟨h3,cu,ha,hb,⟨hl,h1,by show d<=6;omega,fun q hq=>?_⟩,h.cvK hl,h.D0,g N hN,g D hD⟩
 have:=h.okR hN hD ai q hq
 exact⟨this.1.le ai,Nat.le_trans this.2.1 ai,this.2.2⟩
end Go.Proofs.YtckppbhafancnaaGreat
end
