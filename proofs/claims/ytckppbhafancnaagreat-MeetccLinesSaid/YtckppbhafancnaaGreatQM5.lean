/- Texts R5, B1, M1, R6, B2, C1, C2, D1, E1, E3, K1, K4, H1, V1, H2, C3, TW, K3, E2, S1, K5, K8, K9, K13, K2, K10, K7, K11, K14, K16, P4, K18, P5, K20, K21, A3 of this proof, joined. -/
import Derived.Test.YtckppbhafancnaaGreatQM4
set_option linter.unusedVariables false
set_option linter.unusedSimpArgs false
section
set_option linter.unusedVariables false
set_option linter.unusedSimpArgs false
set_option maxHeartbeats 8000000
set_option maxRecDepth 100000
attribute [local irreducible] Go.Lg.opsL Go.Lg.wpL Go.Lg.thenL Go.Lg.blockL
namespace Go.Proofs.YtckppbhafancnaaGreat
open Go.Lg
section
variable {q a b:Rat}
theorem aHn:(-q<0)↔0<q:=by grind
theorem aDu {n:Nat}:0<(aZ n).length↔0<n:=by
 constructor
 ·intro h;exact Nat.pos_of_ne_zero (fun e=>by rw [e,hY] at h;cases h)
 ·intro h;exact List.length_pos_iff.2 (fun e=>by have:=eE.1 e;omega)
theorem aHK:0<q↔0<q.num:=by rw [Rat.lt_iff];simp
theorem aHI (h:(!decide (q<0))=true):decide (((aZ q.num.natAbs).length:Int) > 0)=decide (-q<0):=by
 rw [decide_eq_decide,aHn,aHK]
 have h1:¬ q<0:=by simpa using h
 rw [uF] at h1
 have:=aDu (n:=q.num.natAbs)
 omega
theorem aHC (h:(!decide (q<0))=false):false=decide (-q<0):=by
 have h1:q<0:=by simpa using h
 symm;rw [decide_eq_false_iff_not];grind
theorem aDZ (s:Bool) (h:s=decide (-q<0)):ratL (-q)=.agg [.v (.bool s),bQ q.num.natAbs,bQ (jL q)]:=by
 rw [iV,h,jH,jH,Rat.neg_num,Int.natAbs_neg,Rat.neg_den]
theorem aBm:a=b↔decide (a<0)=decide (b<0)∧a.num.natAbs=b.num.natAbs∧jL a=jL b:=by
 constructor
 ·rintro rfl;exact⟨rfl,rfl,rfl⟩
 ·rintro⟨h1,h2,h3⟩
  have hd:a.den=b.den:=vB (by rw [h3])
  rw [←eU a,←eU b,h1,h2,hd]
theorem aLI (h:(decide (a<0)==decide (b<0))=false):false=decide (a=b):=by
 symm;rw [decide_eq_false_iff_not,aBm];intro h2;rw [h2.1] at h;simp at h
end
end Go.Proofs.YtckppbhafancnaaGreat
namespace Go.Lg
open Go.Proofs.YtckppbhafancnaaGreat in
theorem OpT.stNegR {P:Program} {L:St} {dst:Option Nat} {T:TypeId} {p x:Operand} {b:Nat} {q:Rat} {s:Bool} (hp:L.ev p=.eptr b 3 0 0) (hb:L.heap b=some ⟨3,[ratL q],true⟩) (hx:L.ev x=.v (.bool s)) (hT:bT P T 1 false)
  (hs:s=decide (-q<0)):OpT P L dst (.store T p x) ((L.setB b (some ⟨3,[ratL (-q)],true⟩)).put dst .any):=by
 have h0:LV.put (ratL q) 0 (L.ev x)=some (ratL (-q)):=by
  rw [hx,aDZ s hs,iV q]
  have e1:∀ n,(bQ n).csize=1:=fun _=>rfl
  simp [LV.put,pO,aL,LV.csize,LV.isAgg]
 exact OpT.store (P:=P) (dst:=dst) (T:=T) (p:=p) (x:=x) (y:=ratL q) (y':=ratL (-q)) hp hb rfl rfl rfl (aD.csize _) h0 (by rw [hx];exact hT) (by rw [hx];exact⟨(fun h=>by cases h),(fun _ h=>by cases h)⟩)
end Go.Lg
namespace Go.Proofs.YtckppbhafancnaaGreat
open Go.Lg
theorem aGj {n:Int} (h1:-9223372036854775808≤n) (h2:n<0):IntKind.i64.wrap (0-(n+1))=(((-(n+1)).toNat:Nat):Int):=by
 rw [IntWalk.i64_in _ (by omega)];omega
open H0 in
theorem sB (q:Rat):aN Tryz.prog 137 [ratL q] (bQ q.den):=by
 refine dJ Tryz.func137 ?_
 refine iR ?_
 refine aQ rfl (fun h6r h6=>?_) (fun h6r h6=>?_)
 ·have hd1:=r7 (show (aZ (jL q)).length=0 by omega)
  refine eI ?_
  rw [hd1,show bQ 1=.list 1 ([1].map bX) from rfl]
  exact jV [7] rfl rfl (cC cV rfl rfl rfl)
 ·have hd1:=qX (q:=q) (by omega)
  refine cG ?_
  rw [←hd1]
  exact b8 rfl (by first | exact .pure rfl | exact .pure (bF _) | exact .pure (aR _) | exact .pure (aD.pure _) | exact .pure (aJ cV _ _) | exact .pure (aJ aD _ _))
namespace Zq31
theorem cK {p q:Prop} (k:q) (e:p=q:=by simp only [e1,e2,e3,e4,p1,p2,p3,q1,q2,q3,l1,t0,t1,r1,r2,r3,r4,Nat.zero_add,Nat.reduceMul,Nat.reduceAdd,b1,b2,b3,b4,b5,b6,i1,i2,i3,i4,i5,i6,Nat.reduceBEq,eQ,aX,tz0];exact rfl):p:=e.mpr k
end Zq31
open Zq31 in
theorem mO (s:Bool) (m n:Nat) (hla:(aZ m).length≤68719476736) (hlb:(aZ n).length≤68719476736) (hn0:0<n):aN Tryz.prog 138 [bL s,bQ m,bQ n] (ratL (qv s m n)):=by
 refine dJ Tryz.func138 ?_
 refine eI ?_
 refine cp cS (iU _ (aW _) (by omega)) ?_
 refine bD ?_
 refine cp cS (iU _ (aW _) (by omega)) ?_
 refine cH ?_
 refine aQ rfl (fun h14r h14=>?_) (fun h14r h14=>?_)
 ·have hm:m=0:=eE.1 (List.eq_nil_of_length_eq_zero (by omega))
  refine eI ?_
  rw [hm,rF,fD]
  exact dE [] rfl rfl rfl rfl rfl dD (.pure rfl)
 ·have hm0:0<m:=aDu.1 (by omega)
  have hg:0<Nat.gcd m n:=Nat.gcd_pos_of_pos_left _ hm0
  have hE:=rO s hm0 hn0
  have hgl:(aZ (Nat.gcd m n)).length≤68719476736:=Nat.le_trans (cP (Nat.le_of_dvd hm0 (Nat.gcd_dvd_left _ _))) hla
  have hqa:(aZ (m/Nat.gcd m n)).length≤68719476736:=Nat.le_trans (cP (Nat.div_le_self _ _)) hla
  have hqb:(aZ (n/Nat.gcd m n)).length≤68719476736:=Nat.le_trans (cP (Nat.div_le_self _ _)) hlb
  have hg1l:=lW (n:=Nat.gcd m n)
  refine bY ?_
  refine cp bI (aKw _ _ (by omega) (by omega)) ?_
  refine dX ?_
  refine eH (fun L=>∃ (t:Bool) (L1:St),(t=decide (Nat.gcd m n≠1))∧L=(((((((St.mk L1.slot (hp [(6,⟨3,[.agg [.v (.bool false),.list 1 [],.list 1 []]],true⟩)])).put (some 0) (bL s)).put (some 1) (bQ m)).put (some 2) (bQ n)).put (some 6) (.eptr 6 3 0 0)).put (some 7) (bQ (Nat.gcd m n))).put (some 27) (bL t))) ?_ ?_
  ·refine dX ?_
   refine eD 22 rfl (fun h22r h22=>?_) (fun h22r h22=>?_)
   ·refine dP ?_
    exact⟨true,_,by symm;rw [decide_eq_true_iff];intro e;rw [e,uI] at h22;exact h22 rfl,((aA (aA (aA (aA (aA (aA (bB cl) cl) cl) cl) cl) cl) cl)).symm⟩
   ·refine dP ?_
    exact⟨(((aZ (Nat.gcd m n)).getD 0 0:Int) != 1),_,by have:=(hg1l (by omega)).1;rw [Bool.eq_iff_iff,bne_iff_ne,decide_eq_true_iff];omega,((aA (aA (aA (aA (aA (aA (bB cl) cl) cl) cl) cl) cl) cl)).symm⟩
  ·rintro _ ⟨t,LR5,ht,rfl⟩
   refine bD ?_
   refine eH (fun L=>∃ (x:Nat) (y:Nat) (L1:St),(x=m/Nat.gcd m n∧y=n/Nat.gcd m n)∧L=(((((St.mk L1.slot (hp [(6,⟨3,[.agg [.v (.bool false),.list 1 [],.list 1 []]],true⟩)])).put (some 0) (bL s)).put (some 1) (bQ x)).put (some 2) (bQ y)).put (some 6) (.eptr 6 3 0 0))) ?_ ?_
   ·refine aQ rfl (fun h27r h27=>?_) (fun h27r h27=>?_)
    ·refine cB ?_
     refine cp bI (aCr _ _ (by omega) (by omega) hg) ?_
     refine cG ?_
     refine cp bI (aCr _ _ (by omega) (by omega) hg) ?_
     refine dP ?_
     exact⟨m/Nat.gcd m n,n/Nat.gcd m n,_,⟨rfl,rfl⟩,((aA (aA (aA (aA (bB cl) cl) cl) cl) cl)).symm⟩
    ·have hg1:Nat.gcd m n=1:=by rw [ht,decide_eq_false_iff_not] at h27r;omega
     refine cU ?_
     exact⟨m,n,_,⟨by rw [hg1,Nat.div_one],by rw [hg1,Nat.div_one]⟩,((aA (aA (aA (aA (bB cl) cl) cl) cl) cl)).symm⟩
   ·rintro _ ⟨x,y,LC27,⟨hx,hy⟩,rfl⟩
    rw [←hx,←hy] at hE
    have hy0:0<y:=by rw [hy];exact Nat.div_pos (Nat.le_of_dvd hn0 (Nat.gcd_dvd_right _ _)) hg
    refine eI ?_
    refine eD 45 rfl (fun h45r h45=>?_) (fun h45r h45=>?_)
    ·refine dP ?_
     refine aQ rfl (fun h50r h50=>?_) (fun h50r h50=>?_)
     ·have hy1:y=1:=by have:=(lW (n:=y) (by omega)).1;omega
      refine eX ?_
      rw [hE,if_pos hy1]
      exact dE [] rfl rfl rfl rfl rfl dD (.agg (.cons (.pure rfl) (.cons (.pure (aR _)) (.cons (.nil 1) .nil))))
     ·have hy1:y≠1:=by have:=(lW (n:=y) (by omega)).1;omega
      refine cH ?_
      rw [hE,if_neg hy1]
      exact dE [] rfl rfl rfl rfl rfl dD (.agg (.cons (.pure rfl) (.cons (.pure (aR _)) (.cons (.pure (aR _)) .nil))))
    ·have hy1:y≠1:=fun e=>by rw [e,uI] at h45;exact h45 rfl
     refine nH ?_
     rw [hE,if_neg hy1]
     exact dE [] rfl rfl rfl rfl rfl dD (.agg (.cons (.pure rfl) (.cons (.pure (aR _)) (.cons (.pure (aR _)) .nil))))
open H0 in
theorem aAe (n:Int) (h1:-9223372036854775808≤n) (h2:n≤9223372036854775807):aN Tryz.prog 36 [iL n] (.tup [bQ n.natAbs,bL (decide (n<0))]):=by
 refine dJ Tryz.func36 ?_
 refine fI ?_
 refine aQ rfl (fun h5r h5=>?_) (fun h5r h5=>?_)
 ·refine cB ?_
  refine aB rfl (.neg rfl) ?_
  refine aB rfl (.cv64 (n:=(-(n+1)).toNat) Tryz.underlying2 Tryz.underlying134 (by simp only [e1,p1,p2,Nat.reduceBEq];rw [aGj h1 h5]) (by omega)) ?_
  refine aB rfl (.bin rfl rfl (aLK (show (-(n+1)).toNat+1<18446744073709551616 by omega))) ?_
  refine cp cS (vW ((-(n+1)).toNat+1) (by omega)) ?_
  refine bY ?_
  rw [decide_eq_true h5,show n.natAbs=(-(n+1)).toNat+1 by omega]
  exact pM rfl (.pure (aR _)) rfl (.pure rfl)
 ·refine dX ?_
  refine aB rfl (.cv64 (n:=n.natAbs) Tryz.underlying2 Tryz.underlying134 (by simp only [e1,p1,p2,Nat.reduceBEq];rw [show ((n.natAbs:Nat):Int)=n by omega];rfl) (by omega)) ?_
  refine cp cS (vW n.natAbs (by omega)) ?_
  refine dX ?_
  rw [decide_eq_false h5]
  exact pM rfl (.pure (aR _)) rfl (.pure rfl)
open H0 in
theorem aIq (n d:Int) (h1:-9223372036854775808≤n) (h2:n≤9223372036854775807) (h3:-9223372036854775808≤d) (h4:d≤9223372036854775807) (hd:d≠0):aN Tryz.prog 78 [iL n,iL d] (.tup [ratL ((n:Rat)/(d:Rat)),iL 0]):=by
 refine dJ Tryz.func78 ?_
 refine fI ?_
 refine aQ rfl (fun h11r h11=>?_) (fun h11r h11=>?_)
 ·exact absurd h11 hd
 ·refine dX ?_
  refine cp cS (aAe _ (by omega) (by omega)) ?_
  refine cG ?_
  refine cp cS (aAe _ (by omega) (by omega)) ?_
  refine eX ?_
  refine cp nK (mO (decide (n<0) != decide (d<0)) n.natAbs d.natAbs (Nat.le_trans (f5.2 (by omega)) (by omega)) (Nat.le_trans (f5.2 (by omega)) (by omega)) (by omega)) ?_
  refine dX ?_
  rw [←yF]
  exact nL [] rfl rfl rfl (aD.csize _) (aH _) dD (.pure (aD.pure _)) rfl (.pure rfl)
open H0 in
theorem aHt (n d:Int) (h1:-9223372036854775808≤n) (h2:n≤9223372036854775807) (h3:-9223372036854775808≤d) (h4:d≤9223372036854775807) (hd:d≠0):aN Tryz.prog 35 [iL n,iL d] (ratL ((n:Rat)/(d:Rat))):=by
 refine dJ Tryz.func35 ?_
 refine eP ?_
 refine cp bI (aIq _ _ (by omega) (by omega) (by omega) (by omega) (by omega)) ?_
 refine iR ?_
 exact dE [] rfl rfl rfl (aD.csize _) (aH _) dD (.pure (aD.pure _))
open H0 in
theorem u6 (n:Int) (h1:-9223372036854775808≤n) (h2:n≤9223372036854775807):aN Tryz.prog 13 [iL n] (ratL (n:Rat)):=by
 refine dJ Tryz.func13 ?_
 refine eI ?_
 refine cp cS (aAe _ (by omega) (by omega)) ?_
 refine n8 ?_
 rw [←u7 n]
 have hz:n.natAbs=0∨0<n.natAbs:=by omega
 rcases hz with hz | hz
 ·obtain rfl:n=0:=by omega
  rw [show qv (decide ((0:Int)<0)) (0:Int).natAbs 1=0 from rF _ _,fD]
  exact dE [] rfl rfl rfl rfl rfl dD (.pure rfl)
 ·rw [rO _ hz (by omega),Nat.gcd_one_right,Nat.div_one,if_pos (by omega)]
  exact dE [] rfl rfl rfl rfl rfl dD (.agg (.cons (.pure rfl) (.cons (.pure (aR _)) (.cons (.pure rfl) .nil))))
open H0 in
theorem aIl (q:Rat):aN Tryz.prog 70 [ratL q] (iL (dM q)):=by
 have hq:=aCQ q
 refine dJ Tryz.func70 ?_
 refine iR ?_
 refine aQ rfl (fun h6r h6=>?_) (fun h6r h6=>?_)
 ·have hz:q.num.natAbs=0:=eE.1 (List.eq_nil_of_length_eq_zero (by omega))
  refine dP ?_
  rw [hq,if_pos hz]
  exact b8 rfl (by first | exact .pure rfl | exact .pure (bF _) | exact .pure (aR _) | exact .pure (aD.pure _) | exact .pure (aJ cV _ _) | exact .pure (aJ aD _ _))
 ·have hz:q.num.natAbs≠0:=fun e=>by rw [e,hY] at h6;exact h6 rfl
  refine eP ?_
  refine aQ rfl (fun h8r h8=>?_) (fun h8r h8=>?_)
  ·refine dP ?_
   rw [hq,if_neg hz,if_pos h8]
   exact b8 rfl (by first | exact .pure rfl | exact .pure (bF _) | exact .pure (aR _) | exact .pure (aD.pure _) | exact .pure (aJ cV _ _) | exact .pure (aJ aD _ _))
  ·refine eI ?_
   rw [hq,if_neg hz,if_neg h8]
   exact b8 rfl (by first | exact .pure rfl | exact .pure (bF _) | exact .pure (aR _) | exact .pure (aD.pure _) | exact .pure (aJ cV _ _) | exact .pure (aJ aD _ _))
open H0 in
theorem aJx (q:Rat):aN Tryz.prog 129 [ratL q] (ratL (-q)):=by
 refine dJ Tryz.func129 ?_
 refine cH ?_
 refine eD 6 rfl (fun h6r h6=>?_) (fun h6r h6=>?_)
 ·refine bY ?_
  refine bC rfl (.stNegR rfl rfl rfl T4 (by first | exact aHI h6r | exact aHC h6r)) ?_
  refine eP ?_
  exact dE [] rfl rfl rfl (aD.csize _) (aH _) dD (.pure (aD.pure _))
 ·refine bY ?_
  refine bC rfl (.stNegR rfl rfl rfl T4 (by first | exact aHI h6r | exact aHC h6r)) ?_
  refine eP ?_
  exact dE [] rfl rfl rfl (aD.csize _) (aH _) dD (.pure (aD.pure _))
open H0 in
theorem pA (a b:Rat) (h:rl a+rl b≤34359738368):aN Tryz.prog 60 [ratL a,ratL b] (ratL (a*b)):=by
 have a1:=gX a
 have a2:=iM a
 have a3:=gD a
 have c1:=gX b
 have c2:=iM b
 have c3:=gD b
 have a0:=a.den_pos
 have c0:=b.den_pos
 have m1:=cO a1 c2
 have m2:=cO c1 a2
 have m3:=cO a2 c2
 have m4:=cO a1 c1
 have m5:=cO a2 c1
 have m6:=cO c2 a2
 have np:=Nat.mul_pos a0 c0
 have hE:=zN (decide (a<0)) (decide (b<0)) a.num.natAbs a.den b.num.natAbs b.den
 rw [eU,eU] at hE
 refine dJ Tryz.func60 ?_
 refine eI ?_
 refine aP 16 (by decide +kernel) ?_
 refine eP ?_
 refine cp bI (sG _ _ (by omega) (by omega)) ?_
 refine bD ?_
 refine cp cS (sB _) ?_
 refine bD ?_
 refine cp cS (sB _) ?_
 refine cp bI (sG _ _ (by omega) (by omega)) ?_
 refine cp nK (mO _ _ _ (by omega) (by omega) np) ?_
 refine cB ?_
 rw [hE]
 exact dE [] rfl rfl rfl (aD.csize _) (aH _) dD (.pure (aD.pure _))
namespace Zq24
theorem cK {p q:Prop} (k:q) (e:p=q:=by simp only [e1,e2,e3,e4,p1,p2,p3,q1,q2,q3,l1,t0,t1,r1,r2,r3,r4,Nat.zero_add,Nat.reduceMul,Nat.reduceAdd,b1,b2,b3,b4,b5,b6,i1,i2,i3,i4,i5,i6,Nat.reduceBEq,aX,eSb];exact rfl):p:=e.mpr k
end Zq24
open Zq24 in
theorem aIL (a b:Rat) (h:rl a+rl b≤34359738368):aN Tryz.prog 59 [ratL a,ratL b] (ratL (a+b)):=by
 have a1:=gX a
 have a2:=iM a
 have a3:=gD a
 have c1:=gX b
 have c2:=iM b
 have c3:=gD b
 have a0:=a.den_pos
 have c0:=b.den_pos
 have m1:=cO a1 c2
 have m2:=cO c1 a2
 have m3:=cO a2 c2
 have m4:=cO a1 c1
 have m5:=cO a2 c1
 have m6:=cO c2 a2
 have np:=Nat.mul_pos a0 c0
 have m7:(aZ (a.num.natAbs*b.den+b.num.natAbs*a.den)).length≤rl a+rl b+1:=yH m1 (by omega)
 have ls1:(aZ (a.num.natAbs*b.den-b.num.natAbs*a.den)).length≤rl a+rl b:=Nat.le_trans (cP (Nat.sub_le _ _)) m1
 have ls2:(aZ (b.num.natAbs*a.den-a.num.natAbs*b.den)).length≤rl b+rl a:=Nat.le_trans (cP (Nat.sub_le _ _)) m2
 refine dJ Tryz.func59 ?_
 have eSb:True:=trivial
 refine n8 ?_
 refine aQ rfl (fun h15r h15=>?_) (fun h15r h15=>?_)
 ·have hz:=aAK (q:=a) (by omega)
  refine eI ?_
  rw [hz,Rat.zero_add]
  exact dE [] rfl rfl rfl (aD.csize _) (aH _) dD (.pure (aD.pure _))
 ·refine cQ ?_
  refine aQ rfl (fun h20r h20=>?_) (fun h20r h20=>?_)
  ·have hz:=aAK (q:=b) (by omega)
   refine eI ?_
   rw [hz,Rat.add_zero]
   exact dE [] rfl rfl rfl (aD.csize _) (aH _) dD (.pure (aD.pure _))
  ·refine dI ?_
   refine aP 12 (by decide +kernel) ?_
   refine dI ?_
   refine cp cS (sB _) ?_
   refine cp bI (sG _ _ (by omega) (by omega)) ?_
   refine dI ?_
   refine cp cS (sB _) ?_
   refine cp bI (sG _ _ (by omega) (by omega)) ?_
   refine dX ?_
   refine aP 6 (by decide +kernel) ?_
   refine bD ?_
   refine cp cS (sB _) ?_
   refine bD ?_
   refine cp cS (sB _) ?_
   refine cp bI (sG _ _ (by omega) (by omega)) ?_
   refine fI ?_
   refine aQ rfl (fun h41r h41=>?_) (fun h41r h41=>?_)
   ·refine bD ?_
    refine aP 7 (by decide +kernel) ?_
    refine cB ?_
    refine cp bI (aJG _ _ (by omega) (by omega)) ?_
    refine bD ?_
    refine cp nK (mO _ _ _ (by omega) (by omega) np) ?_
    refine dX ?_
    have E:=wQ (k:=1) (x:=a.num.natAbs*b.den) (y:=b.num.natAbs*a.den) (d:=a.den*b.den) (by omega) (Nat.mul_one _) (Nat.mul_one _) (Nat.mul_one _) (eq_of_beq h41r)
    rw [qS,←eq_of_beq h41r] at E
    rw [E]
    exact dE [] rfl rfl rfl (aD.csize _) (aH _) dD (.pure (aD.pure _))
   ·refine dP ?_
    refine cp bI (zG _ _ (by omega) (by omega)) ?_
    refine dI ?_
    refine aQ rfl (fun h52r h52=>?_) (fun h52r h52=>?_)
    ·have hlt:a.num.natAbs*b.den<b.num.natAbs*a.den:=by unfold kY at h52;split at h52;assumption;split at h52<;>omega
     have eSb:=rH (Nat.le_of_lt hlt)
     refine cB ?_
     refine cp bI (aEF _ _ (by omega) (by omega)) ?_
     refine fI ?_
     refine cp nK (mO _ _ _ (by omega) (by omega) np) ?_
     refine dX ?_
     have E:=aCm (k:=1) (x:=a.num.natAbs*b.den) (y:=b.num.natAbs*a.den) (d:=a.den*b.den) (by omega) (Nat.mul_one _) (Nat.mul_one _) (Nat.mul_one _) (lE h41r) (Nat.le_of_lt hlt)
     rw [qS] at E
     rw [E]
     exact dE [] rfl rfl rfl (aD.csize _) (aH _) dD (.pure (aD.pure _))
    ·have hle:b.num.natAbs*a.den≤a.num.natAbs*b.den:=by
      rcases Nat.lt_or_ge (a.num.natAbs*b.den) (b.num.natAbs*a.den) with h | h
      ·rw [f9 h] at h52;omega
      ·exact h
     have eSb:=rH hle
     refine bY ?_
     refine cp bI (aEF _ _ (by omega) (by omega)) ?_
     refine fI ?_
     refine cp nK (mO _ _ _ (by omega) (by omega) np) ?_
     refine cB ?_
     have E:=aBW (k:=1) (x:=a.num.natAbs*b.den) (y:=b.num.natAbs*a.den) (d:=a.den*b.den) (by omega) (Nat.mul_one _) (Nat.mul_one _) (Nat.mul_one _) (lE h41r) hle
     rw [qS] at E
     rw [E]
     exact dE [] rfl rfl rfl (aD.csize _) (aH _) dD (.pure (aD.pure _))
open H0 in
theorem oT (a b:Rat) (h:rl a+rl b≤34359738368):aN Tryz.prog 62 [ratL a,ratL b] (ratL (a-b)):=by
 refine dJ Tryz.func62 ?_
 refine eI ?_
 refine aP 4 (by decide +kernel) ?_
 refine cU ?_
 refine cp cS (aJx _) ?_
 refine cp bI (aIL _ _ (by rw [zY];omega)) ?_
 refine cB ?_
 rw [Rat.sub_eq_add_neg]
 exact dE [] rfl rfl rfl (aD.csize _) (aH _) dD (.pure (aD.pure _))
end Go.Proofs.YtckppbhafancnaaGreat
namespace Go.Lg
open Go.Proofs.YtckppbhafancnaaGreat in
theorem OpP.build0 {P:Program} {H:cM} {ρ:Operand→LV} {T:TypeId} (hT:cT P T [(1,false),(1,false),(1,false)]) (hz:bA P T (.agg [.v (.bool false),.list 1 [],.list 1 []])):OpP P H ρ (.build T #[]) (ratL 0):=by
 rw [fD]
 exact OpP.build (zs:=[.v (.bool false),.list 1 [],.list 1 []]) (ps:=#[]) hT hz (by intro p hp;cases hp)
end Go.Lg
namespace Go.Proofs.YtckppbhafancnaaGreat
open Go.Lg
theorem jU:(default:Rat)=0:=rfl
def stp (t:Rat):List Rat→List Rat
 | x :: y :: r=>((1-t)*x+t*y) :: stp t (y :: r)
 | _=>[]
theorem gY (t:Rat):∀ p:List Rat,(stp t p).length=p.length-1
 | []=>rfl
 | [_]=>rfl
 | x :: y :: r=>by simp [stp,gY t (y :: r)]
theorem rA (t:Rat):∀ (p:List Rat) (i:Nat),i+1<p.length→(stp t p).getD i 0=(1-t)*p.getD i 0+t*p.getD (i+1) 0
 | [],i,h=>by simp at h
 | [_],i,h=>by simp at h
 | x :: y :: r,0,_=>by simp [stp]
 | x :: y :: r,i+1,h=>by
   have:=rA t (y :: r) i (by simpa using h)
   simpa [stp] using this
theorem cD {p:List Rat} {i:Nat} (h:i<p.length):p.getD i 0∈p:=by
 rw [List.getD_eq_getElem?_getD,List.getElem?_eq_getElem h];exact List.getElem_mem h
theorem wD {p:List Rat} {x:Rat} (h:x∈p):∃ i,i<p.length∧p.getD i 0=x:=by
 obtain⟨i,hi,rfl⟩:=List.getElem_of_mem h
 exact⟨i,hi,by rw [List.getD_eq_getElem?_getD,List.getElem?_eq_getElem hi];rfl⟩
theorem aEM {p q:List Rat} (hl:p.length=q.length) (h:∀ i,i<p.length→p.getD i 0=q.getD i 0):p=q:=by
 apply List.ext_getElem hl
 intro i h1 h2
 have:=h i h1
 rw [List.getD_eq_getElem?_getD,List.getD_eq_getElem?_getD,List.getElem?_eq_getElem h1,List.getElem?_eq_getElem h2] at this
 exact this
def loF (t:Rat):Nat→List Rat→List Rat
 | 0,_=>[]
 | k+1,p=>p.getD 0 0 :: loF t k (stp t p)
def hiF (t:Rat):Nat→List Rat→List Rat→List Rat
 | 0,q,tl=>q++tl
 | k+1,q,tl=>hiF t k (stp t q) (q.getD k 0 :: tl)
def x6 (p:List Rat) (t:Rat):List Rat:=loF t p.length p
def uQ (p:List Rat) (t:Rat):List Rat:=hiF t p.length p []
theorem aDk (t:Rat):∀ (k:Nat) (p:List Rat),(loF t k p).length=k
 | 0,_=>rfl
 | k+1,p=>by simp [loF,aDk t k]
theorem aDb (t:Rat):∀ (k:Nat) (q tl:List Rat),q.length=k→(hiF t k q tl).length=k+tl.length
 | 0,q,tl,h=>by simp [hiF,h]
 | k+1,q,tl,h=>by rw [hiF,aDb t k _ _ (by rw [gY];omega)];simp;omega
theorem k9 (p:List Rat) (t:Rat):(x6 p t).length=p.length:=aDk t _ _
theorem k6 (p:List Rat) (t:Rat):(uQ p t).length=p.length:=by rw [uQ,aDb t _ _ _ rfl];simp
theorem aHQ {α:Type} (A B:List α) (x v:α) {n:Nat} (h:n=A.length):(A++x :: B).set n v=A++v :: B:=by subst h;simp
theorem oR {α:Type} (A B:List α) (d:α) {i:Nat} (h:i<A.length):(A++B).getD i d=A.getD i d:=by simp [List.getD_eq_getElem?_getD,List.getElem?_append_left h]
theorem sH {α:Type} (A B:List α) (d:α) {i:Nat} (h:A.length≤i):(A++B).getD i d=B.getD (i-A.length) d:=by simp [List.getD_eq_getElem?_getD,List.getElem?_append_right h]
theorem wH (l:List Rat) (k p:Nat):(l.drop k).getD p 0=l.getD (k+p) 0:=by
 rw [List.getD_eq_getElem?_getD,List.getD_eq_getElem?_getD,List.getElem?_drop]
theorem aHE {t:Rat} {q tl:List Rat} {i:Nat} (h:i+1<q.length) :
  ((stp t q).take i++(q.drop i++tl)).getD i 0=q.getD i 0∧((stp t q).take i++(q.drop i++tl)).getD (i+1) 0=q.getD (i+1) 0:=by
 have hl:((stp t q).take i).length=i:=by rw [List.length_take,gY];omega
 constructor
 ·rw [sH _ _ _ (by omega),hl,Nat.sub_self,oR _ _ _ (by simp;omega),wH,Nat.add_zero]
 ·rw [sH _ _ _ (by omega),hl,oR _ _ _ (by simp;omega),wH];congr 1;omega
theorem aIT {t:Rat} {q tl:List Rat} {i:Nat} (h:i+1<q.length) :
  ((stp t q).take i++(q.drop i++tl)).set i ((1-t)*q.getD i 0+t*q.getD (i+1) 0)=(stp t q).take (i+1)++(q.drop (i+1)++tl):=by
 have hl:((stp t q).take i).length=i:=by rw [List.length_take,gY];omega
 rw [List.drop_eq_getElem_cons (by omega),List.cons_append,aHQ _ _ _ _ hl.symm,←rA t q i h]
 have hs:i<(stp t q).length:=by rw [gY];omega
 rw [List.take_succ_eq_append_getElem hs,List.append_assoc]
 congr 1
 rw [List.getD_eq_getElem?_getD,List.getElem?_eq_getElem hs]
 simp
theorem aHZ {t:Rat} {q tl:List Rat} {k:Nat} (h:q.length=k+1):(stp t q).take k++(q.drop k++tl)=stp t q++(q.getD k 0 :: tl):=by
 rw [List.take_of_length_le (by rw [gY];omega),List.drop_eq_getElem_cons (by omega),List.drop_of_length_le (by omega),List.getD_eq_getElem?_getD,List.getElem?_eq_getElem (by omega)]
 simp
theorem aBS {t:Rat} {q:List Rat} {C M k:Nat} (hC:rl (1-t)+rl t+1≤C) (h:∀ x∈q,(rl x+C)*2 ^ (k+1)≤M):∀ x∈stp t q,(rl x+C)*2 ^ k≤M:=by
 intro x hx
 obtain⟨i,hi,rfl⟩:=wD hx
 rw [gY] at hi
 rw [rA t q i (by omega)]
 have h1:=h _ (cD (p:=q) (i:=i) (by omega))
 have h2:=h _ (cD (p:=q) (i:=i+1) (by omega))
 have e1:=f7 ((1-t)*q.getD i 0) (t*q.getD (i+1) 0)
 have e2:=bR (1-t) (q.getD i 0)
 have e3:=bR t (q.getD (i+1) 0)
 rw [Nat.pow_succ] at h1 h2
 have hle:rl ((1-t)*q.getD i 0+t*q.getD (i+1) 0)+C≤(rl (q.getD i 0)+C)+(rl (q.getD (i+1) 0)+C):=by omega
 have:=Nat.mul_le_mul_right (2 ^ k) hle
 have e6:=Nat.add_mul (rl (q.getD i 0)+C) (rl (q.getD (i+1) 0)+C) (2 ^ k)
 have e4:(rl (q.getD i 0)+C)*(2 ^ k*2)=(rl (q.getD i 0)+C)*2 ^ k*2:=by rw [Nat.mul_assoc]
 have e5:(rl (q.getD (i+1) 0)+C)*(2 ^ k*2)=(rl (q.getD (i+1) 0)+C)*2 ^ k*2:=by rw [Nat.mul_assoc]
 omega
theorem aCA {o p:List Rat} {k:Nat} (hk:k<p.length) (hol:o.length=p.length) (ht:o.take k=p.take k):(o.set k (p.getD k 0)).take (k+1)=p.take (k+1):=by
 rw [List.take_succ_eq_append_getElem (by simpa [hol] using hk),List.take_succ_eq_append_getElem hk,List.take_set_of_le (Nat.le_refl _),ht]
 congr 1
 simp [List.getD_eq_getElem?_getD,List.getElem?_eq_getElem hk]
theorem r1r:((1:Int):Rat)=1:=rfl
theorem wY {x:Rat} {C M k:Nat} (h:(rl x+C)*2 ^ k≤M):rl x+C≤M:=by
 have:1≤2 ^ k:=Nat.pow_pos (by omega)
 exact Nat.le_trans (Nat.le_mul_of_pos_right _ this) h
theorem aE0 {p:List Rat} {C:Nat} (hC:1≤C) (h:∀ x∈p,(rl x+C)*2 ^ p.length≤1073741824):p.length≤30:=by
 cases p with
 | nil=>simp
 | cons x r =>
  have h1:=h x (by simp)
  have h2:1*2 ^ (x :: r).length≤(rl x+C)*2 ^ (x :: r).length:=Nat.mul_le_mul_right _ (by omega)
  rcases Nat.lt_or_ge 30 (x :: r).length with h3 | h3
  ·have h4:2 ^ 31≤2 ^ (x :: r).length:=Nat.pow_le_pow_right (by omega) h3
   omega
  ·exact h3
theorem aIa {t:Rat} {q tl:List Rat} {i:Nat} (h:i<q.length):((stp t q).take i++(q.drop i++tl)).length=q.length+tl.length:=by
 simp [gY];omega
namespace Zq108
theorem cK {p q:Prop} (k:q) (e:p=q:=by simp only [e1,e2,e3,e4,p1,p2,p3,q1,q2,q3,l1,t0,t1,r1,r2,r3,r4,Nat.zero_add,Nat.reduceMul,Nat.reduceAdd,b1,b2,b3,b4,b5,b6,i1,i2,i3,i4,i5,i6,Nat.reduceBEq,jU,Rat.add_zero,aC aD,aT,LV.kill,bH];exact rfl):p:=e.mpr k
end Zq108
open Zq108 in
theorem sM (p:List Rat) (hl:p.length≤1048576) (hpr:∀ x∈p,rl x≤274877906944):gM Tryz.prog 178 [.list 3 (p.map ratL)] (.ref 1 3 0 p.length) [⟨3,p.map ratL,true⟩]:=by
 refine fnO Tryz.func178 ?_
 refine eP ?_
 refine b9 rfl rfl (.mkE (n:=p.length) (m:=p.length) ml ml om om om) ?_
 refine cH ?_
 refine wE (fun(k:Nat) (o:List Rat) L=>(((((St.mk L.slot (hp [(8,⟨3,o.map ratL,true⟩)])).put (some 3) (.ref 8 3 0 p.length)).put (some 9) (.list 3 (p.map ratL))).put (some 10) (aG p.length)).put (some 11) (aG k))) (fun k o=>k≤p.length∧o.length=p.length∧o.take k=p.take k) (fun k o=>p.length-k) 0 (List.replicate p.length 0) ⟨Nat.zero_le _,by simp,rfl⟩ ?_
 rintro k o L1 ⟨hk,hol,ht⟩
 refine bY ?_
 refine aQ rfl (fun h12r h12=>?_) (fun h12r h12=>?_)
 ·have hk2:k<p.length:=by omega
  have hrk:=hpr _ (cD hk2)
  refine oB ?_
  refine aB rfl (.build0 sP i9) ?_
  refine cp bI (eF (p.getD k 0) 0 (by rw [show rl 0=1 from rfl];omega)) ?_
  refine dX ?_
  refine bG (a7.kill _ 5) ?_
  refine cB ?_
  exact qI (k+1) (o.set k (p.getD k 0)) ⟨by omega,by simp [hol],aCA hk2 hol ht⟩
 ·obtain rfl:k=p.length:=by omega
  rw [List.take_length,←hol,List.take_length] at ht
  refine cH ?_
  subst ht
  exact rV rfl rfl (aF aD _)
namespace Zq115
theorem cK {p q:Prop} (k:q) (e:p=q:=by simp only [e1,e2,e3,e4,p1,p2,p3,q1,q2,q3,l1,t0,t1,r1,r2,r3,r4,Nat.zero_add,Nat.reduceMul,Nat.reduceAdd,b1,b2,b3,b4,b5,b6,i1,i2,i3,i4,i5,i6,Nat.reduceBEq,qR,jU,Rat.add_zero,List.append_nil,List.length_append,r1r,ek,eq0,emg1,emg2,ems,eme,ei1,cJ,eA,dC,List.length_cons,List.length_nil,aC aD,aT,LV.kill,bH];exact rfl):p:=e.mpr k
end Zq115
open Zq115 in
theorem aG3 (p:List Rat) (t:Rat) (cc:Nat) (hC:rl (1-t)+rl t+1≤cc) (hcc:cc≤1073741824) (hs:∀ x∈p,(rl x+cc)*2 ^ p.length≤1073741824):aN Tryz.prog 176 [.list 3 (p.map ratL),ratL t] (.tup [.list 3 ((x6 p t).map ratL),.list 3 ((uQ p t).map ratL)]):=by
 have hlen:=aE0 (Nat.le_trans (Nat.le_add_left 1 _) hC) hs
 have hpr:∀ x∈p,rl x≤274877906944:=fun x hx=>by have:=wY (hs x hx);omega
 refine dJ Tryz.func176 ?_
 have ek:True:=trivial
 have eq0:True:=trivial
 have emg1:True:=trivial
 have emg2:True:=trivial
 have ems:True:=trivial
 have eme:True:=trivial
 have ei1:True:=trivial
 refine eI ?_
 refine aP 4 (by decide +kernel) ?_
 refine cp cS (mJ 1 (by decide) (by decide)) ?_
 refine bD ?_
 refine cp bI (iX _ _ (by rw [show rl ((1:Int):Rat)=1 from rfl];omega)) ?_
 refine dP ?_
 refine lJ [] rfl rfl (.cons (.pure (aJ aD _ _)) .nil) (sM p (by omega) hpr) (aF aD _) rfl ?_
 refine dP ?_
 refine b9 rfl rfl (.makeM (n:=0) (m:=p.length) aD Tryz.underlying155 Z31 dD B31 rfl rfl (by omega) (by omega) (by omega)) ?_
 refine fI ?_
 refine fV (a7.mv (t:=8) (b:=18) 33 (by decide) (by decide) (by decide) rfl rfl rfl) ?_
 refine lp4 (fun(k:Nat) (q tl lo:List Rat) L=>((((((St.mk L.slot (hp [(3,⟨3,[ratL t],true⟩),(6,⟨3,[ratL (1-t)],true⟩),(1000241,⟨3,(q++tl).map ratL,true⟩),(33,⟨3,lo.map ratL,true⟩)])).put (some 3) (.eptr 3 3 0 0)).put (some 6) (.eptr 6 3 0 0)).put (some 7) (.ref 1000241 3 0 p.length)).put (some 8) (.ref 33 3 0 lo.length)).put (some 9) (iL ((k:Int)-1)))) (fun k q tl lo=>q.length=k∧k+tl.length=p.length∧lo.length+k=p.length∧lo++loF t k q=x6 p t∧hiF t k q tl=uQ p t∧∀ x∈q,(rl x+cc)*2 ^ k≤1073741824) (fun k q tl lo=>k) p.length p ([]) ([]) ⟨rfl,by simp,by simp,by simp [x6],rfl,hs⟩ ?_
 rintro k q tl lo L1 ⟨hq,htl,hlo,hL,hH,hsz⟩
 refine dP ?_
 refine aQ rfl (fun h23r h23=>?_) (fun h23r h23=>?_)
 ·obtain⟨j,rfl⟩:∃ j,k=j+1:=⟨k-1,by omega⟩
  have ek:(((j+1:Nat):Int)-1)=(j:Int):=by omega
  have eq0:(q++tl).getD 0 0=q.getD 0 0:=oR _ _ _ (by omega)
  have hq0:=wY (hsz _ (cD (i:=0) (by omega)))
  refine cG ?_
  refine aB rfl (.build0 sP i9) ?_
  simp only [tz0,jU,Nat.zero_add,eq0]
  refine cp bI (eF _ 0 (by rw [show rl 0=1 from rfl];omega)) ?_
  refine bD ?_
  refine bC rfl (.app (news:=[ratL (q.getD 0 0+0)]) rfl rfl rfl rfl rfl (by simp) (.inl rfl) (by decide) Tryz.underlying155 Tryz.underlying155 i9 dD rfl B31 (.inl ⟨32,0,_,rfl,by decide,rfl,rfl,by simp,rfl,by simp [aV,aD.pure]⟩) (by simp;omega) (by simp;omega) (by decide)) ?_
  refine cB ?_
  refine bG (a7.kill _ 32) ?_
  refine dX ?_
  refine lO (fun(i:Nat) L=>((((((((St.mk L.slot (hp [(3,⟨3,[ratL t],true⟩),(6,⟨3,[ratL (1-t)],true⟩),(1000241,⟨3,((stp t q).take i++(q.drop i++tl)).map ratL,true⟩),(33,⟨3,(lo++[q.getD 0 0]).map ratL,true⟩)])).put (some 3) (.eptr 3 3 0 0)).put (some 6) (.eptr 6 3 0 0)).put (some 7) (.ref 1000241 3 0 p.length)).put (some 8) (.ref 33 3 0 (lo.length+1))).put (some 9) (aG j)).put (some 34) (aG j)).put (some 35) (aG i))) (fun i=>i≤j) (fun i=>j-i) 0 (Nat.zero_le _) ?_
  rintro i L2 hi
  refine bY ?_
  refine aQ rfl (fun h36r h36=>?_) (fun h36r h36=>?_)
  ·have hij:i<j:=by omega
   have ei1:((i:Int)+1).toNat=i+1:=by omega
   obtain⟨emg1,emg2⟩:=aHE (t:=t) (q:=q) (tl:=tl) (i:=i) (by omega)
   have ems:=aIT (t:=t) (q:=q) (tl:=tl) (i:=i) (by omega)
   have hr1:=wY (hsz _ (cD (i:=i) (by omega)))
   have hr2:=wY (hsz _ (cD (i:=i+1) (by omega)))
   have hm1:=bR (1-t) (q.getD i 0)
   have hm2:=bR t (q.getD (i+1) 0)
   have hml:=aIa (t:=t) (q:=q) (tl:=tl) (i:=i) (by omega)
   refine cG ?_
   refine aP 17 (by decide +kernel) ?_
   refine dP ?_
   simp only [t1,jU,Nat.zero_add,emg1]
   refine cp bI (dQ _ _ (by omega)) ?_
   refine bY ?_
   simp only [ei1,jU,Nat.zero_add,emg2]
   refine cp bI (dQ _ _ (by omega)) ?_
   refine cp bI (eF _ _ (by omega)) ?_
   refine cG ?_
   exact kE (i+1) (by omega)
  ·obtain rfl:j=i:=by omega
   have eme:=aHZ (t:=t) (tl:=tl) hq
   refine cH ?_
   exact nx4 j (stp t q) (q.getD j 0 :: tl) (lo++[q.getD 0 0]) ⟨by rw [gY];omega,by simp;omega,by simp;omega,by rw [List.append_assoc];exact hL,hH,aBS hC hsz⟩
 ·obtain rfl:k=0:=by omega
  obtain rfl:q=[]:=List.eq_nil_of_length_eq_zero hq
  rw [loF,List.append_nil] at hL
  rw [hiF] at hH
  refine eX ?_
  rw [←hL,←hH]
  exact aFG [33,1000241] rfl rfl (cC aD rfl rfl rfl) rfl (cC aD rfl rfl (by simpa using htl.symm))
def lX (l:List Int) (k:Nat):LV:=.agg [.list 1 (l.map dS),.v (.int .i64 (k:Nat))]
theorem dB (l:List Int) (k:Nat):aV [lX l k]=true:=by simp [aV,lX,LV.pure,aF mK]
theorem aL5 {a b:Int} (h:b≠0):dU .rem .i64 a b=some (.int .i64 (a.tmod b)):=by simp [dU,h]
theorem dfi:(default:Int)=0:=rfl
def nxV (l:List Int) (k:Nat) (n:Int):Int:=if k<l.length then l.getD k 0 % n else 0
def tI (l:List Int) (k:Nat):Nat:=if k<l.length then k+1 else k
theorem aAh {l:List Int} {k:Nat} {n:Int} (h:0<n):0≤nxV l k n∧nxV l k n<n:=by
 unfold nxV;split
 ·exact⟨Int.emod_nonneg _ (by omega),Int.emod_lt_of_pos _ h⟩
 ·omega
theorem aHq {a m:Int} (hm:0<m):a % m=if a.tmod m<0 then a.tmod m+m else a.tmod m:=by
 have h1:=Int.emod_nonneg a (show m≠0 by omega)
 have h2:=Int.emod_lt_of_pos a hm
 rw [Int.tmod_eq_emod]
 split<;>split<;>omega
theorem aFx {P:Program} {L:St} {a:Nat} {T:TypeId} {b sz:Nat} {x y:LV} {m:Bool} {n:Nat} {ag:Bool} {blk:Blk} (h:L.slot a=.eptr b sz 0 0) (hb:L.heap b=some ⟨sz,[x],m⟩)
  (hx:x.csize=sz) (hat:x.at 0 n ag=some x) (hT:bT P T n ag) (hi:Imm L.heap x y) (h0:L.heap 0=some blk) (hm:blk.mt=true) (hp:aV blk.vals=true):aAI P [.cell a T] L y blk :=
 ⟨[x],[y],L.heap,.cons ⟨b,sz,0,0,_,x,n,ag,h,hb,rfl,rfl,hx,hat,hT⟩ .nil,cM.le_refl _,.cons (.imm hi) .nil,h0,hm,hp,rfl⟩
def nbV (l:List Int) (k:Nat):Rat × Nat :=
 if nxV l (tI l k) 4=3 then(((nxV l k 13-6:Int):Rat)/((1+nxV l (tI l (tI l k)) 4:Int):Rat),tI l (tI l (tI l k))) else(((nxV l k 13-6:Int):Rat),tI l (tI l k))
theorem rQ {n d:Int} (h1:n.natAbs<4294967296) (h2:d.natAbs<4294967296):rl ((n:Rat)/(d:Rat))≤1:=by
 rw [←yF]
 have:=aAT (k:=1) (decide (n<0) != decide (d<0)) (by simpa using h1) (by simpa using h2)
 omega
theorem aB2 {n:Int} (h1:n.natAbs<4294967296):rl (n:Rat)≤1:=by
 have:=rQ (n:=n) (d:=1) h1 (by decide)
 rwa [show ((1:Int):Rat)=1 from rfl,Rat.div_def,show (1:Rat)⁻¹=1 by grind,Rat.mul_one] at this
theorem aI8 (l:List Int) (k:Nat):rl (nbV l k).1≤1:=by
 have h1:=aAh (l:=l) (k:=k) (n:=13) (by decide)
 have h2:=aAh (l:=l) (k:=tI l (tI l k)) (n:=4) (by decide)
 unfold nbV;split
 ·exact rQ (by omega) (by omega)
 ·exact aB2 (by omega)
theorem aHu {P:Program} {L:St} {t b sz:Nat} {blk:Blk} (h:L.slot t=.eptr b sz 0 0) (hb:L.heap b=some blk) (hp:aV blk.vals=true):n9 P [.tmp t] L (.eptr 1 sz 0 0) [blk] :=
 ⟨[.eptr b sz 0 0],[.eptr 1 sz 0 0],L.heap,[b],.cons h .nil,cM.le_refl _,.cons (.ptr (k:=0) rfl) .nil,by simp,rfl,fun k c hk=>by
  cases k with
  | zero=>simp at hk;subst hk;exact⟨blk,hb,rfl,hp⟩
  | succ k=>simp at hk,rfl⟩
theorem sW {l:List Int} {k:Nat} (hl:l.length≤500) (hk:k≤500):tI l k≤500:=by unfold tI;split<;>omega
theorem aCl {l:List Int} {k:Nat} (hl:l.length≤500) (hk:k≤500):(nbV l k).2≤500:=by
 have h1:=sW (l:=l) hl hk
 have h2:=sW (l:=l) hl h1
 unfold nbV;split
 ·exact sW hl h2
 ·exact h2
theorem aDV (l:List Int) (k b:Nat):(lX l k).kill b=lX l k:=LV.kill_pure b _ (by simp [lX,LV.pure,aV,aF mK])
open H0 in
theorem aJh (n m:Int) (hm:0<m) (hm2:m≤4611686018427387904):aN Tryz.prog 12 [iL n,iL m] (iL (n % m)):=by
 have hE:=aHq (a:=n) hm
 have hb:=Int.tmod_lt_of_pos n hm
 have hb2:=Int.lt_tmod_of_pos n hm
 refine dJ Tryz.func12 ?_
 refine eP ?_
 refine aB rfl (.bin rfl rfl (aL5 (by omega))) ?_
 refine cG ?_
 refine eH (fun L=>∃ (r:Int) (L1:St),(r=n % m)∧L=((St.mk L1.slot (hp [])).put (some 0) (iL r))) ?_ ?_
 ·refine aQ rfl (fun h9r h9=>?_) (fun h9r h9=>?_)
  ·refine dI ?_
   refine aB rfl (.bin rfl rfl (oE (by omega) (by omega))) ?_
   refine dI ?_
   exact⟨n.tmod m+m,_,by rw [hE,if_pos h9],((aA (bB cl) cl)).symm⟩
  ·refine cU ?_
   exact⟨n.tmod m,_,by rw [hE,if_neg h9],((aA (bB cl) cl)).symm⟩
 ·rintro _ ⟨r,LC9,hr,rfl⟩
  refine eI ?_
  rw [←hr]
  exact b8 rfl (by first | exact .pure rfl | exact .pure (bF _) | exact .pure (aR _) | exact .pure (aD.pure _) | exact .pure (aJ cV _ _) | exact .pure (aJ aD _ _))
open H0 in
theorem aIm (l:List Int) (h:l.length≤9223372036854775807):aN Tryz.prog 8 [.list 1 (l.map dS)] (bL (decide (l.length≤500))):=by
 refine dJ Tryz.func8 ?_
 refine eX ?_
 refine b8 (x:=.v (.bool (decide (((l.length:Nat):Int)≤500)))) rfl ?_
 rw [show decide (((l.length:Nat):Int)≤500)=decide (l.length≤500) by rw [decide_eq_decide];omega]
 exact .pure rfl
open H0 in
theorem aJv (l:List Int):gM Tryz.prog 22 [.list 1 (l.map dS)] (.eptr 1 2 0 0) [⟨2,[lX l 0],true⟩]:=by
 refine fnO Tryz.func22 ?_
 refine eI ?_
 refine aB rfl (.build (zs:=[.v (.slice none 0 0),.v (.int .i64 0)]) aIU aLR (by simp only [List.forall_mem_cons];exact⟨⟨_,rfl,rfl,t8⟩,fun _ h=>by cases h⟩)) ?_
 refine b9 rfl rfl (.box t8) ?_
 refine cB ?_
 exact aHu rfl rfl (dB l 0)
namespace Zq56
theorem cK {p q:Prop} (k:q) (e:p=q:=by simp only [e1,e2,e3,e4,p1,p2,p3,q1,q2,q3,l1,t0,t1,r1,r2,r3,r4,Nat.zero_add,Nat.reduceMul,Nat.reduceAdd,b1,b2,b3,b4,b5,b6,i1,i2,i3,i4,i5,i6,Nat.reduceBEq,l1,ek1,dfi];exact rfl):p:=e.mpr k
end Zq56
open Zq56 in
theorem aCv (l:List Int) (k:Nat) (n:Int) (hl:l.length≤500) (hk:k≤500) (hn:0<n) (hn2:n≤1000):fZ Tryz.prog 31 ⟨2,[lX l k],true⟩ [.eptr 0 2 0 0,iL n] (iL (nxV l k n)) ⟨2,[lX l (tI l k)],true⟩:=by
 refine fnM Tryz.func31 ?_
 have ek1:True:=trivial
 refine dP ?_
 refine aP 10 (by decide +kernel) ?_
 refine cH ?_
 refine aQ rfl (fun h14r h14=>?_) (fun h14r h14=>?_)
 ·have hk1:¬ k<l.length:=by omega
  refine dP ?_
  rw [nxV,if_neg hk1,tI,if_neg hk1]
  exact nN rfl (.imm (.pure rfl)) rfl rfl (dB l _)
 ·have hk1:k<l.length:=by omega
  have ek1:(((k+1:Nat):Int)-1).toNat=k:=by omega
  refine cQ ?_
  refine bC rfl (.store (y:=lX l k) (y':=lX l (k+1)) rfl rfl rfl rfl rfl rfl rfl T3 t8) ?_
  refine dI ?_
  refine aP 14 (by decide +kernel) ?_
  refine eI ?_
  refine aB rfl (.bin rfl rfl (lI (by first | omega | (simp;omega)) (by first | omega | (simp;omega)))) ?_
  refine dI ?_
  refine cp bI (aJh _ _ (by omega) (by omega)) ?_
  refine cB ?_
  rw [nxV,if_pos hk1,tI,if_pos hk1]
  exact nN rfl (.imm (.pure rfl)) rfl rfl (dB l _)
namespace Zq121
theorem cK {p q:Prop} (k:q) (e:p=q:=by simp only [e1,e2,e3,e4,p1,p2,p3,q1,q2,q3,l1,t0,t1,r1,r2,r3,r4,Nat.zero_add,Nat.reduceMul,Nat.reduceAdd,b1,b2,b3,b4,b5,b6,i1,i2,i3,i4,i5,i6,Nat.reduceBEq,l1];exact rfl):p:=e.mpr k
end Zq121
open Zq121 in
theorem aAx (l:List Int) (k:Nat) (hl:l.length≤500) (hk:k≤500):fZ Tryz.prog 67 ⟨2,[lX l k],true⟩ [.eptr 0 2 0 0] (ratL (nbV l k).1) ⟨2,[lX l (nbV l k).2],true⟩:=by
 have k1:=sW (l:=l) hl hk
 have k2:=sW (l:=l) hl k1
 have hb1:=aAh (l:=l) (k:=k) (n:=13) (by decide)
 have hb2:=aAh (l:=l) (k:=tI l (tI l k)) (n:=4) (by decide)
 refine fnM Tryz.func67 ?_
 refine eI ?_
 refine iO 0 rfl rfl rfl (dB l _) (.cons .ptr (.cons (.imm (.pure rfl)) .nil)) .ptr (aCv l k 13 (by omega) (by omega) (by decide) (by decide)) rfl (dB l _) ?_
 refine dP ?_
 refine iO 0 rfl rfl rfl (dB l _) (.cons .ptr (.cons (.imm (.pure rfl)) .nil)) .ptr (aCv l (tI l k) 4 (by omega) (by omega) (by decide) (by decide)) rfl (dB l _) ?_
 refine dI ?_
 refine aQ rfl (fun h8r h8=>?_) (fun h8r h8=>?_)
 ·refine dI ?_
  refine aB rfl (.bin rfl rfl (lI (by omega) (by omega))) ?_
  refine bD ?_
  refine iO 0 rfl rfl rfl (dB l _) (.cons .ptr (.cons (.imm (.pure rfl)) .nil)) .ptr (aCv l (tI l (tI l k)) 4 (by omega) (by omega) (by decide) (by decide)) rfl (dB l _) ?_
  refine aB rfl (.bin rfl rfl (oE (by omega) (by omega))) ?_
  refine cp bI (aHt (nxV l k 13-6) (1+nxV l (tI l (tI l k)) 4) (by omega) (by omega) (by omega) (by omega) (by omega)) ?_
  refine dX ?_
  rw [nbV,if_pos h8]
  exact aFx rfl rfl (aD.csize _) (aH _) dD (.pure (aD.pure _)) rfl rfl (dB l _)
 ·refine dX ?_
  refine aB rfl (.bin rfl rfl (lI (by omega) (by omega))) ?_
  refine cp cS (u6 (nxV l k 13-6) (by omega) (by omega)) ?_
  refine cB ?_
  rw [nbV,if_neg h8]
  exact aFx rfl rfl (aD.csize _) (aH _) dD (.pure (aD.pure _)) rfl rfl (dB l _)
theorem aEJ (q:Rat):jL q≠1:=by rw [jH];split<;>omega
theorem xL (n:Nat) (h:(aZ n).length≤4611686018427387904):aN Tryz.prog 147 [bQ n] (bL true):=by
 have:=aGr (aZ n) h
 rwa [decide_eq_true] at this
 by_cases h0:(aZ n).length=0
 ·exact .inl h0
 ·exact .inr (kG (rD n) (by omega))
theorem aLA {q:Rat} (h:0<(aZ (jL q)).length):Nat.gcd q.num.natAbs (jL q)=1:=by
 rw [qX h];exact q.reduced
end Go.Proofs.YtckppbhafancnaaGreat
namespace Go.Lg
end Go.Lg
namespace Go.Proofs.YtckppbhafancnaaGreat
open Go.Lg
theorem m10 {m:Nat} (h:m<10):(48+m % 10) % 4294967296=48+m:=by
 rw [Nat.mod_eq_of_lt h,Nat.mod_eq_of_lt (Nat.lt_of_lt_of_le (Nat.add_lt_add_left h 48) (by decide))]
namespace Zq70
theorem cK {p q:Prop} (k:q) (e:p=q:=by simp only [e1,e2,e3,e4,p1,p2,p3,q1,q2,q3,l1,t0,t1,r1,r2,r3,r4,Nat.zero_add,Nat.reduceMul,Nat.reduceAdd,b1,b2,b3,b4,b5,b6,i1,i2,i3,i4,i5,i6,Nat.reduceBEq,aX,eQ,tz0];exact rfl):p:=e.mpr k
end Zq70
open Zq70 in
theorem aFw (q:Rat) (h:rl q≤1099511627776):aN Tryz.prog 80 [ratL q] (bL true):=by
 have a1:=gX q
 have a2:=iM q
 have a3:=gD q
 have hne:=aEJ q
 refine dJ Tryz.func80 ?_
 refine cQ ?_
 refine cp cS (xL _ (by omega)) ?_
 refine cB ?_
 refine cp cS (xL _ (by omega)) ?_
 refine eI ?_
 refine eD 18 rfl (fun h18r h18=>?_) (fun h18r h18=>?_)
 ·refine eP ?_
  refine aQ rfl (fun h25r h25=>?_) (fun h25r h25=>?_)
  ·exfalso
   have:=(lW (n:=jL q) (by omega)).1
   omega
  ·refine cQ ?_
   refine aQ rfl (fun h29r h29=>?_) (fun h29r h29=>?_)
   ·refine bY ?_
    refine eD 33 rfl (fun h33r h33=>?_) (fun h33r h33=>?_)
    ·have hz:=aAK (q:=q) (by omega)
     subst hz
     refine cG ?_
     exact b8 rfl (by first | exact .pure rfl | exact .pure (bF _) | exact .pure (aR _) | exact .pure (aD.pure _) | exact .pure (aJ cV _ _) | exact .pure (aJ aD _ _))
    ·exfalso
     have hz:=aAK (q:=q) (by omega)
     subst hz
     revert h33r
     decide
   ·refine eP ?_
    refine eD 43 rfl (fun h43r h43=>?_) (fun h43r h43=>?_)
    ·refine dX ?_
     first | simp only [aX,hg1] | skip
     refine dP ?_
     exact b8 rfl (by first | exact .pure rfl | exact .pure (bF _) | exact .pure (aR _) | exact .pure (aD.pure _) | exact .pure (aJ cV _ _) | exact .pure (aJ aD _ _))
    ·have hg1:=aLA (q:=q) (by omega)
     refine cB ?_
     refine cp bI (aCs _ _ (aW _) (aW _) (by omega) (by omega)) ?_
     first | simp only [aX,hg1] | skip
     refine cp cS (oS (aZ 1) (aW _) (by decide)) ?_
     refine bY ?_
     exact b8 rfl (by first | exact .pure rfl | exact .pure (bF _) | exact .pure (aR _) | exact .pure (aD.pure _) | exact .pure (aJ cV _ _) | exact .pure (aJ aD _ _))
 ·refine aCu ?_
  refine aQ rfl (fun h29r h29=>?_) (fun h29r h29=>?_)
  ·refine bY ?_
   refine eD 33 rfl (fun h33r h33=>?_) (fun h33r h33=>?_)
   ·have hz:=aAK (q:=q) (by omega)
    subst hz
    refine cG ?_
    exact b8 rfl (by first | exact .pure rfl | exact .pure (bF _) | exact .pure (aR _) | exact .pure (aD.pure _) | exact .pure (aJ cV _ _) | exact .pure (aJ aD _ _))
   ·exfalso
    have hz:=aAK (q:=q) (by omega)
    subst hz
    revert h33r
    decide
  ·refine eP ?_
   refine eD 43 rfl (fun h43r h43=>?_) (fun h43r h43=>?_)
   ·refine dX ?_
    first | simp only [aX,hg1] | skip
    refine dP ?_
    exact b8 rfl (by first | exact .pure rfl | exact .pure (bF _) | exact .pure (aR _) | exact .pure (aD.pure _) | exact .pure (aJ cV _ _) | exact .pure (aJ aD _ _))
   ·have hg1:=aLA (q:=q) (by omega)
    refine cB ?_
    refine cp bI (aCs _ _ (aW _) (aW _) (by omega) (by omega)) ?_
    first | simp only [aX,hg1] | skip
    refine cp cS (oS (aZ 1) (aW _) (by decide)) ?_
    refine bY ?_
    exact b8 rfl (by first | exact .pure rfl | exact .pure (bF _) | exact .pure (aR _) | exact .pure (aD.pure _) | exact .pure (aJ cV _ _) | exact .pure (aJ aD _ _))
def HS (p:List Rat) (t:Rat):Prop:=∃ cc,rl (1-t)+rl t+1≤cc∧cc≤1073741824∧∀ x∈p,(rl x+cc)*2 ^ p.length≤1073741824
theorem mL (p:List Rat) (t:Rat) (h:HS p t):aN Tryz.prog 176 [.list 3 (p.map ratL),ratL t] (.tup [.list 3 ((x6 p t).map ratL),.list 3 ((uQ p t).map ratL)]):=by
 obtain⟨cc,h1,h2,h3⟩:=h
 exact aG3 p t cc h1 h2 h3
theorem HS.len {p:List Rat} {t:Rat} (h:HS p t):p.length≤30:=by
 obtain⟨cc,h1,h2,h3⟩:=h
 exact aE0 (Nat.le_trans (Nat.le_add_left 1 _) h1) h3
theorem HS.rl {p:List Rat} {t:Rat} (h:HS p t):rl t≤1073741824∧∀ x∈p,Go.Lg.rl x≤1073741824:=by
 obtain⟨cc,h1,h2,h3⟩:=h
 exact⟨by omega,fun x hx=>by have:=wY (h3 x hx);omega⟩
def qN (p:List Rat) (t:Rat):Rat:=(x6 p t).getD (p.length-1) 0
def oD (p:List Rat) (a b:Rat):List Rat:=if 1-a≠0 then x6 (uQ p a) ((b-a)/(1-a)) else if b≠0 then uQ (x6 p b) (1/b) else p.reverse
theorem aBi (p:List Rat) {x:Nat} (h:x<p.length):p.reverse.getD x 0=p.getD (p.length-1-x) 0:=by
 rw [List.getD_eq_getElem?_getD,List.getD_eq_getElem?_getD,List.getElem?_reverse h]
theorem kF (o:List Rat) (i x:Nat) (v:Rat) (hi:i<o.length):(o.set i v).getD x 0=if x=i then v else o.getD x 0:=by
 rw [List.getD_eq_getElem?_getD,List.getD_eq_getElem?_getD,List.getElem?_set]
 by_cases h:i=x
 ·subst h;simp [hi]
 ·rw [if_neg h,if_neg (fun e=>h e.symm)]
theorem aEZ {p o:List Rat} {i j n:Nat} (hp:p.length=n) (ho:o.length=n) (hij:i<j) (hj:j+i+1=n)
  (h:∀ x,x<n→o.getD x 0=if x<i∨n≤x+i then p.getD (n-1-x) 0 else p.getD x 0) :
  ∀ x,x<n→((o.set i (o.getD j 0)).set j (o.getD i 0)).getD x 0=if x<i+1∨n≤x+(i+1) then p.getD (n-1-x) 0 else p.getD x 0:=by
 intro x hx
 rw [kF _ _ _ _ (by simp;omega),kF _ _ _ _ (by omega),h j (by omega),h i (by omega),h x hx]
 by_cases h1:x=j
 ·subst h1
  rw [if_pos rfl,if_neg (by omega),if_pos (by omega),show n-1-x=i by omega]
 ·rw [if_neg h1]
  by_cases h2:x=i
  ·subst h2
   rw [if_pos rfl,if_neg (by omega),if_pos (by omega),show n-1-x=j by omega]
  ·rw [if_neg h2]
   by_cases h3:x<i∨n≤x+i
   ·rw [if_pos h3,if_pos (by omega)]
   ·rw [if_neg h3,if_neg (by omega)]
theorem aIz {p o:List Rat} {i n:Nat} (hp:p.length=n) (ho:o.length=n) (hi:n≤2*i+1) (h:∀ x,x<n→o.getD x 0=if x<i∨n≤x+i then p.getD (n-1-x) 0 else p.getD x 0):o=p.reverse:=by
 refine aEM (by simp [hp,ho]) (fun x hx=>?_)
 rw [aBi p (by omega),h x (by omega),hp]
 by_cases h3:x<i∨n≤x+i
 ·rw [if_pos h3]
 ·rw [if_neg h3];congr 1;omega
namespace Zq3
theorem cK {p q:Prop} (k:q) (e:p=q:=by simp only [e1,e2,e3,e4,p1,p2,p3,q1,q2,q3,l1,t0,t1,r1,r2,r3,r4,Nat.zero_add,Nat.reduceMul,Nat.reduceAdd,b1,b2,b3,b4,b5,b6,i1,i2,i3,i4,i5,i6,Nat.reduceBEq,jU,ej,hll];exact rfl):p:=e.mpr k
end Zq3
open Zq3 in
theorem tT (p:List Rat) (t:Rat) (h:HS p t) (hp0:0<p.length):aN Tryz.prog 190 [.list 3 (p.map ratL),ratL t] (ratL (qN p t)):=by
 have hll:=k9 p t
 have hlen:=h.len
 have hj:(((p.length:Nat):Int)-1).toNat=p.length-1:=by omega
 refine dJ Tryz.func190 ?_
 have ej:True:=trivial
 refine eX ?_
 refine aQ rfl (fun h9r h9=>?_) (fun h9r h9=>?_)
 ·omega
 ·refine bY ?_
  refine cp bI (mL _ _ (by assumption)) ?_
  refine cH ?_
  refine aB rfl (.bin rfl rfl (iJ (by omega) (by omega))) ?_
  refine bY ?_
  rw [qN]
  exact dE [] rfl rfl rfl (aD.csize _) (aH _) dD (.pure (aD.pure _))
open H0 in
theorem aF0 (a b:Rat) (h:rl a+rl b≤1099511627776):aN Tryz.prog 177 [ratL a,ratL b] (ratL (a/b)):=by
 refine dJ Tryz.func177 ?_
 refine cQ ?_
 refine cp bI (mD _ _ (by omega)) ?_
 refine iR ?_
 exact dE [] rfl rfl rfl (aD.csize _) (aH _) dD (.pure (aD.pure _))
def v3:Nat→Nat→Nat
 | _,0=>1
 | 0,_+1=>0
 | n+1,k+1=>v3 n k+v3 n (k+1)
theorem aB4:∀ {n k:Nat},n<k→v3 n k=0
 | 0,k+1,_=>rfl
 | n+1,k+1,h=>by rw [v3,aB4 (by omega),aB4 (by omega)]
theorem aBD:∀ n,v3 n n=1
 | 0=>rfl
 | n+1=>by rw [v3,aBD n,aB4 (by omega)]
theorem wM (n:Nat):v3 n 0=1:=by cases n<;>rfl
theorem aBN:∀ n k,v3 n k≤2 ^ n
 | n,0=>by rw [wM];exact Nat.pow_pos (by omega)
 | 0,k+1=>by simp [v3]
 | n+1,k+1=>by
   have h1:=aBN n k
   have h2:=aBN n (k+1)
   rw [v3,Nat.pow_succ];omega
theorem z8 {n:Nat} (k:Nat) (h:n≤40):v3 n k≤1099511627776:=Nat.le_trans (aBN n k) (Nat.pow_le_pow_right (n:=2) (by omega) h)
def vU (n:Nat):List Int:=(List.range (n+1)).map fun x=>(v3 n x:Int)
def nP (n:Nat):List Rat:=(List.range (n+1)).map fun x=>((v3 n x:Int):Rat)
theorem jC (n:Nat):(vU n).length=n+1:=by simp [vU]
theorem kX (n:Nat):(nP n).length=n+1:=by simp [nP]
theorem u9 {n x:Nat} (h:x≤n):(vU n).getD x 0=(v3 n x:Int):=by
 rw [List.getD_eq_getElem?_getD,List.getElem?_eq_getElem (by rw [jC];omega)];simp [vU]
theorem aHB {n x:Nat} (h:x≤n):(nP n).getD x 0=((v3 n x:Int):Rat):=by
 rw [List.getD_eq_getElem?_getD,List.getElem?_eq_getElem (by rw [kX];omega)];simp [nP]
theorem aOc {p q:List Int} (hl:p.length=q.length) (h:∀ i,i<p.length→p.getD i 0=q.getD i 0):p=q:=by
 apply List.ext_getElem hl
 intro i h1 h2
 have:=h i h1
 rw [List.getD_eq_getElem?_getD,List.getD_eq_getElem?_getD,List.getElem?_eq_getElem h1,List.getElem?_eq_getElem h2] at this
 exact this
theorem aEH (o:List Int) (i x:Nat) (v:Int) (hi:i<o.length):(o.set i v).getD x 0=if x=i then v else o.getD x 0:=by
 rw [List.getD_eq_getElem?_getD,List.getD_eq_getElem?_getD,List.getElem?_set]
 by_cases h:i=x
 ·subst h;simp [hi]
 ·rw [if_neg h,if_neg (fun e=>h e.symm)]
def aEg (k i:Nat) (o:List Int):Prop:=o.length=k+2∧∀ x,x<k+2→o.getD x 0=if i<x∧x≤k then(v3 (k+1) x:Int) else if x≤k then(v3 k x:Int) else 1
theorem aGw (k:Nat):aEg k k (vU k++[1]):=by
 refine⟨by simp [jC],fun x hx=>?_⟩
 rw [if_neg (by omega)]
 by_cases h:x≤k
 ·rw [if_pos h,oR _ _ _ (by rw [jC];omega),u9 h]
 ·rw [if_neg h,sH _ _ _ (by rw [jC];omega),jC,show x-(k+1)=0 by omega];rfl
theorem aGX {k i:Nat} {o:List Int} (h:aEg k (i+1) o) (hi:i+1≤k):aEg k i (o.set (i+1) (o.getD (i+1) 0+o.getD i 0)):=by
 obtain⟨h1,h2⟩:=h
 refine⟨by simp [h1],fun x hx=>?_⟩
 rw [aEH _ _ _ _ (by omega)]
 by_cases hxi:x=i+1
 ·subst hxi
  rw [if_pos rfl,if_pos ⟨by omega,hi⟩,h2 _ (by omega),h2 _ (by omega),if_neg (by omega),if_pos (by omega),if_neg (by omega),if_pos (by omega),v3]
  simp;omega
 ·rw [if_neg hxi,h2 x hx]
  by_cases h3:i+1<x∧x≤k
  ·rw [if_pos h3,if_pos ⟨by omega,h3.2⟩]
  ·rw [if_neg h3,if_neg (show ¬ (i<x∧x≤k) by omega)]
theorem aHW {k:Nat} {o:List Int} (h:aEg k 0 o):o=vU (k+1):=by
 obtain⟨h1,h2⟩:=h
 refine aOc (by rw [jC,h1]) (fun x hx=>?_)
 rw [h2 x (by omega),u9 (by omega)]
 by_cases h3:0<x∧x≤k
 ·rw [if_pos h3]
 ·rw [if_neg h3]
  by_cases h4:x≤k
  ·obtain rfl:x=0:=by omega
   rw [if_pos h4,wM,wM]
  ·obtain rfl:x=k+1:=by omega
   rw [if_neg h4,aBD];rfl
theorem aFM {k i:Nat} {o:List Int} (h:aEg k i o) (hk:k≤39) {x:Nat} (hx:x<k+2):0≤o.getD x 0∧o.getD x 0≤1099511627776:=by
 rw [h.2 x hx]
 have h1:=z8 (n:=k+1) x (by omega)
 have h2:=z8 (n:=k) x (by omega)
 split
 ·omega
 ·split<;>omega
theorem nS {n:Nat} (hn:n≤40):∀ x∈nP n,rl x≤2:=by
 intro x hx
 simp only [nP,List.mem_map] at hx
 obtain⟨k,_,rfl⟩:=hx
 have h:=z8 k hn
 rw [←u7]
 have:=aAT (k:=2) (decide ((v3 n k:Int)<0)) (n:=(v3 n k:Int).natAbs) (d:=1) (by omega) (by decide)
 omega
theorem kD {o p:List Rat} {k:Nat} {v:Rat} (hk:k<p.length) (hol:o.length=p.length) (ht:o.take k=p.take k) (hv:v=p.getD k 0):(o.set k v).take (k+1)=p.take (k+1):=by subst hv;exact aCA hk hol ht
theorem aLx (n:Nat) (f:Int→LV):((vU n).map f).take (n+1)=(vU n).map f:=by rw [List.take_of_length_le (by simp [jC])]
theorem aKo {a b:List Rat} (h:a.length=b.length) (h2:∀ k,k<a.length→a.getD k 0=b.getD k 0):a=b:=by
 refine List.ext_getElem h fun k h1 h3=>?_
 have:=h2 k h1
 rw [List.getD_eq_getElem?_getD,List.getD_eq_getElem?_getD,List.getElem?_eq_getElem h1,List.getElem?_eq_getElem h3] at this
 exact this
theorem d7 {o:List Rat} {S:Nat} (h1:1≤S) (h:∀ x∈o,rl x≤S) (k:Nat):rl (o.getD k 0)≤S:=by
 rcases Nat.lt_or_ge k o.length with hk | hk
 ·exact h _ (cD hk)
 ·rw [List.getD_eq_getElem?_getD,List.getElem?_eq_none hk];show rl 0≤S;rw [show rl 0=1 from rfl];exact h1
theorem aKz {o:List Rat} {S:Nat} {i:Nat} {v:Rat} (h:∀ x∈o,rl x≤S) (hv:rl v≤S):∀ x∈o.set i v,rl x≤S:=fun x hx=>by
 rcases List.mem_or_eq_of_mem_set hx with h1 | h1
 ·exact h x h1
 ·rw [h1];exact hv
namespace Zq106
theorem cK {p q:Prop} (k:q) (e:p=q:=by simp only [e1,e2,e3,e4,p1,p2,p3,q1,q2,q3,l1,t0,t1,r1,r2,r3,r4,Nat.zero_add,Nat.reduceMul,Nat.reduceAdd,b1,b2,b3,b4,b5,b6,i1,i2,i3,i4,i5,i6,Nat.reduceBEq,dfi,jU,aLx,List.append_nil,jC,ek1,ek2,egr,cJ,eA,dC,List.length_cons,List.length_nil,aC mK,aC aD,LV.kill,bH];exact rfl):p:=e.mpr k
end Zq106
open Zq106 in
theorem wI (n:Nat) (hn:n≤40):aN Tryz.prog 291 [aG n] (.list 3 ((nP n).map ratL)):=by
 refine dJ Tryz.func291 ?_
 have ek1:True:=trivial
 have ek2:True:=trivial
 have egr:True:=trivial
 refine qG ?_
 refine fV (a7.mv (t:=3) (b:=8) 14 (by decide) (by decide) (by decide) rfl rfl rfl) ?_
 refine lO (fun(k:Nat) L=>((((St.mk L.slot (hp [(14,⟨1,(vU k).map dS,true⟩)])).put (some 3) (.ref 14 1 0 (k+1))).put (some 9) (aG n)).put (some 10) (aG k))) (fun k=>k≤n) (fun k=>n-k) 0 (Nat.zero_le _) ?_
 rintro k L1 hk
 refine bY ?_
 refine aQ rfl (fun h11r h11=>?_) (fun h11r h11=>?_)
 ·have hkn:k<n:=by omega
  have ek2:((((k+1+1:Nat)):Int)-2)=(k:Int):=by omega
  refine eI ?_
  refine bC rfl (.app (news:=[dS 1]) rfl rfl rfl rfl rfl (by simp [jC]) (.inl rfl) (by decide) Tryz.underlying123 Tryz.underlying123 Z2 T2 rfl B2 (.inl ⟨13,0,_,rfl,by decide,rfl,rfl,by simp,rfl,rfl⟩) (by simp;omega) (by simp;omega) (by decide)) ?_
  refine cB ?_
  refine bG (a7.kill _ 13) ?_
  refine dP ?_
  refine wE (fun(i:Nat) (o:List Int) L=>(((((St.mk L.slot (hp [(14,⟨1,o.map dS,true⟩)])).put (some 3) (.ref 14 1 0 (k+1+1))).put (some 4) (aG i)).put (some 9) (aG n)).put (some 10) (aG k))) (fun i o=>i≤k∧aEg k i o) (fun i o=>i) k (vU k++[1]) ⟨Nat.le_refl _,aGw k⟩ ?_
  rintro i o L2 ⟨hi,hP⟩
  refine dP ?_
  refine aQ rfl (fun h19r h19=>?_) (fun h19r h19=>?_)
  ·obtain⟨j,rfl⟩:∃ j,i=j+1:=⟨i-1,by omega⟩
   have ek1:(((j+1:Nat):Int)-1)=(j:Int):=by omega
   have hol:=hP.1
   have hb1:=aFM hP (by omega) (x:=j+1) (by omega)
   have hb2:=aFM hP (by omega) (x:=j) (by omega)
   refine cB ?_
   refine aP 11 (by decide +kernel) ?_
   refine aCu ?_
   exact qI j (o.set (j+1) (o.getD (j+1) 0+o.getD j 0)) ⟨by omega,aGX hP hi⟩
  ·obtain rfl:i=0:=by omega
   have hE:=aHW hP
   subst hE
   refine cQ ?_
   exact kE (k+1) (by omega)
 ·obtain rfl:n=k:=by omega
  refine eP ?_
  refine b9 rfl rfl (.mkE (n:=n+1) (m:=n+1) ml ml om om om) ?_
  refine cH ?_
  refine wE (fun(i:Nat) (w:List Rat) L=>(((((St.mk L.slot (hp [(14,⟨1,(vU n).map dS,true⟩),(36,⟨3,w.map ratL,true⟩)])).put (some 5) (.ref 36 3 0 (n+1))).put (some 37) (.ref 14 1 0 (n+1))).put (some 38) (aG (n+1))).put (some 39) (aG i))) (fun i w=>i≤n+1∧w.length=n+1∧w.take i=(nP n).take i) (fun i w=>n+1-i) 0 (List.replicate (n+1) 0) ⟨Nat.zero_le _,by simp,rfl⟩ ?_
  rintro i w L3 ⟨hi,hwl,hwt⟩
  refine bY ?_
  refine aQ rfl (fun h40r h40=>?_) (fun h40r h40=>?_)
  ·have hin:i≤n:=by omega
   have egr:=u9 hin
   have hcb:=z8 i hn
   refine jT ?_
   refine cp cS (mJ (v3 n i:Int) (by omega) (by omega)) ?_
   refine cG ?_
   exact qI (i+1) (w.set i ((v3 n i:Int):Rat)) ⟨by omega,by simp [hwl],kD (by rw [kX];omega) (by rw [kX,hwl]) hwt (aHB (by omega)).symm⟩
  ·obtain rfl:i=n+1:=by omega
   have hE:w=nP n:=by
    rw [List.take_of_length_le (by omega),List.take_of_length_le (by rw [kX];omega)] at hwt
    exact hwt
   subst hE
   refine cH ?_
   exact jV [36] rfl rfl (cC aD rfl rfl (by rw [kX]))
theorem nW {a b:Nat} (h:a+b≤9223372036854775807):dU .add .i64 (a:Nat) (b:Nat)=some (.int .i64 ((a+b:Nat):Int)):=by
 rw [oE (by omega) (by omega)];congr 2
theorem dA {a:Nat} (h:a+1≤9223372036854775807):dU .add .i64 (a:Nat) 1=some (.int .i64 ((a+1:Nat):Int)):=by
 rw [oE (by omega) (by omega)];congr 2
theorem aAi {o:List Rat} {i:Nat} {v:Rat} (h:i<o.length):(o.set i v).getD i 0=v:=by rw [kF _ _ _ _ h,if_pos rfl]
def vG (x:Rat) (i:Nat) (y:List Rat) (q:List Rat) (o:List Rat):Nat→List Rat
 | 0=>o
 | j+1=>(vG x i y q o j).set (i+j) ((vG x i y q o j).getD (i+j) 0+x*(y.getD j 0*q.getD j 0))
def oA (p q:List Rat):Nat→List Rat
 | 0=>List.replicate (p.length-1+(q.length-1)+1) 0
 | i+1=>vG ((nP (p.length-1)).getD i 0*p.getD i 0) i (nP (q.length-1)) q (oA p q i) q.length
def kN (p q:List Rat):List Rat:=(List.range (p.length-1+(q.length-1)+1)).map fun k=>(oA p q p.length).getD k 0/(nP (p.length-1+(q.length-1))).getD k 0
theorem rN (x:Rat) (i:Nat) (y q o:List Rat):∀ j,(vG x i y q o j).length=o.length
 | 0=>rfl
 | j+1=>by simp [vG,rN x i y q o j]
theorem qV (p q:List Rat):∀ i,(oA p q i).length=p.length-1+(q.length-1)+1
 | 0=>by simp [oA]
 | i+1=>by rw [oA,rN,qV p q i]
theorem kL (p q:List Rat):(kN p q).length=p.length-1+(q.length-1)+1:=by simp [kN]
theorem aEX {p q:List Rat} {k:Nat} (h:k<p.length-1+(q.length-1)+1):(kN p q).getD k 0=(oA p q p.length).getD k 0/(nP (p.length-1+(q.length-1))).getD k 0:=by
 rw [List.getD_eq_getElem?_getD,List.getElem?_eq_getElem (by rw [kL];exact h)];simp [kN]
theorem yB {x:Rat} {i R S:Nat} {y q o:List Rat} (hS:1≤S) (ho:∀ v∈o,rl v≤S) (hx:rl x≤R+2) (hy:∀ v∈y,rl v≤2) (hq:∀ v∈q,rl v≤R) (hR:1≤R):∀ j,∀ v∈vG x i y q o j,rl v≤S+j*(2*R+5)
 | 0,v,hv=>by have:=ho v hv;omega
 | j+1,v,hv=>by
   have ih:=yB (i:=i) hS ho hx hy hq hR j
   refine aKz (S:=S+(j+1)*(2*R+5)) (fun w hw=>?_) ?_ v hv
   ·have:=ih w hw;rw [Nat.succ_mul];omega
   ·have h1:=d7 (by omega) ih (i+j)
    have h2:=d7 (by omega) hy j
    have h3:=d7 (by omega) hq j
    have e1:=bR (y.getD j 0) (q.getD j 0)
    have e2:=bR x (y.getD j 0*q.getD j 0)
    have e3:=f7 ((vG x i y q o j).getD (i+j) 0) (x*(y.getD j 0*q.getD j 0))
    rw [Nat.succ_mul];omega
theorem qY {p q:List Rat} {R:Nat} (hpl:p.length≤41) (hql:q.length≤41) (hR:1≤R) (hp':∀ v∈p,rl v≤R) (hq':∀ v∈q,rl v≤R):∀ i,∀ v∈oA p q i,rl v≤1+i*(q.length*(2*R+5))
 | 0,v,hv=>by
   simp only [oA,List.mem_replicate] at hv
   rw [hv.2];show rl 0≤_;rw [show rl 0=1 from rfl];omega
 | i+1,v,hv=>by
   have ih:=qY hpl hql hR hp' hq' i
   have hx:rl ((nP (p.length-1)).getD i 0*p.getD i 0)≤R+2:=by
    have h1:=d7 (by omega) (nS (n:=p.length-1) (by omega)) i
    have h2:=d7 hR hp' i
    have:=bR ((nP (p.length-1)).getD i 0) (p.getD i 0)
    omega
   have:=yB (by omega) ih hx (nS (n:=q.length-1) (by omega)) hq' hR q.length v hv
   rw [Nat.succ_mul];omega
theorem aFC {i j l R:Nat} (hi:i≤41) (hl:l≤41) (hj:j≤l) (hR:R≤67108864):1+i*(l*(2*R+5))+j*(2*R+5)≤231122948107:=by
 have h1:=Nat.mul_le_mul hl (show 2*R+5≤134217733 by omega)
 have h2:=Nat.mul_le_mul hi h1
 have h3:=Nat.mul_le_mul (show j≤41 by omega) (show 2*R+5≤134217733 by omega)
 omega
def gQ (p:List Rat):List Rat:=if p.length<2 then [0] else(List.range (p.length-1)).map fun i=>(((p.length-1:Nat):Int):Rat)*(p.getD (i+1) 0-p.getD i 0)
theorem mP {p:List Rat}:(gQ p).length=if p.length<2 then 1 else p.length-1:=by unfold gQ;split<;>simp
theorem aBb {p:List Rat} {i:Nat} (h:i+1<p.length):(gQ p).getD i 0=(((p.length-1:Nat):Int):Rat)*(p.getD (i+1) 0-p.getD i 0):=by
 unfold gQ
 rw [if_neg (by omega),List.getD_eq_getElem?_getD,List.getElem?_eq_getElem (by simp;omega)];simp
theorem tQ {p:List Rat} {R:Nat} (hR:1≤R) (hl:p.length≤1000) (h:∀ x∈p,rl x≤R):∀ x∈gQ p,rl x≤2*R+4:=by
 intro x hx
 obtain⟨k,hk,rfl⟩:=wD hx
 rw [mP] at hk
 by_cases h2:p.length<2
 ·rw [if_pos h2] at hk
  have:gQ p=[0]:=by unfold gQ;rw [if_pos h2]
  rw [this]
  obtain rfl:k=0:=by omega
  show rl 0≤_
  rw [show rl 0=1 from rfl];omega
 ·rw [if_neg h2] at hk
  rw [aBb (by omega)]
  have h3:=aB2 (n:=((p.length-1:Nat):Int)) (by omega)
  have h4:=h _ (cD (i:=k) (by omega))
  have h5:=h _ (cD (i:=k+1) (by omega))
  have h6:=d9 (p.getD (k+1) 0) (p.getD k 0)
  have h7:=bR (((p.length-1:Nat):Int):Rat) (p.getD (k+1) 0-p.getD k 0)
  omega
namespace Zq14
theorem cK {p q:Prop} (k:q) (e:p=q:=by simp only [e1,e2,e3,e4,p1,p2,p3,q1,q2,q3,l1,t0,t1,r1,r2,r3,r4,Nat.zero_add,Nat.reduceMul,Nat.reduceAdd,b1,b2,b3,b4,b5,b6,i1,i2,i3,i4,i5,i6,Nat.reduceBEq,jU,List.length_set,aC aD,aT,a6,LV.kill,bH];exact rfl):p:=e.mpr k
end Zq14
open Zq14 in
theorem z6 (p:List Rat) (hl:p.length≤1000) (hpr:∀ x∈p,rl x≤1073741824):aN Tryz.prog 250 [.list 3 (p.map ratL)] (.list 3 ((gQ p).map ratL)):=by
 refine dJ Tryz.func250 ?_
 refine fI ?_
 refine aQ rfl (fun h8r h8=>?_) (fun h8r h8=>?_)
 ·have hE:gQ p=[0]:=by unfold gQ;rw [if_pos (by omega)]
  refine cU ?_
  refine aB rfl (.build0 sP i9) ?_
  refine bY ?_
  rw [hE]
  exact jV [10] rfl rfl (cC aD rfl rfl rfl)
 ·have hdl:(gQ p).length=p.length-1:=by rw [mP,if_neg (by omega)]
  refine bY ?_
  refine aB rfl (.bin rfl rfl (iJ (by omega) (by omega))) ?_
  refine cp cS (mJ ((p.length-1:Nat):Int) (by omega) (by omega)) ?_
  refine eI ?_
  refine aB rfl (.bin rfl rfl (iJ (by omega) (by omega))) ?_
  refine b9 rfl rfl (.mkE (n:=(p.length-1)) (m:=(p.length-1)) ml ml om om om) ?_
  refine cH ?_
  refine wE (fun(i:Nat) (w:List Rat) L=>(((((((St.mk L.slot (hp [(3,⟨3,[ratL (((p.length-1:Nat):Int):Rat)],true⟩),(18,⟨3,w.map ratL,true⟩)])).put (some 0) (.list 3 (p.map ratL))).put (some 3) (.eptr 3 3 0 0)).put (some 4) (.ref 18 3 0 (p.length-1))).put (some 19) (.ref 18 3 0 (p.length-1))).put (some 20) (aG (p.length-1))).put (some 21) (aG i))) (fun i w=>i≤p.length-1∧w.length=p.length-1∧w.take i=(gQ p).take i) (fun i w=>p.length-1-i) 0 (List.replicate (p.length-1) 0) ⟨Nat.zero_le _,by simp,rfl⟩ ?_
  rintro i w L1 ⟨hi,hwl,hwt⟩
  refine bY ?_
  refine aQ rfl (fun h22r h22=>?_) (fun h22r h22=>?_)
  ·have rC:i<p.length-1:=by omega
   have hr1:=hpr _ (cD (i:=i) (by omega))
   have hr2:=hpr _ (cD (i:=i+1) (by omega))
   have hr3:=d9 (p.getD (i+1) 0) (p.getD i 0)
   have hr4:=aB2 (n:=((p.length-1:Nat):Int)) (by omega)
   refine cG ?_
   refine aP 15 (by decide +kernel) ?_
   refine dX ?_
   refine aB rfl (.bin rfl rfl (dA (by omega))) ?_
   refine bY ?_
   refine cp bI (iX (p.getD (i+1) 0) (p.getD i 0) (by omega)) ?_
   refine cp bI (dQ (((p.length-1:Nat):Int):Rat) (p.getD (i+1) 0-p.getD i 0) (by omega)) ?_
   refine cG ?_
   exact qI (i+1) (w.set i ((((p.length-1:Nat):Int):Rat)*(p.getD (i+1) 0-p.getD i 0))) ⟨by omega,by simp [hwl],kD (by omega) (by omega) hwt (aBb (by omega)).symm⟩
  ·obtain rfl:i=p.length-1:=by omega
   have hE:w=gQ p:=by
    rw [List.take_of_length_le (by omega),List.take_of_length_le (by omega)] at hwt
    exact hwt
   subst hE
   refine cH ?_
   exact jV [18] rfl rfl (cC aD rfl rfl hdl.symm)
end Go.Proofs.YtckppbhafancnaaGreat
namespace Go.Lg
theorem a7.imm {L:St} {t:Nat} {x y:LV} (bs:List Nat) (h0:bs.contains 0=false) (h:L.slot t=x) (hi:Imm (L.frz bs).heap x y):a7 L ((L.frz bs).put (some t) y):=by
 rintro n W X Z0 a w ⟨hdf,hsz,μ,Z,hc,hr⟩
 obtain⟨Z1,k1,k2⟩:=hc.widen (kQ bs h0)
 refine⟨hdf,hsz,μ,Z1,by rw [eL];exact k1,fun s=>?_⟩
 have hfr:Frame Z μ w w:=⟨fun _ _=>rfl,fun _ id _ c _ _ hh=>⟨c,hh,rfl⟩⟩
 have hs:=(hr s).mono k2 (fun _ _ h=>h) hfr
 rw [bU]
 split
 ·rename_i hst
  subst hst
  rw [h] at hs
  exact bP.of1 (LV.pure_ne_tup hi.lay.2.2) (hi.soundV k1 hs)
 ·exact hs
end Go.Lg
namespace Go.Proofs.YtckppbhafancnaaGreat
open Go.Lg
theorem aIs {a:Rat} (h:0<a):dM a=1:=by unfold dM;rw [if_neg (by grind),if_neg (by grind)]
theorem aH4 {a:Rat} (h:a<0):dM a=-1:=by unfold dM;rw [if_neg (by grind),if_pos h]
theorem aEp (a:Rat):(a=0∧dM a=0)∨(0<a∧dM a=1)∨(a<0∧dM a=-1):=by
 by_cases h:a=0
 ·exact .inl ⟨h,by rw [h];rfl⟩
 ·by_cases h1:a<0
  ·exact .inr (.inr ⟨h1,aH4 h1⟩)
  ·have:0<a:=by grind
   exact .inr (.inl ⟨this,aIs this⟩)
theorem aCX {a:Rat} (h:dM a≠0):a≠0:=fun e=>h (by rw [e];rfl)
def fE (a b:Rat):Nat→(Nat→Rat)→Rat
 | 0,f=>f 0
 | n+1,f=>fE a b n (fun i=>a*f i+b*f (i+1))
theorem kJ (a b:Rat):∀ (n:Nat) (f g:Nat→Rat),(∀ i,i≤n→f i=g i)→fE a b n f=fE a b n g
 | 0,f,g,h=>h 0 (Nat.le_refl _)
 | n+1,f,g,h=>kJ a b n _ _ fun i hi=>by rw [h i (by omega),h (i+1) (by omega)]
theorem zO (a b c d:Rat):∀ (n:Nat) (f g:Nat→Rat),fE a b n (fun i=>c*f i+d*g i)=c*fE a b n f+d*fE a b n g
 | 0,f,g=>rfl
 | n+1,f,g=>by
  rw [fE,fE,fE,←zO a b c d n]
  congr 1;funext i;grind
theorem zA (a b:Rat) (n:Nat) (f:Nat→Rat):fE a b (n+1) f=a*fE a b n f+b*fE a b n (fun i=>f (i+1)):=zO a b a b n f (fun i=>f (i+1))
theorem zK (a b u v:Rat):∀ (n:Nat) (f:Nat→Rat),fE a b n (fun k=>fE u v k f)=fE (a+b*u) (b*v) n f
 | 0,f=>rfl
 | n+1,f=>by
  rw [zA,zK a b u v n f]
  have e:=zK a b u v n (fun i=>u*f i+v*f (i+1))
  have e2:(fun i=>fE u v (i+1) f)=(fun k=>fE u v k (fun i=>u*f i+v*f (i+1))):=rfl
  rw [e2,e,←zO]
  show fE _ _ n _=fE _ _ n _
  congr 1;funext i;grind
theorem aI0 (t:Rat):∀ (k:Nat) (q:List Rat),k<q.length→(loF t q.length q).getD k 0=fE (1-t) t k (fun i=>q.getD i 0)
 | 0,q,h=>by
  obtain⟨m,hm⟩:∃ m,q.length=m+1:=⟨q.length-1,by omega⟩
  rw [hm];rfl
 | k+1,q,h=>by
  obtain⟨m,hm⟩:∃ m,q.length=m+1:=⟨q.length-1,by omega⟩
  have hs:(stp t q).length=m:=by rw [gY];omega
  have:=aI0 t k (stp t q) (by omega)
  rw [hs] at this
  rw [hm,loF,List.getD_cons_succ,this,fE]
  exact kJ _ _ _ _ _ fun i hi=>rA t q i (by omega)
theorem yG:∀ (n:Nat) (f:Nat→Rat),fE 0 1 n f=f n
 | 0,f=>rfl
 | n+1,f=>by rw [fE,yG n];grind
theorem aJf {t:Rat} {C M:Nat} (hC:rl (1-t)+rl t+1≤C):∀ (k:Nat) (q:List Rat),q.length=k→(∀ x∈q,(rl x+C)*2 ^ k≤M)→∀ x∈loF t k q,rl x+C≤M
 | 0,q,_,_,x,hx=>by cases hx
 | k+1,q,hq,h,x,hx=>by
  rw [loF,List.mem_cons] at hx
  rcases hx with rfl | hx
  ·exact wY (h _ (cD (by omega)))
  ·exact aJf hC k (stp t q) (by rw [gY];omega) (aBS hC h) x hx
theorem aJk {t:Rat} {C M:Nat} (hC:rl (1-t)+rl t+1≤C):∀ (k:Nat) (q tl:List Rat),q.length=k→(∀ x∈q,(rl x+C)*2 ^ k≤M)→(∀ x∈tl,rl x+C≤M)→∀ x∈hiF t k q tl,rl x+C≤M
 | 0,q,tl,hq,_,h2,x,hx=>by
  obtain rfl:q=[]:=List.eq_nil_of_length_eq_zero hq
  exact h2 x hx
 | k+1,q,tl,hq,h,h2,x,hx=>by
  refine aJk hC k (stp t q) _ (by rw [gY];omega) (aBS hC h) (fun y hy=>?_) x hx
  rcases List.mem_cons.1 hy with rfl | hy
  ·exact wY (h _ (cD (by omega)))
  ·exact h2 y hy
theorem HS.lo {p:List Rat} {t:Rat} (h:HS p t):∀ x∈x6 p t,Go.Lg.rl x≤1073741824:=fun x hx=>by
 obtain⟨cc,h1,h2,h3⟩:=h
 have:=aJf h1 p.length p rfl h3 x hx
 omega
theorem HS.hi {p:List Rat} {t:Rat} (h:HS p t):∀ x∈uQ p t,Go.Lg.rl x≤1073741824:=fun x hx=>by
 obtain⟨cc,h1,h2,h3⟩:=h
 have:=aJk h1 p.length p [] rfl h3 (fun y hy=>by cases hy) x hx
 omega
theorem HS.ev {p:List Rat} {t:Rat} (h:HS p t):Go.Lg.rl (qN p t)≤1073741824:=d7 (by decide) h.lo _
theorem aBM (a b:Rat):∀ (n:Nat) (f:Nat→Rat),fE a b n f=fE b a n (fun i=>f (n-i))
 | 0,f=>rfl
 | n+1,f=>by
  rw [zA,zA,aBM a b n f,aBM a b n (fun i=>f (i+1))]
  have e1:fE b a n (fun i=>f (n-i+1))=fE b a n (fun i=>f (n+1-i)):=kJ _ _ _ _ _ fun i hi=>by congr 1;omega
  have e2:(fun i=>f (n+1-(i+1)))=fun i=>f (n-i):=by funext i;congr 1;omega
  rw [e1,e2];grind
theorem aC0 (t:Rat):∀ (k:Nat) (q tl:List Rat),q.length=k→∀ j,j<k→(hiF t k q tl).getD j 0=fE (1-t) t (k-1-j) (fun i=>q.getD (j+i) 0)
 | 0,_,_,_,j,h=>by omega
 | k+1,q,tl,hq,j,hj=>by
  rw [hiF]
  have hs:(stp t q).length=k:=by rw [gY];omega
  rcases Nat.lt_or_ge j k with h | h
  ·rw [aC0 t k _ _ hs j h,show k+1-1-j=k-1-j+1 by omega,fE]
   exact kJ _ _ _ _ _ fun i hi=>by rw [rA t q _ (by omega)];rfl
  ·obtain rfl:j=k:=by omega
   rw [show j+1-1-j=0 by omega]
   have hE:∀ (m:Nat) (q' tl':List Rat),q'.length=m→∀ x,(hiF t m q' tl').getD (m+x) 0=tl'.getD x 0:=by
    intro m
    induction m with
    | zero=>intro q' tl' h x;obtain rfl:q'=[]:=List.eq_nil_of_length_eq_zero h;rw [Nat.zero_add];rfl
    | succ m ih =>
     intro q' tl' h x
     rw [hiF,show m+1+x=m+(x+1) by omega,ih _ _ (by rw [gY];omega)];rfl
   have:=hE j (stp t q) (q.getD j 0 :: tl) hs 0
   rw [Nat.add_zero] at this
   rw [this];rfl
theorem aAa {p:List Rat} {j:Nat} (h:j<p.length) (t:Rat):(uQ p t).getD j 0=fE (1-t) t (p.length-1-j) (fun i=>p.getD (j+i) 0):=aC0 t _ p [] rfl j h
theorem yK {p:List Rat} {j:Nat} (h:j<p.length) (t:Rat):(x6 p t).getD j 0=fE (1-t) t j (fun i=>p.getD i 0):=aI0 t j p h
def dZ (p:List Rat) (a b:Rat):List Rat:=if a=1 then x6 (uQ p.reverse 0) ((1-b-0)/(1-0)) else x6 (uQ p a) ((b-a)/(1-a))
theorem aAL:∀ (n:Nat) (f:Nat→Rat),fE 1 0 n f=f 0
 | 0,f=>rfl
 | n+1,f=>by rw [fE,aAL n];grind
theorem aIK (p:List Rat):uQ p 0=p:=by
 refine aKo (k6 p 0) fun j hj=>?_
 rw [k6] at hj
 rw [aAa hj,show (1:Rat)-0=1 from by grind,aAL];rfl
theorem aC9 (p:List Rat) (a b:Rat):oD p a b=dZ p a b:=by
 unfold oD dZ
 by_cases ha:a=1
 ·subst ha
  rw [if_neg (by grind),if_pos rfl,aIK]
  have e0:(1-b-0)/(1-0)=1-b:=by rw [show (1:Rat)-0=1 by grind,show (1:Rat)-b-0=1-b by grind,Rat.div_def,Rat.inv_eq_of_mul_eq_one (show (1:Rat)*1=1 by grind),Rat.mul_one]
  rw [e0]
  have hr:p.reverse.length=p.length:=List.length_reverse
  by_cases hb:b=0
  ·subst hb
   rw [if_neg (by grind)]
   refine aKo (by rw [k9]) fun j hj=>?_
   rw [yK hj,show (1:Rat)-(1-0)=0 by grind,show (1:Rat)-0=1 by grind,yG]
  ·rw [if_pos hb]
   refine aKo (by rw [k6,k9,k9,hr]) fun j hj=>?_
   rw [k6,k9] at hj
   rw [aAa (by rw [k9];exact hj),k9,yK (by rw [hr];exact hj)]
   have e1:fE (1-1/b) (1/b) (p.length-1-j) (fun i=>(x6 p b).getD (j+i) 0)=fE (1-1/b) (1/b) (p.length-1-j) (fun k=>fE (1-b) b k (fun i=>fE (1-b) b j (fun x=>p.getD (i+x) 0))):=by
    refine kJ _ _ _ _ _ fun i hi=>?_
    rw [yK (by omega)]
    have hcomp:∀ (i j:Nat) (f:Nat→Rat),fE (1-b) b (j+i) f=fE (1-b) b i (fun y=>fE (1-b) b j (fun x=>f (y+x))):=by
     intro i
     induction i with
     | zero=>intro j f;show fE (1-b) b j f=fE (1-b) b j (fun x=>f (0+x));simp only [Nat.zero_add]
     | succ i ih =>
      intro j f
      rw [show j+(i+1)=(j+i)+1 by omega,fE,ih j,fE]
      refine kJ _ _ _ _ _ fun y hy=>?_
      have:=zO (1-b) b (1-b) b j (fun x=>f (y+x)) (fun x=>f (y+x+1))
      rw [this]
      congr 3
      funext x;congr 1;omega
    exact hcomp i j _
   have hi:=Rat.mul_inv_cancel _ hb
   rw [e1,zK,show (1-1/b)+(1/b)*(1-b)=0 by rw [Rat.div_def];grind,show 1/b*b=1 by rw [Rat.div_def];grind,yG,aBM]
   rw [show (1:Rat)-(1-b)=b by grind]
   refine kJ _ _ _ _ _ fun i hi=>?_
   rw [aBi p (by omega)]
   congr 1;omega
 ·rw [if_pos (by grind),if_neg ha]
theorem aDI (p:List Rat) (a b:Rat):(oD p a b).length=p.length:=by
 unfold oD
 split
 ·rw [k9,k6]
 ·split
  ·rw [k6,k9]
  ·simp
def kC (a b:Rat):Rat:=if b<a then b else a
def jR (a b:Rat):Rat:=if a<b then b else a
def nR (s:Rat × Rat) (t:Rat × Rat):Rat × Rat:=(kC s.1 t.1,jR s.2 t.2)
def wR (p:List Rat):Nat→Rat × Rat
 | 0=>(0,0)
 | k+1=>nR (if k=0 then(p.getD k 0,p.getD k 0) else wR p k) (p.getD k 0,p.getD k 0)
def gS (p:List Rat):Rat × Rat:=wR p p.length
theorem aDt (a:Rat):kC a a=a:=by unfold kC;split<;>rfl
theorem aDf (a:Rat):jR a a=a:=by unfold jR;split<;>rfl
theorem aL9 (a b:Rat):kC a b≤a∧kC a b≤b∧(kC a b=a∨kC a b=b):=by unfold kC;split<;>grind
theorem aLJ (a b:Rat):a≤jR a b∧b≤jR a b∧(jR a b=a∨jR a b=b):=by unfold jR;split<;>grind
theorem tS (p:List Rat):∀ k,(∀ i,i<k→(wR p k).1≤p.getD i 0∧p.getD i 0≤(wR p k).2)∧(0<k→(∃ i,i<k∧(wR p k).1=p.getD i 0)∧∃ i,i<k∧(wR p k).2=p.getD i 0)
 | 0=>⟨fun i h=>by omega,fun h=>by omega⟩
 | k+1=>by
  obtain⟨h1,h2⟩:=tS p k
  rw [wR]
  by_cases hk:k=0
  ·subst hk
   rw [if_pos rfl]
   simp only [nR,aDt,aDf]
   refine⟨fun i hi=>?_,fun _=>⟨⟨0,by omega,rfl⟩,⟨0,by omega,rfl⟩⟩⟩
   obtain rfl:i=0:=by omega
   exact⟨Rat.le_refl,Rat.le_refl⟩
  ·rw [if_neg hk]
   obtain⟨⟨i,hi,ei⟩,⟨j,hj,ej⟩⟩:=h2 (by omega)
   have a:=aL9 (wR p k).1 (p.getD k 0)
   have b:=aLJ (wR p k).2 (p.getD k 0)
   simp only [nR]
   refine⟨fun x hx=>?_,fun _=>⟨?_,?_⟩⟩
   ·by_cases hxk:x=k
    ·subst hxk;exact⟨a.2.1,b.2.1⟩
    ·have:=h1 x (by omega)
     exact⟨Rat.le_trans a.1 this.1,Rat.le_trans this.2 b.1⟩
   ·rcases a.2.2 with e | e
    ·exact⟨i,by omega,by rw [e,ei]⟩
    ·exact⟨k,by omega,e⟩
   ·rcases b.2.2 with e | e
    ·exact⟨j,by omega,by rw [e,ej]⟩
    ·exact⟨k,by omega,e⟩
theorem aEG {p:List Rat} {R:Nat} (hR:1≤R) (h:∀ k,rl (p.getD k 0)≤R):∀ k,rl (wR p k).1≤R∧rl (wR p k).2≤R
 | 0=>⟨hR,hR⟩
 | k+1=>by
  obtain⟨⟨i,_,ei⟩,⟨j,_,ej⟩⟩:=(tS p (k+1)).2 (by omega)
  rw [ei,ej]
  exact⟨h i,h j⟩
theorem uX {p:List Rat} {R:Nat} (hR:1≤R) (h:∀ x∈p,rl x≤R) (k:Nat):rl (p.getD k 0)≤R:=d7 hR h k
theorem zB {a b:Rat}:g6 a b≤0↔a≤b:=by
 unfold g6;split
 ·rename_i h;exact⟨fun _=>Rat.le_of_lt h,fun _=>by decide⟩
 ·split
  ·rename_i h;exact⟨fun e=>absurd e (by decide),fun e=>absurd h (Rat.not_lt.2 e)⟩
  ·rename_i h;exact⟨fun _=>Rat.not_lt.1 h,fun _=>by decide⟩
def mV (s:Rat × Rat) (x:Rat):Bool:=decide (s.1≤x) && decide (x≤s.2)
theorem aNV {s:Rat × Rat} {x:Rat} (h:decide (g6 s.1 x≤0)=true):decide (g6 x s.2≤0)=mV s x:=by
 unfold mV
 rw [decide_eq_true (zB.1 (of_decide_eq_true h)),Bool.true_and,decide_eq_decide,zB]
theorem aMI {s:Rat × Rat} {x:Rat} (h:decide (g6 s.1 x≤0)=false):false=mV s x:=by
 unfold mV
 rw [decide_eq_false (fun e=>of_decide_eq_false h (zB.2 e)),Bool.false_and]
theorem yT {p:List Rat} {R:Nat} (hR:1≤R) (h:∀ x∈p,rl x≤R):rl (gS p).1≤R∧rl (gS p).2≤R:=aEG hR (uX hR h) p.length
open H0 in
theorem wO (a b:Rat) (h:rl a+rl b≤549755813888):aN Tryz.prog 90 [ratL a,ratL b] (spL (kC a b,jR a b)):=by
 refine dJ Tryz.func90 ?_
 refine eI ?_
 refine aP 7 (by decide +kernel) ?_
 refine cU ?_
 refine cp bI (zU _ _ (by omega)) ?_
 refine cU ?_
 refine cp bI (yJ _ _ (by omega)) ?_
 refine dX ?_
 exact dE [] rfl rfl rfl (d8.csize _) (fN _) mH (.pure (d8.pure _))
namespace Zq80
theorem cK {p q:Prop} (k:q) (e:p=q:=by simp only [e1,e2,e3,e4,p1,p2,p3,q1,q2,q3,l1,t0,t1,r1,r2,r3,r4,Nat.zero_add,Nat.reduceMul,Nat.reduceAdd,b1,b2,b3,b4,b5,b6,i1,i2,i3,i4,i5,i6,Nat.reduceBEq,aDt,aDf];exact rfl):p:=e.mpr k
end Zq80
open Zq80 in
theorem fT (a:Rat) (h:rl a+rl a≤549755813888):aN Tryz.prog 181 [ratL a] (spL (a,a)):=by
 refine dJ Tryz.func181 ?_
 refine cG ?_
 refine cp bI (wO _ _ (by omega)) ?_
 refine cB ?_
 exact dE [] rfl rfl rfl (d8.csize _) (fN _) mH (.pure (d8.pure _))
open H0 in
theorem iT (s t:Rat × Rat) (h1:rl s.1+rl t.1≤549755813888) (h2:rl s.2+rl t.2≤549755813888):aN Tryz.prog 182 [spL s,spL t] (spL (nR s t)):=by
 refine dJ Tryz.func182 ?_
 refine eI ?_
 refine aP 11 (by decide +kernel) ?_
 refine cB ?_
 refine cp bI (zU _ _ (by omega)) ?_
 refine cB ?_
 refine cp bI (yJ _ _ (by omega)) ?_
 refine dX ?_
 exact dE [] rfl rfl rfl (d8.csize _) (fN _) mH (.pure (d8.pure _))
namespace Zq8
theorem cK {p q:Prop} (k:q) (e:p=q:=by simp only [e1,e2,e3,e4,p1,p2,p3,q1,q2,q3,l1,t0,t1,r1,r2,r3,r4,Nat.zero_add,Nat.reduceMul,Nat.reduceAdd,b1,b2,b3,b4,b5,b6,i1,i2,i3,i4,i5,i6,Nat.reduceBEq,jU,ebk,aC aD,aT,a6,LV.kill,bH];exact rfl):p:=e.mpr k
end Zq8
open Zq8 in
theorem rR (p:List Rat) (hl:p.length≤1048576) (hpr:∀ x∈p,rl x≤137438953472):aN Tryz.prog 184 [.list 3 (p.map ratL)] (spL (gS p)):=by
 refine dJ Tryz.func184 ?_
 have ebk:True:=trivial
 refine qG ?_
 refine lO (fun(k:Nat) L=>((((((St.mk L.slot (hp [(2,⟨6,[spL (0,0)],true⟩),(3,⟨6,[spL (wR p k)],true⟩)])).put (some 2) (.eptr 2 6 0 0)).put (some 3) (.eptr 3 6 0 0)).put (some 6) (.list 3 (p.map ratL))).put (some 7) (aG p.length)).put (some 8) (aG k))) (fun k=>k≤p.length) (fun k=>p.length-k) 0 (Nat.zero_le _) ?_
 rintro k L1 hk
 refine bY ?_
 refine aQ rfl (fun h9r h9=>?_) (fun h9r h9=>?_)
 ·have hk2:k<p.length:=by omega
  have hr1:=uX (R:=137438953472) (by decide) hpr
  have hr2:=hr1 k
  have hr3:=aEG (by decide) hr1 k
  have hr4:rl ((p.getD k 0,p.getD k 0):Rat × Rat).1≤137438953472:=hr2
  have hr5:rl ((p.getD k 0,p.getD k 0):Rat × Rat).2≤137438953472:=hr2
  have ebk:wR p (k+1)=nR (if k=0 then(p.getD k 0,p.getD k 0) else wR p k) (p.getD k 0,p.getD k 0):=rfl
  refine aCu ?_
  refine aQ rfl (fun h14r h14=>?_) (fun h14r h14=>?_)
  ·have hk0:k=0:=by omega
   rw [if_pos hk0] at ebk
   refine cU ?_
   refine cp cS (fT _ (by omega)) ?_
   refine dI ?_
   refine aP 4 (by decide +kernel) ?_
   refine cU ?_
   refine cp cS (fT _ (by omega)) ?_
   refine cp bI (iT _ _ (by omega) (by omega)) ?_
   refine cB ?_
   refine bG (a7.kill _ 5) ?_
   refine cB ?_
   exact kE (k+1) (by omega)
  ·have hk0:¬ k=0:=by omega
   rw [if_neg hk0] at ebk
   refine cU ?_
   refine aP 4 (by decide +kernel) ?_
   refine cU ?_
   refine cp cS (fT _ (by omega)) ?_
   refine cp bI (iT _ _ (by omega) (by omega)) ?_
   refine cB ?_
   refine bG (a7.kill _ 5) ?_
   refine cB ?_
   exact kE (k+1) (by omega)
 ·obtain rfl:k=p.length:=by omega
  refine cH ?_
  exact dE [] rfl rfl rfl (d8.csize _) (fN _) mH (.pure (d8.pure _))
def v3a (p q:V3):V3:=⟨p.x+q.x,p.y+q.y,p.z+q.z⟩
def iE (p q:V3):V3:=⟨p.x-q.x,p.y-q.y,p.z-q.z⟩
def pW (r:Rat) (p:V3):V3:=⟨r*p.x,r*p.y,r*p.z⟩
def gI (p q:V3):Rat:=0+p.x*q.x+p.y*q.y+p.z*q.z
def fH (R:Nat) (p:V3):Prop:=rl p.x≤R∧rl p.y≤R∧rl p.z≤R
theorem fH.le {R S:Nat} {p:V3} (h:fH R p) (hRS:R≤S):fH S p:=⟨Nat.le_trans h.1 hRS,Nat.le_trans h.2.1 hRS,Nat.le_trans h.2.2 hRS⟩
theorem y5 {R:Nat} {p q:V3} (hp:fH R p) (hq:fH R q):fH (2*R+1) (iE p q):=by
 have h1:=d9 p.x q.x
 have h2:=d9 p.y q.y
 have h3:=d9 p.z q.z
 obtain⟨a1,a2,a3⟩:=hp
 obtain⟨b1,b2,b3⟩:=hq
 exact⟨by show rl (p.x-q.x)≤_;omega,by show rl (p.y-q.y)≤_;omega,by show rl (p.z-q.z)≤_;omega⟩
theorem sT {R S:Nat} {p q:V3} (hp:fH R p) (hq:fH S q):rl (gI p q)≤3*(R+S)+4:=by
 obtain⟨a1,a2,a3⟩:=hp
 obtain⟨b1,b2,b3⟩:=hq
 have h1:=bR p.x q.x
 have h2:=bR p.y q.y
 have h3:=bR p.z q.z
 have h4:=f7 0 (p.x*q.x)
 have h5:=f7 (0+p.x*q.x) (p.y*q.y)
 have h6:=f7 (0+p.x*q.x+p.y*q.y) (p.z*q.z)
 have h0:rl 0=1:=rfl
 unfold gI
 omega
def sgR (a b p:V3):Rat :=
 if gI (iE p a) (iE b a)≤0 then gI (iE p a) (iE p a)
 else if gI (iE b a) (iE b a)≤gI (iE p a) (iE b a) then gI (iE p b) (iE p b)
 else gI (iE p (v3a a (pW (gI (iE p a) (iE b a)/gI (iE b a) (iE b a)) (iE b a)))) (iE p (v3a a (pW (gI (iE p a) (iE b a)/gI (iE b a) (iE b a)) (iE b a))))
def okP (R:Nat) (q:PoR):Prop:=fH R q.p∧rl q.w≤R∧0<q.w
theorem a8 (q:V3) (b:Nat):(dG q).kill b=dG q:=LV.kill_pure b _ (cW.pure q)
theorem a9 (q:PoR) (b:Nat):(eB q).kill b=eB q:=LV.kill_pure b _ (dR.pure q)
namespace Zq111
theorem cK {p q:Prop} (k:q) (e:p=q:=by simp only [e1,e2,e3,e4,p1,p2,p3,q1,q2,q3,l1,t0,t1,r1,r2,r3,r4,Nat.zero_add,Nat.reduceMul,Nat.reduceAdd,b1,b2,b3,b4,b5,b6,i1,i2,i3,i4,i5,i6,Nat.reduceBEq,qR];exact rfl):p:=e.mpr k
end Zq111
open Zq111 in
theorem aFk (f:Nat) (g:Rat→Rat→Rat) (p q:V3) (h1:aN Tryz.prog f [ratL p.x,ratL q.x] (ratL (g p.x q.x))) (h2:aN Tryz.prog f [ratL p.y,ratL q.y] (ratL (g p.y q.y))) (h3:aN Tryz.prog f [ratL p.z,ratL q.z] (ratL (g p.z q.z))):aN Tryz.prog 193 [dG p,dG q,.clo f []] (dG ⟨g p.x q.x,g p.y q.y,g p.z q.z⟩):=by
 refine dJ Tryz.func193 (ht:=(fun r=>LV.ren_pure r _ (cW.pure _))) ?_
 refine qG ?_
 refine aK ?_
 refine bY ?_
 refine aY (b:=_) rfl (by decide) ?_
 refine cG ?_
 refine aP 10 (by decide +kernel) ?_
 refine eI ?_
 refine gE [] rfl rfl (.clo (f:=f) (cap:=[]) (args:=[ratL p.x,ratL q.x]) rfl (.cons nJ (.cons nJ .nil)) ⟨rfl,fun _ h=>by cases h⟩ h1.1 (by decide) (fun _ h=>by cases h)) (h1.2 _) ?_
 refine cG ?_
 refine aK ?_
 refine bY ?_
 refine aY (b:=_) rfl (by decide) ?_
 refine cG ?_
 refine aP 10 (by decide +kernel) ?_
 refine eI ?_
 refine gE [] rfl rfl (.clo (f:=f) (cap:=[]) (args:=[ratL p.y,ratL q.y]) rfl (.cons nJ (.cons nJ .nil)) ⟨rfl,fun _ h=>by cases h⟩ h2.1 (by decide) (fun _ h=>by cases h)) (h2.2 _) ?_
 refine cG ?_
 refine aK ?_
 refine bY ?_
 refine aY (b:=_) rfl (by decide) ?_
 refine cG ?_
 refine aP 10 (by decide +kernel) ?_
 refine eI ?_
 refine gE [] rfl rfl (.clo (f:=f) (cap:=[]) (args:=[ratL p.z,ratL q.z]) rfl (.cons nJ (.cons nJ .nil)) ⟨rfl,fun _ h=>by cases h⟩ h3.1 (by decide) (fun _ h=>by cases h)) (h3.2 _) ?_
 refine cG ?_
 refine aK ?_
 refine bY ?_
 refine bO (b:=_) rfl (by decide) ?_
 refine cH ?_
 exact dE [] rfl rfl rfl cs (b7 cs rfl) kS (.pure pu)
open H0 in
theorem aKd (p q:V3) (R:Nat) (hR:R≤100000000000) (hp:fH R p) (hq:fH R q):aN Tryz.prog 255 [dG p,dG q] (dG (v3a p q)):=by
 obtain⟨a1,a2,a3⟩:=hp
 obtain⟨b1,b2,b3⟩:=hq
 refine dJ Tryz.func255 (ht:=(fun r=>LV.ren_pure r _ (cW.pure _))) ?_
 refine cQ ?_
 refine cp nK (aFk 95 (·+·) p q (eF _ _ (by omega)) (eF _ _ (by omega)) (eF _ _ (by omega))) ?_
 refine cB ?_
 exact dE [] rfl rfl rfl cs (b7 cs rfl) kS (.pure pu)
open H0 in
theorem oM (r:Rat) (p:V3) (R:Nat) (hR:R≤100000000000) (hr:rl r≤R) (hp:fH R p):aN Tryz.prog 106 [ratL r,dG p] (dG (pW r p)):=by
 obtain⟨a1,a2,a3⟩:=hp
 refine dJ Tryz.func106 (ht:=(fun r=>LV.ren_pure r _ (cW.pure _))) ?_
 refine eX ?_
 refine cp nK (aFk 191 (·*·) ⟨r,r,r⟩ p (dQ r p.x (by omega)) (dQ r p.y (by omega)) (dQ r p.z (by omega))) ?_
 refine cB ?_
 exact dE [] rfl rfl rfl cs (b7 cs rfl) kS (.pure pu)
open H0 in
theorem uL (p q:V3) (R:Nat) (hR:R≤1000000000) (hp:fH R p) (hq:fH R q):aN Tryz.prog 254 [dG p,dG q] (ratL (gI p q)):=by
 obtain⟨a1,a2,a3⟩:=hp
 obtain⟨b1,b2,b3⟩:=hq
 have m1:=bR p.x q.x
 have m2:=bR p.y q.y
 have m3:=bR p.z q.z
 have s1:=f7 0 (p.x*q.x)
 have s2:=f7 (0+p.x*q.x) (p.y*q.y)
 have hz0:rl 0=1:=rfl
 refine dJ Tryz.func254 ?_
 refine qG ?_
 refine aK ?_
 refine bY ?_
 refine aY (b:=_) rfl (by decide) ?_
 refine cG ?_
 refine aP 9 (by decide +kernel) ?_
 refine dP ?_
 refine cp bI (dQ p.x q.x (by omega)) ?_
 refine cp bI (eF 0 (p.x*q.x) (by omega)) ?_
 refine eP ?_
 refine aK ?_
 refine bY ?_
 refine aY (b:=_) rfl (by decide) ?_
 refine cG ?_
 refine aP 9 (by decide +kernel) ?_
 refine dP ?_
 refine cp bI (dQ p.y q.y (by omega)) ?_
 refine cp bI (eF (0+p.x*q.x) (p.y*q.y) (by omega)) ?_
 refine eP ?_
 refine aK ?_
 refine bY ?_
 refine aY (b:=_) rfl (by decide) ?_
 refine cG ?_
 refine aP 9 (by decide +kernel) ?_
 refine dP ?_
 refine cp bI (dQ p.z q.z (by omega)) ?_
 refine cp bI (eF (0+p.x*q.x+p.y*q.y) (p.z*q.z) (by omega)) ?_
 refine eP ?_
 refine aK ?_
 refine bY ?_
 refine bO (b:=_) rfl (by decide) ?_
 refine cH ?_
 exact dE [] rfl rfl rfl (aD.csize _) (aH _) dD (.pure (aD.pure _))
open H0 in
theorem aDq (p q:V3) (R:Nat) (hR:R≤1000000000) (hp:fH R p) (hq:fH R q):aN Tryz.prog 72 [dG p,dG q] (dG (iE p q)):=by
 obtain⟨a1,a2,a3⟩:=hp
 obtain⟨b1,b2,b3⟩:=hq
 refine dJ Tryz.func72 (ht:=(fun r=>LV.ren_pure r _ (cW.pure _))) ?_
 refine eX ?_
 refine aK ?_
 refine dP ?_
 refine aY (b:=_) rfl (by decide) ?_
 refine cB ?_
 refine aP 9 (by decide +kernel) ?_
 refine dP ?_
 refine cp bI (oT p.x q.x (by omega)) ?_
 refine cQ ?_
 refine aK ?_
 refine dP ?_
 refine aY (b:=_) rfl (by decide) ?_
 refine cB ?_
 refine aP 9 (by decide +kernel) ?_
 refine dP ?_
 refine cp bI (oT p.y q.y (by omega)) ?_
 refine cQ ?_
 refine aK ?_
 refine dP ?_
 refine aY (b:=_) rfl (by decide) ?_
 refine cB ?_
 refine aP 9 (by decide +kernel) ?_
 refine dP ?_
 refine cp bI (oT p.z q.z (by omega)) ?_
 refine cQ ?_
 refine aK ?_
 refine dP ?_
 refine bO (b:=_) rfl (by decide) ?_
 refine cH ?_
 exact dE [] rfl rfl rfl cs (b7 cs rfl) kS (.pure pu)
theorem l9 {a b:Rat}:0≤g6 a b↔b≤a:=by
 unfold g6
 constructor
 ·intro h
  split at h
  ·exact absurd h (by decide)
  ·grind
 ·intro h
  split
  ·exfalso;grind
  ·split<;>decide
end Go.Proofs.YtckppbhafancnaaGreat
namespace Go.Lg
theorem r9 {P:Program} {f:FuncId} {args:List LV} {sz n:Nat} {vals:List LV} {mt:Bool} (h:gM P f args (.ref 1 sz 0 n) [⟨sz,vals,mt⟩]) (hp:aV vals=true) (hn:vals.length=n):aN P f args (.list sz vals):=by
 refine⟨⟨h.1,fun W Z0 vs hz hr=>Calls.mono (h.2 W Z0 vs hz hr) (fun e w'=>?_)⟩,fun g=>LV.ren_pure g _ (by simp [LV.pure,hp])⟩
 rintro⟨v,μ,Z,he,hc,hv⟩
 have hle:cM.le (fO [⟨sz,vals,mt⟩]) (fO [⟨sz,vals,false⟩]):=fun b blk hb=>by
  unfold fO at hb ⊢
  by_cases h0:b=0
  ·rw [if_pos h0] at hb;cases hb
  ·rw [if_neg h0] at hb
   rcases Nat.lt_or_ge (b-1) 1 with h1 | h1
   ·have e:b-1=0:=by omega
    rw [e] at hb
    simp only [List.getElem?_cons_zero,Option.some.injEq] at hb
    subst hb
    exact⟨false,by rw [if_neg h0,e];rfl,fun _=>rfl,fun _ _=>h0⟩
   ·rw [List.getElem?_eq_none (by simpa using h1)] at hb;cases hb
 obtain⟨Z1,k1,k2⟩:=hc.widen hle
 have hfr:Frame Z μ w' w':=⟨fun _ _=>rfl,fun _ id _ c _ _ hh=>⟨c,hh,rfl⟩⟩
 have hv1:=hv.mono k2 (fun _ _ h=>h) hfr
 have hi:Imm (fO [⟨sz,vals,false⟩]) (.ref 1 sz 0 n) (.list sz vals):=by
  have:=Imm.ref (H:=fO [⟨sz,vals,false⟩]) (b:=1) (off:=0) (len:=n) (blk:=⟨sz,vals,false⟩) rfl rfl hp (by simp [hn]) rfl
  simpa [←hn] using this
 refine⟨v,f4 μ 1,Z1,he,?_,bP.of1 (fun l h=>by cases h) (hi.soundV k1 hv1)⟩
 have kk:=Core.kill (L:=⟨fun _=>.any,fO [⟨sz,vals,false⟩]⟩) 1 (by decide) k1
 refine kk.reheap fun b id hb=>?_
 have hb1:b≠1:=fun e=>by rw [e] at hb;simp [f4] at hb
 have hb2:μ b=some id:=by unfold f4 at hb;split at hb<;>first | exact hb | cases hb
 obtain⟨blk,g1,_⟩:=k1.heap b id hb2
 unfold fO at g1
 split at g1
 ·cases g1
 ·rw [List.getElem?_eq_none (by simp;omega)] at g1;cases g1
end Go.Lg
namespace Go.Proofs.YtckppbhafancnaaGreat
open Go.Lg
theorem aEc (p:List Rat) (hl:p.length≤1048576) (hpr:∀ x∈p,rl x≤274877906944):aN Tryz.prog 178 [.list 3 (p.map ratL)] (.list 3 (p.map ratL)) :=
 r9 (sM p hl hpr) (aF aD _) (by simp)
def aAB (p:List Rat) (i:Nat):Rat:=(if 0<i then((i:Int):Rat)/((p.length:Int):Rat)*p.getD (i-1) 0 else 0)+(if i<p.length then(((p.length:Int)-(i:Int):Int):Rat)/((p.length:Int):Rat)*p.getD i 0 else 0)
def sN (p:List Rat):List Rat:=(List.range (p.length+1)).map (aAB p)
def itL:Nat→List Rat→List Rat
 | 0,p=>p
 | k+1,p=>itL k (sN p)
def rW (p:List Rat) (n:Nat):List Rat:=itL (n+1-p.length) p
theorem fB (p:List Rat):(sN p).length=p.length+1:=by simp [sN]
theorem vH {p:List Rat} {i:Nat} (h:i<p.length+1):(sN p).getD i 0=aAB p i:=by
 rw [List.getD_eq_getElem?_getD,List.getElem?_eq_getElem (by rw [fB];exact h)];simp [sN]
theorem aCP:∀ (k:Nat) (p:List Rat),(itL k p).length=p.length+k
 | 0,p=>rfl
 | k+1,p=>by rw [itL,aCP k,fB];omega
theorem aDy {p:List Rat} {n:Nat} (h:p.length≤n+1):(rW p n).length=n+1:=by rw [rW,aCP];omega
theorem aIw {p:List Rat} {i:Nat} (h0:0<i) (h1:i<p.length):aAB p i=((i:Int):Rat)/((p.length:Int):Rat)*p.getD (i-1) 0+(((p.length:Int)-(i:Int):Int):Rat)/((p.length:Int):Rat)*p.getD i 0:=by
 rw [aAB,if_pos h0,if_pos h1]
theorem aIc {p:List Rat} {i:Nat} (h0:0<i) (h1:¬ i<p.length):aAB p i=((i:Int):Rat)/((p.length:Int):Rat)*p.getD (i-1) 0:=by
 rw [aAB,if_pos h0,if_neg h1,Rat.add_zero]
theorem aH0 {p:List Rat} {i:Nat} (h0:¬ 0<i) (h1:i<p.length):aAB p i=(((p.length:Int)-(i:Int):Int):Rat)/((p.length:Int):Rat)*p.getD i 0:=by
 rw [aAB,if_neg h0,if_pos h1,Rat.zero_add]
def upS (p:List Rat) (n:Nat):Prop:=(∀ x∈p,rl x≤1073741824)∧∀ k,p.length+k≤n+1→∀ x∈itL k p,rl x≤1073741824
theorem yQ {p:List Rat} {n:Nat} (h:upS p n) (k:Nat):rl (p.getD k 0)≤1073741824:=d7 (by decide) h.1 k
theorem aAP {p:List Rat} {n:Nat} (hl:p.length≤n) (h:upS p n):upS (sN p) n:=⟨h.2 1 (by omega),fun k hk=>h.2 (k+1) (by rw [fB] at hk;omega)⟩
theorem aAE {p:List Rat} {n:Nat} (h:n+1≤p.length):rW p n=p:=by rw [rW,show n+1-p.length=0 by omega];rfl
theorem aG8 {p:List Rat} {n:Nat} (h:p.length≤n):itL (n+1-(sN p).length) (sN p)=itL (n+1-p.length) p:=by
 rw [show n+1-p.length=(n+1-(sN p).length)+1 by rw [fB];omega];rfl
def tL (g:Rat→Rat→Rat) (a b:List Rat):List Rat:=(List.range a.length).map fun i=>g (a.getD i 0) (b.getD i 0)
theorem rP (g:Rat→Rat→Rat) (a b:List Rat):(tL g a b).length=a.length:=by simp [tL]
theorem aHb {g:Rat→Rat→Rat} {a b:List Rat} {i:Nat} (h:i<a.length):(tL g a b).getD i 0=g (a.getD i 0) (b.getD i 0):=by
 rw [List.getD_eq_getElem?_getD,List.getElem?_eq_getElem (by rw [rP];exact h)];simp [tL]
namespace Zq138
theorem cK {p q:Prop} (k:q) (e:p=q:=by simp only [e1,e2,e3,e4,p1,p2,p3,q1,q2,q3,l1,t0,t1,r1,r2,r3,r4,Nat.zero_add,Nat.reduceMul,Nat.reduceAdd,b1,b2,b3,b4,b5,b6,i1,i2,i3,i4,i5,i6,Nat.reduceBEq,jU,List.length_set,List.set_set,egs,egz,eim,Rat.zero_add,aC aD,aT,LV.kill,bH];exact rfl):p:=e.mpr k
end Zq138
open Zq138 in
theorem aLT (p:List Rat) (n:Nat) (hp0:0<p.length) (hn:n≤1000) (hl:p.length≤1001) (hs:upS p n):aN Tryz.prog 290 [.list 3 (p.map ratL),aG n] (.list 3 ((rW p n).map ratL)):=by
 refine dJ Tryz.func290 ?_
 have egs:True:=trivial
 have egz:True:=trivial
 have eim:True:=trivial
 refine eI ?_
 refine cp cS (aEc p (by omega) (fun x hx=>by have:=yQ hs;have h9:=List.getElem_of_mem hx;obtain⟨k,hk,rfl⟩:=h9;have h8:=this k;rw [List.getD_eq_getElem?_getD,List.getElem?_eq_getElem hk] at h8;exact Nat.le_trans h8 (by decide))) ?_
 refine dX ?_
 refine lO (fun(o:List Rat) L=>(((St.mk L.slot (hp [])).put (some 1) (aG n)).put (some 5) (.list 3 (o.map ratL)))) (fun o=>0<o.length∧o.length≤1001∧upS o n∧itL (n+1-o.length) o=rW p n) (fun o=>n+1-o.length) p ⟨hp0,hl,hs,rfl⟩ ?_
 rintro o L1 ⟨ho0,hol,hos,hit⟩
 refine dP ?_
 refine eD 18 rfl (fun h18r h18=>?_) (fun h18r h18=>?_)
 ·refine dP ?_
  refine aQ rfl (fun h23r h23=>?_) (fun h23r h23=>?_)
  ·have hon:o.length≤n:=by omega
   refine fI ?_
   refine aB rfl (.bin rfl rfl (dA (by omega))) ?_
   refine b9 rfl rfl (.mkE (n:=(o.length+1)) (m:=(o.length+1)) ml ml om om om) ?_
   refine cH ?_
   refine wE (fun(i:Nat) (w:List Rat) L=>((((((((St.mk L.slot (hp [(28,⟨3,w.map ratL,true⟩)])).put (some 1) (aG n)).put (some 5) (.list 3 (o.map ratL))).put (some 6) (aG o.length)).put (some 7) (.ref 28 3 0 (o.length+1))).put (some 29) (.ref 28 3 0 (o.length+1))).put (some 30) (aG (o.length+1))).put (some 31) (aG i))) (fun i w=>i≤o.length+1∧w.length=o.length+1∧w.take i=(sN o).take i∧∀ x,i≤x→w.getD x 0=0) (fun i w=>o.length+1-i) 0 (List.replicate (o.length+1) 0) ⟨Nat.zero_le _,by simp,rfl,fun x _=>by simp [List.getD_eq_getElem?_getD,List.getElem?_replicate];split<;>rfl⟩ ?_
   rintro i w L2 ⟨hi,hwl,hwt,hz⟩
   refine bY ?_
   refine aQ rfl (fun h32r h32=>?_) (fun h32r h32=>?_)
   ·have rC:i<o.length+1:=by omega
    have hf1:=rQ (n:=(i:Int)) (d:=(o.length:Int)) (by omega) (by omega)
    have hf2:=rQ (n:=(o.length:Int)-(i:Int)) (d:=(o.length:Int)) (by omega) (by omega)
    have hr1:=yQ hos (i-1)
    have hr2:=yQ hos i
    have hm1:=bR (((i:Int):Rat)/((o.length:Int):Rat)) (o.getD (i-1) 0)
    have hm2:=bR ((((o.length:Int)-(i:Int):Int):Rat)/((o.length:Int):Rat)) (o.getD i 0)
    have egs:=fun v=>aAi (o:=w) (i:=i) (v:=v) (by omega)
    have egz:=hz i (Nat.le_refl _)
    have eim:((i:Int)-1).toNat=i-1:=by omega
    have hr0:rl 0=1:=rfl
    refine jT ?_
    refine aQ rfl (fun h35r h35=>?_) (fun h35r h35=>?_)
    ·have hi0:0<i:=by omega
     refine cB ?_
     refine cp bI (zT (i:Int) (o.length:Int) (by omega) (by omega) (by omega) (by omega) (by omega)) ?_
     refine eI ?_
     refine aP 10 (by decide +kernel) ?_
     refine eI ?_
     try simp only [t1,jU,eim]
     refine cp bI (dQ _ _ (by omega)) ?_
     refine cH ?_
     refine aQ rfl (fun h55r h55=>?_) (fun h55r h55=>?_)
     ·have hi1:i<o.length:=by omega
      refine cB ?_
      refine aB rfl (.bin rfl rfl (lI (by omega) (by omega))) ?_
      refine bD ?_
      refine cp bI (zT ((o.length:Int)-(i:Int)) (o.length:Int) (by omega) (by omega) (by omega) (by omega) (by omega)) ?_
      refine eI ?_
      refine aP 14 (by decide +kernel) ?_
      refine cQ ?_
      try simp only [t1,jU]
      refine cp bI (dQ _ _ (by omega)) ?_
      try simp only [t1,jU,Nat.zero_add,egs,egz]
      refine cp bI (eF _ _ (by omega)) ?_
      refine dX ?_
      refine bG ((a7.kill _ 9).trans (a7.kill _ 11)) ?_
      refine cB ?_
      exact qI (i+1) (w.set i (((i:Int):Rat)/((o.length:Int):Rat)*o.getD (i-1) 0+(((o.length:Int)-(i:Int):Int):Rat)/((o.length:Int):Rat)*o.getD i 0)) ⟨by omega,by simp [hwl],kD (by rw [fB];omega) (by rw [fB];omega) hwt (by rw [vH (by omega),aIw hi0 hi1]),fun x hx=>by rw [kF _ _ _ _ (by omega),if_neg (by omega)];exact hz x (by omega)⟩
     ·have hi1:¬ i<o.length:=by omega
      refine dI ?_
      refine bG ((a7.kill _ 9).trans (a7.kill _ 11)) ?_
      refine cB ?_
      exact qI (i+1) (w.set i (((i:Int):Rat)/((o.length:Int):Rat)*o.getD (i-1) 0)) ⟨by omega,by simp [hwl],kD (by rw [fB];omega) (by rw [fB];omega) hwt (by rw [vH (by omega),aIc hi0 hi1]),fun x hx=>by rw [kF _ _ _ _ (by omega),if_neg (by omega)];exact hz x (by omega)⟩
    ·have hi0:¬ 0<i:=by omega
     refine cG ?_
     refine aQ rfl (fun h55r h55=>?_) (fun h55r h55=>?_)
     ·have hi1:i<o.length:=by omega
      refine cB ?_
      refine aB rfl (.bin rfl rfl (lI (by omega) (by omega))) ?_
      refine bD ?_
      refine cp bI (zT ((o.length:Int)-(i:Int)) (o.length:Int) (by omega) (by omega) (by omega) (by omega) (by omega)) ?_
      refine eI ?_
      refine aP 14 (by decide +kernel) ?_
      refine cQ ?_
      try simp only [t1,jU]
      refine cp bI (dQ _ _ (by omega)) ?_
      try simp only [t1,jU,Nat.zero_add,egs,egz]
      refine cp bI (eF _ _ (by omega)) ?_
      refine dX ?_
      refine bG ((a7.kill _ 9).trans (a7.kill _ 11)) ?_
      refine cB ?_
      exact qI (i+1) (w.set i ((((o.length:Int)-(i:Int):Int):Rat)/((o.length:Int):Rat)*o.getD i 0)) ⟨by omega,by simp [hwl],kD (by rw [fB];omega) (by rw [fB];omega) hwt (by rw [vH (by omega),aH0 hi0 hi1]),fun x hx=>by rw [kF _ _ _ _ (by omega),if_neg (by omega)];exact hz x (by omega)⟩
     ·have hi1:¬ i<o.length:=by omega
      refine dI ?_
      refine bG ((a7.kill _ 9).trans (a7.kill _ 11)) ?_
      refine cB ?_
      exact qI (i+1) w (False.elim (by omega))
   ·obtain rfl:i=o.length+1:=by omega
    have hE:w=sN o:=by
     rw [List.take_of_length_le (by omega),List.take_of_length_le (by rw [fB];omega)] at hwt
     exact hwt
    subst hE
    refine dX ?_
    refine bG ((a7.imm (t:=7) [28] rfl rfl (cC aD rfl rfl (by rw [fB]))).trans (a7.kill _ 28)) ?_
    refine dX ?_
    exact kE (sN o) ⟨by rw [fB];omega,by rw [fB];omega,aAP (by omega) hos,by rw [aG8 (by omega)];exact hit⟩ (hm:=by rw [fB];omega)
  ·refine cH ?_
   have hE:rW p n=o:=by rw [←hit,show n+1-o.length=0 by omega];rfl
   rw [hE]
   exact b8 rfl (by first | exact .pure rfl | exact .pure (bF _) | exact .pure (aR _) | exact .pure (aD.pure _) | exact .pure (aJ cV _ _) | exact .pure (aJ aD _ _))
 ·refine nH ?_
  have hE:rW p n=o:=by rw [←hit,show n+1-o.length=0 by omega];rfl
  rw [hE]
  exact b8 rfl (by first | exact .pure rfl | exact .pure (bF _) | exact .pure (aR _) | exact .pure (aD.pure _) | exact .pure (aJ cV _ _) | exact .pure (aJ aD _ _))
def cR (n k:Nat):Rat:=((v3 n k:Nat):Int)
def sq (p:List Rat) (k:Nat):Rat:=cR (p.length-1) k*p.getD k 0
theorem aE9 {n:Nat} (hn:n≤1000):∀ (k:Nat) (p:List Rat),0<p.length→p.length+k≤n+1→upS p n→upS (itL k p) n
 | 0,_,_,_,h=>h
 | k+1,p,h0,hk,h=>aE9 hn k (sN p) (by rw [fB];omega) (by rw [fB];omega) (aAP (by omega) h)
theorem aFK {p:List Rat} {n:Nat} (hn:n≤1000) (h0:0<p.length) (hl:p.length≤n+1) (h:upS p n) (k:Nat):rl ((rW p n).getD k 0)≤1073741824 :=
 yQ (aE9 hn _ p h0 (by omega) h) k
theorem emx {a b n:Nat} (h:0<a) (h1:a≤n+1) (h2:b≤n+1) (h3:a=n+1∨b=n+1):(if ((b:Nat):Int) > ((a:Nat):Int) then((b:Nat):Int) else((a:Nat):Int))-1=(n:Int):=by
 split<;>omega
theorem emn (a:Nat):(if ((a:Nat):Int)<((a:Nat):Int) then((a:Nat):Int) else((a:Nat):Int))=(a:Int):=by split<;>rfl
theorem aLQ {a b n:Nat} (h:0<a) (h1:a≤n+1) (h2:b≤n+1) (h3:a=n+1∨b=n+1) (hn:n≤1000):dU .sub .i64 (if ((b:Nat):Int) > ((a:Nat):Int) then((b:Nat):Int) else((a:Nat):Int)) 1=some (.int .i64 ((n:Nat):Int)):=by
 have e:=emx h h1 h2 h3
 rw [lI (by omega) (by omega),e]
namespace Zq101
theorem cK {p q:Prop} (k:q) (e:p=q:=by simp only [e1,e2,e3,e4,p1,p2,p3,q1,q2,q3,l1,t0,t1,r1,r2,r3,r4,Nat.zero_add,Nat.reduceMul,Nat.reduceAdd,b1,b2,b3,b4,b5,b6,i1,i2,i3,i4,i5,i6,Nat.reduceBEq,jU,emx1,elp,elq,emn,aC aD,aT,a6,LV.kill,bH];exact rfl):p:=e.mpr k
end Zq101
open Zq101 in
theorem aJt (p q:List Rat) (f:Nat) (g:Rat→Rat→Rat) (n:Nat) (hp0:0<p.length) (hq0:0<q.length) (hn:n≤1000) (hpn:p.length≤n+1) (hqn:q.length≤n+1) (hpq:p.length=n+1∨q.length=n+1) (hps:upS p n) (hqs:upS q n) (hf:∀ i,aN Tryz.prog f [ratL ((rW p n).getD i 0),ratL ((rW q n).getD i 0)] (ratL (g ((rW p n).getD i 0) ((rW q n).getD i 0)))):aN Tryz.prog 283 [.list 3 (p.map ratL),.list 3 (q.map ratL),.clo f []] (.list 3 ((tL g (rW p n) (rW q n)).map ratL)):=by
 have emx1:=emx hp0 hpn hqn hpq
 have elp:=aDy hpn
 have elq:=aDy hqn
 have hzl:(tL g (rW p n) (rW q n)).length=n+1:=by rw [rP,elp]
 refine dJ Tryz.func283 ?_
 have emx1:True:=trivial
 have elp:True:=trivial
 have elq:True:=trivial
 have emn:True:=trivial
 refine cH ?_
 refine aB rfl (.bin rfl rfl (aLQ hp0 hpn hqn hpq hn)) ?_
 refine dP ?_
 refine cp bI (aLT p n hp0 hn (by omega) hps) ?_
 refine cU ?_
 refine cp bI (aLT q n hq0 hn (by omega) hqs) ?_
 refine cG ?_
 try simp only [elp,elq]
 refine bD ?_
 refine b9 rfl rfl (.mkE (n:=(n+1)) (m:=(n+1)) ml ml om om om) ?_
 refine cH ?_
 refine wE (fun(i:Nat) (w:List Rat) L=>((((((((St.mk L.slot (hp [(27,⟨3,w.map ratL,true⟩)])).put (some 0) (.list 3 ((rW p n).map ratL))).put (some 1) (.list 3 ((rW q n).map ratL))).put (some 2) (.clo f [])).put (some 8) (.ref 27 3 0 (n+1))).put (some 28) (.ref 27 3 0 (n+1))).put (some 29) (aG (n+1))).put (some 30) (aG i))) (fun i w=>i≤n+1∧w.length=n+1∧w.take i=(tL g (rW p n) (rW q n)).take i) (fun i w=>n+1-i) 0 (List.replicate (n+1) 0) ⟨Nat.zero_le _,by simp,rfl⟩ ?_
 rintro i w L1 ⟨hi,hwl,hwt⟩
 refine bY ?_
 refine aQ rfl (fun h31r h31=>?_) (fun h31r h31=>?_)
 ·have rC:i<n+1:=by omega
  have hfi:=hf i
  refine cG ?_
  refine aP 13 (by decide +kernel) ?_
  refine cQ ?_
  try simp only [t1,jU]
  refine gE [] rfl rfl (.clo (f:=f) (cap:=[]) (args:=[ratL ((rW p n).getD i 0),ratL ((rW q n).getD i 0)]) rfl (.cons nJ (.cons nJ .nil)) ⟨rfl,fun _ h=>by cases h⟩ hfi.1 (by decide) (fun _ h=>by cases h)) (hfi.2 _) ?_
  refine cG ?_
  exact qI (i+1) (w.set i (g ((rW p n).getD i 0) ((rW q n).getD i 0))) ⟨by omega,by simp [hwl],kD (by omega) (by omega) hwt (by rw [aHb (by omega)])⟩
 ·obtain rfl:i=n+1:=by omega
  have hE:w=(tL g (rW p n) (rW q n)):=by
   rw [List.take_of_length_le (by omega),List.take_of_length_le (by omega)] at hwt
   exact hwt
  subst hE
  refine cH ?_
  exact jV [27] rfl rfl (cC aD rfl rfl hzl.symm)
open H0 in
theorem aJA (p q:List Rat) (n:Nat) (hp0:0<p.length) (hq0:0<q.length) (hn:n≤1000) (hpn:p.length≤n+1) (hqn:q.length≤n+1) (hpq:p.length=n+1∨q.length=n+1) (hps:upS p n) (hqs:upS q n):aN Tryz.prog 251 [.list 3 (p.map ratL),.list 3 (q.map ratL)] (.list 3 ((tL (·-·) (rW p n) (rW q n)).map ratL)):=by
 refine dJ Tryz.func251 ?_
 refine eP ?_
 refine cp nK (aJt p q 170 (·-·) n hp0 hq0 hn hpn hqn hpq hps hqs (fun i=>iX _ _ (by have:=aFK hn hp0 hpn hps i;have:=aFK hn hq0 hqn hqs i;omega))) ?_
 refine cB ?_
 exact b8 rfl (by first | exact .pure rfl | exact .pure (bF _) | exact .pure (aR _) | exact .pure (aD.pure _) | exact .pure (aJ cV _ _) | exact .pure (aJ aD _ _))
namespace Zq4
theorem cK {p q:Prop} (k:q) (e:p=q:=by simp only [e1,e2,e3,e4,p1,p2,p3,q1,q2,q3,l1,t0,t1,r1,r2,r3,r4,Nat.zero_add,Nat.reduceMul,Nat.reduceAdd,b1,b2,b3,b4,b5,b6,i1,i2,i3,i4,i5,i6,Nat.reduceBEq,jU,List.length_set,rN,qV,kX,eij,elz,ela,aC aD,aT,LV.kill,bH];exact rfl):p:=e.mpr k
end Zq4
open Zq4 in
theorem aJ7 (p q:List Rat) (R:Nat) (hp0:0<p.length) (hq0:0<q.length) (h:p.length-1+(q.length-1)≤40) (hR1:1≤R) (hR:R≤67108864) (hpR:∀ x∈p,rl x≤R) (hqR:∀ x∈q,rl x≤R):aN Tryz.prog 284 [.list 3 (p.map ratL),.list 3 (q.map ratL)] (.tup [.list 3 ((kN p q).map ratL),iL 0]):=by
 have hpl:p.length≤41:=by omega
 have hql:q.length≤41:=by omega
 refine dJ Tryz.func284 ?_
 have eij:True:=trivial
 have elz:True:=trivial
 have ela:True:=trivial
 refine cG ?_
 refine aB rfl (.bin rfl rfl (iJ (by omega) (by omega))) ?_
 refine cU ?_
 refine aB rfl (.bin rfl rfl (iJ (by omega) (by omega))) ?_
 refine eP ?_
 refine aB rfl (.bin rfl rfl (nW (by omega))) ?_
 refine dI ?_
 refine aQ rfl (fun h25r h25=>?_) (fun h25r h25=>?_)
 ·omega
 ·refine eI ?_
  refine eD 28 rfl (fun h28r h28=>?_) (fun h28r h28=>?_)
  ·exfalso
   omega
  ·refine dX ?_
   refine aQ rfl (fun h31r h31=>?_) (fun h31r h31=>?_)
   ·omega
   ·refine dX ?_
    refine cp cS (wI _ (by omega)) ?_
    refine bD ?_
    refine cp cS (wI _ (by omega)) ?_
    refine cU ?_
    refine aB rfl (.bin rfl rfl (nW (by omega))) ?_
    refine cp cS (wI _ (by omega)) ?_
    refine eP ?_
    refine aB rfl (.bin rfl rfl (nW (by omega))) ?_
    refine aB rfl (.bin rfl rfl (dA (by omega))) ?_
    refine b9 rfl rfl (.mkE (n:=(p.length-1+(q.length-1)+1)) (m:=(p.length-1+(q.length-1)+1)) ml ml om om om) ?_
    refine cH ?_
    refine lO (fun(i:Nat) L=>((((((((((St.mk L.slot (hp [(44,⟨3,(oA p q i).map ratL,true⟩)])).put (some 0) (.list 3 (p.map ratL))).put (some 1) (.list 3 (q.map ratL))).put (some 8) (.list 3 ((nP (p.length-1)).map ratL))).put (some 9) (.list 3 ((nP (q.length-1)).map ratL))).put (some 10) (.list 3 ((nP (p.length-1+(q.length-1))).map ratL))).put (some 11) (.ref 44 3 0 (p.length-1+(q.length-1)+1))).put (some 45) (.list 3 (p.map ratL))).put (some 46) (aG p.length)).put (some 47) (aG i))) (fun i=>i≤p.length) (fun i=>p.length-i) 0 (Nat.zero_le _) ?_
    rintro i L1 hi
    refine bY ?_
    refine aQ rfl (fun h48r h48=>?_) (fun h48r h48=>?_)
    ·have hip:i<p.length:=by omega
     have hx1:=nS (n:=p.length-1) (by omega) _ (cD (i:=i) (by rw [kX];omega))
     have hx2:=hpR _ (cD (i:=i) hip)
     have hx3:=bR ((nP (p.length-1)).getD i 0) (p.getD i 0)
     refine cQ ?_
     refine aP 10 (by decide +kernel) ?_
     refine eI ?_
     try simp only [t1,jU]
     refine cp bI (dQ _ _ (by omega)) ?_
     refine cH ?_
     refine lO (fun(j:Nat) L=>(((((((((((((((St.mk L.slot (hp [(44,⟨3,(vG ((nP (p.length-1)).getD i 0*p.getD i 0) i (nP (q.length-1)) q (oA p q i) j).map ratL,true⟩),(13,⟨3,[ratL ((nP (p.length-1)).getD i 0*p.getD i 0)],true⟩)])).put (some 0) (.list 3 (p.map ratL))).put (some 1) (.list 3 (q.map ratL))).put (some 8) (.list 3 ((nP (p.length-1)).map ratL))).put (some 9) (.list 3 ((nP (q.length-1)).map ratL))).put (some 10) (.list 3 ((nP (p.length-1+(q.length-1))).map ratL))).put (some 11) (.ref 44 3 0 (p.length-1+(q.length-1)+1))).put (some 45) (.list 3 (p.map ratL))).put (some 46) (aG p.length)).put (some 47) (aG i)).put (some 12) (aG i)).put (some 13) (.eptr 13 3 0 0)).put (some 59) (.list 3 (q.map ratL))).put (some 60) (aG q.length)).put (some 61) (aG j))) (fun j=>j≤q.length) (fun j=>q.length-j) 0 (Nat.zero_le _) ?_
     rintro j L2 hj
     refine bY ?_
     refine aQ rfl (fun h62r h62=>?_) (fun h62r h62=>?_)
     ·have hjq:j<q.length:=by omega
      have eij:((i:Int)+(j:Int)).toNat=i+j:=by omega
      have hlr:(vG ((nP (p.length-1)).getD i 0*p.getD i 0) i (nP (q.length-1)) q (oA p q i) j).length=(p.length-1+(q.length-1)+1):=by rw [rN,qV]
      have hS:=qY hpl hql hR1 hpR hqR i
      have ho:=yB (i:=i) (by omega) hS (show rl ((nP (p.length-1)).getD i 0*p.getD i 0)≤R+2 by omega) (nS (n:=q.length-1) (by omega)) hqR hR1 j
      have hbd:=aFC (i:=i) (j:=j) (by omega) hql hj hR
      have hg1:=d7 (by omega) ho (i+j)
      have hg2:=nS (n:=q.length-1) (by omega) _ (cD (i:=j) (by rw [kX];omega))
      have hg3:=hqR _ (cD (i:=j) hjq)
      have hg4:=bR ((nP (q.length-1)).getD j 0) (q.getD j 0)
      have hg5:=bR ((nP (p.length-1)).getD i 0*p.getD i 0) ((nP (q.length-1)).getD j 0*q.getD j 0)
      refine cG ?_
      refine aP 23 (by decide +kernel) ?_
      refine dI ?_
      refine aB rfl (.bin rfl rfl (nW (by omega))) ?_
      refine dI ?_
      refine aB rfl (.bin rfl rfl (nW (by omega))) ?_
      refine cQ ?_
      try simp only [t1,jU,Nat.zero_add]
      refine cp bI (dQ _ _ (by omega)) ?_
      try simp only [t1,jU,Nat.zero_add]
      refine cp bI (dQ _ _ (by omega)) ?_
      try simp only [t1,jU,Nat.zero_add]
      refine cp bI (eF _ _ (by omega)) ?_
      refine cG ?_
      exact kE (j+1) (by omega)
     ·obtain rfl:j=q.length:=by omega
      refine bY ?_
      refine bG (a7.kill _ 13) ?_
      refine cB ?_
      exact kE (i+1) (by omega)
    ·obtain rfl:i=p.length:=by omega
     refine eX ?_
     refine wE (fun(k:Nat) (w:List Rat) L=>((((((St.mk L.slot (hp [(44,⟨3,w.map ratL,true⟩)])).put (some 10) (.list 3 ((nP (p.length-1+(q.length-1))).map ratL))).put (some 11) (.ref 44 3 0 (p.length-1+(q.length-1)+1))).put (some 89) (.ref 44 3 0 (p.length-1+(q.length-1)+1))).put (some 90) (aG (p.length-1+(q.length-1)+1))).put (some 91) (aG k))) (fun k w=>k≤(p.length-1+(q.length-1)+1)∧w.length=(p.length-1+(q.length-1)+1)∧w.take k=(kN p q).take k∧∀ x,k≤x→w.getD x 0=(oA p q p.length).getD x 0) (fun k w=>(p.length-1+(q.length-1)+1)-k) 0 (oA p q p.length) ⟨Nat.zero_le _,qV _ _ _,rfl,fun x _=>rfl⟩ ?_
     rintro k w L3 ⟨hk,hwl,hwt,hz⟩
     refine bY ?_
     refine aQ rfl (fun h92r h92=>?_) (fun h92r h92=>?_)
     ·have hkm:k<(p.length-1+(q.length-1)+1):=by omega
      have hS:=qY hpl hql hR1 hpR hqR p.length
      have hbd:=aFC (i:=p.length) (j:=0) hpl hql (by omega) hR
      have hg1:=d7 (by omega) hS k
      have hg2:=nS (n:=p.length-1+(q.length-1)) h _ (cD (i:=k) (by rw [kX];omega))
      have hzk:=hz k (Nat.le_refl _)
      rw [←hzk] at hg1
      refine cG ?_
      refine aP 12 (by decide +kernel) ?_
      refine cG ?_
      try simp only [t1,jU,Nat.zero_add]
      refine cp bI (aF0 _ _ (by omega)) ?_
      refine cG ?_
      exact qI (k+1) (w.set k (w.getD k 0/(nP (p.length-1+(q.length-1))).getD k 0)) ⟨by omega,by simp [hwl],kD (by rw [kL];omega) (by rw [kL,hwl]) hwt (by rw [aEX (by omega),hz k (Nat.le_refl _)]),fun x hx=>by rw [kF _ _ _ _ (by omega),if_neg (by omega)];exact hz x (by omega)⟩
     ·obtain rfl:k=(p.length-1+(q.length-1)+1):=by omega
      have hE:w=kN p q:=by
       rw [List.take_of_length_le (by omega),List.take_of_length_le (by rw [kL];omega)] at hwt
       exact hwt
      refine fI ?_
      rw [←hE]
      exact aFG [44] rfl rfl (cC aD rfl rfl (by omega)) rfl (.pure rfl)
end Go.Proofs.YtckppbhafancnaaGreat
namespace Go.Lg
theorem a7.cell {L:St} (b:Nat) {sz:Nat} {x y:LV} {mt:Bool} (hb:L.heap b=some ⟨sz,[x],mt⟩) (h:∀ Z μ w cs,bZ Z μ w x cs→bZ Z μ w y cs):a7 L (L.setB b (some ⟨sz,[y],mt⟩)):=by
 rintro n W X Z0 a w ⟨hdf,hsz,μ,Z,hc,hr⟩
 refine⟨hdf,hsz,μ,Z,?_,hr⟩
 have hs:∀ c,(L.setB b (some ⟨sz,[y],mt⟩)).heap c=if c=b then some ⟨sz,[y],mt⟩ else L.heap c:=fun c=>rfl
 refine⟨hc.keep,hc.zone,hc.zsup,hc.zsub,hc.inj,hc.own,hc.x0,hc.xlt,hc.x1,fun c id blk g1 g2=>?_,fun c id blk g1 g2=>?_,fun c id g1=>?_⟩
 ·rw [hs] at g2
  split at g2
  ·rename_i e;subst e;cases g2;exact hc.mutz c id ⟨sz,[x],mt⟩ g1 hb
  ·exact hc.mutz c id blk g1 g2
 ·rw [hs] at g2
  split at g2
  ·rename_i e;subst e;cases g2;exact hc.frz c id ⟨sz,[x],mt⟩ g1 hb
  ·exact hc.frz c id blk g1 g2
 ·obtain⟨blk,k1,k2⟩:=hc.heap c id g1
  rw [hs]
  by_cases e:c=b
  ·subst e
   rw [if_pos rfl]
   rw [hb] at k1
   cases k1
   refine⟨_,rfl,?_⟩
   obtain⟨cs,T,part,rest,e1,e2,e3⟩:=k2
   refine⟨cs,T,part,rest,e1,e2,?_⟩
   simp only [aM] at e3 ⊢
   obtain⟨c1,c2,q1,q2,q3,q4⟩:=e3
   exact⟨c1,c2,q1,q2,h _ _ _ _ q3,q4⟩
  ·rw [if_neg e];exact⟨blk,k1,k2⟩
theorem a7.newB (L:St) (d sz:Nat) (hd:L.heap d=none):a7 L (L.setB d (some ⟨sz,[],true⟩)):=by
 rintro n W X Z0 a w ⟨hdf,hsz,μ,Z,hc,hr⟩
 refine⟨hdf,hsz,μ,Z,?_,hr⟩
 refine hc.reheap fun c id hcd=>?_
 have:c≠d:=by rintro rfl;rw [jD hc hd] at hcd;cases hcd
 simp [St.setB,this]
theorem uD (d sz:Nat) (x y:LV) (Z:Nat→Prop) (μ:Nat→Option Nat) (w:World) (cs:List Value) (h:bZ Z μ w (.agg [x,y,.v (.slice none 0 0)]) cs):bZ Z μ w (.agg [x,y,.ref d sz 0 0]) cs:=by
 simp only [bZ,bV] at h ⊢
 obtain⟨c1,c2,e1,e2,e3,c3,c4,e4,e5,e6,c5,c6,e7,e8,e9,e10⟩:=h
 exact⟨c1,c2,e1,e2,e3,c3,c4,e4,e5,e6,c5,c6,e7,e8,.inl ⟨e9.1,trivial⟩,e10⟩
end Go.Lg
namespace Go.Proofs.YtckppbhafancnaaGreat
open Go.Lg
def _root_.Go.Lg.V3.at (p:V3):Nat→Rat
 | 0=>p.x
 | 1=>p.y
 | _=>p.z
def f8 (po:List PoR) (k:Nat):List Rat:=po.map fun q=>q.w*q.p.at k
def fG (po:List PoR):List Rat:=po.map fun q=>q.w
theorem pE (po:List PoR) (k:Nat):(f8 po k).length=po.length:=by simp [f8]
theorem oY (po:List PoR):(fG po).length=po.length:=by simp [fG]
theorem p7 {R:Nat} {p:V3} (h:fH R p):∀ k,rl (p.at k)≤R
 | 0=>h.1
 | 1=>h.2.1
 | _+2=>h.2.2
theorem aGq {R:Nat} {po:List PoR} (h:∀ q∈po,okP R q) (k:Nat):∀ x∈f8 po k,rl x≤2*R:=fun x hx=>by
 obtain⟨q,hq,rfl⟩:=List.mem_map.1 hx
 obtain⟨h1,h2,_⟩:=h q hq
 have h3:=p7 h1 k
 have h4:=bR q.w (q.p.at k)
 show rl (q.w*q.p.at k)≤_
 omega
theorem aFP {R:Nat} {po:List PoR} (h:∀ q∈po,okP R q):∀ x∈fG po,rl x≤R:=fun x hx=>by
 obtain⟨q,hq,rfl⟩:=List.mem_map.1 hx
 exact(h q hq).2.1
def nM (po:List PoR) (k:Nat):List Rat:=tL (·-·) (kN (gQ (f8 po k)) (fG po)) (kN (f8 po k) (gQ (fG po)))
theorem aBz {p:List Rat} {n:Nat} (hp:p.length=n+1) (h:∀ x∈p,rl x≤1073741824):upS p n:=⟨h,fun k hk=>by
 obtain rfl:k=0:=by omega
 exact h⟩
theorem yN (p q:List Rat) (n:Nat) (hn:n≤40) (hp:p.length=n+1) (hq:q.length=n+1) (hpR:∀ x∈p,rl x≤1073741824) (hqR:∀ x∈q,rl x≤1073741824):aN Tryz.prog 251 [.list 3 (p.map ratL),.list 3 (q.map ratL)] (.list 3 ((tL (·-·) p q).map ratL)):=by
 have:=aJA p q n (by omega) (by omega) (by omega) (by omega) (by omega) (.inl hp) (aBz hp hpR) (aBz hq hqR)
 rwa [aAE (by omega),aAE (by omega)] at this
theorem aAO {p q:List Rat} {R:Nat} (h:p.length-1+(q.length-1)≤40) (hpl:p.length≤41) (hql:q.length≤41) (hR1:1≤R) (hR:R≤100) (hpR:∀ x∈p,rl x≤R) (hqR:∀ x∈q,rl x≤R):∀ x∈kN p q,rl x≤344700:=fun x hx=>by
 obtain⟨k,hk,rfl⟩:=List.mem_map.1 hx
 have hS:=qY hpl hql hR1 hpR hqR p.length
 have hbd:p.length*(q.length*(2*R+5))≤41*(41*205):=Nat.mul_le_mul hpl (Nat.mul_le_mul hql (by omega))
 have hg1:=d7 (by omega) hS k
 have hg2:=d7 (S:=2) (by decide) (nS (n:=p.length-1+(q.length-1)) h) k
 have h3:=iZ ((oA p q p.length).getD k 0) ((nP (p.length-1+(q.length-1))).getD k 0)
 omega
theorem aDh {R:Nat} {p q:List Rat} {g:Rat→Rat→Rat} (hg:∀ a b,rl (g a b)≤rl a+rl b+1) (hR:1≤R) (hp:∀ x∈p,rl x≤R) (hq:∀ x∈q,rl x≤R):∀ x∈tL g p q,rl x≤2*R+1:=fun x hx=>by
 obtain⟨i,_,rfl⟩:=List.mem_map.1 hx
 have h1:=d7 hR hp i
 have h2:=d7 hR hq i
 have h3:=hg (p.getD i 0) (q.getD i 0)
 omega
structure cvF (po:List PoR) (d:Nat):Prop where
 hl:po.length=d+1
 hd:1≤d
 h6:d≤6
 ok:∀ q∈po,okP 1 q
section
variable {po:List PoR} {d:Nat} (h:cvF po d)
theorem cvF.n (h:cvF po d) (k:Nat):(f8 po k).length=d+1∧∀ x∈f8 po k,rl x≤2:=⟨by rw [pE,h.hl],aGq h.ok k⟩
theorem cvF.w (h:cvF po d):(fG po).length=d+1∧∀ x∈fG po,rl x≤2:=⟨by rw [oY,h.hl],fun x hx=>Nat.le_trans (aFP h.ok x hx) (by decide)⟩
theorem cvF.dn (h:cvF po d) (k:Nat):(gQ (f8 po k)).length=d∧∀ x∈gQ (f8 po k),rl x≤8:=by
 obtain⟨h1,h2⟩:=h.n k
 have:=h.hd
 have:=h.h6
 exact⟨by rw [mP,h1,if_neg (by omega)];omega,tQ (by decide) (by omega) h2⟩
theorem cvF.dw (h:cvF po d):(gQ (fG po)).length=d∧∀ x∈gQ (fG po),rl x≤8:=by
 obtain⟨h1,h2⟩:=h.w
 have:=h.hd
 have:=h.h6
 exact⟨by rw [mP,h1,if_neg (by omega)];omega,tQ (by decide) (by omega) h2⟩
theorem cvF.m1 (h:cvF po d) (k:Nat):(kN (gQ (f8 po k)) (fG po)).length=2*d-1+1∧∀ x∈kN (gQ (f8 po k)) (fG po),rl x≤344700:=by
 obtain⟨h1,h2⟩:=h.dn k
 obtain⟨h3,h4⟩:=h.w
 have:=h.hd
 have:=h.h6
 exact⟨by rw [kL,h1,h3];omega,aAO (R:=8) (by omega) (by omega) (by omega) (by decide) (by decide) h2 (fun x hx=>Nat.le_trans (h4 x hx) (by decide))⟩
theorem cvF.m2 (h:cvF po d) (k:Nat):(kN (f8 po k) (gQ (fG po))).length=2*d-1+1∧∀ x∈kN (f8 po k) (gQ (fG po)),rl x≤344700:=by
 obtain⟨h1,h2⟩:=h.n k
 obtain⟨h3,h4⟩:=h.dw
 have:=h.hd
 have:=h.h6
 exact⟨by rw [kL,h1,h3];omega,aAO (R:=8) (by omega) (by omega) (by omega) (by decide) (by decide) (fun x hx=>Nat.le_trans (h2 x hx) (by decide)) h4⟩
theorem cvF.t (h:cvF po d) (k:Nat):(nM po k).length=2*d-1+1∧∀ x∈nM po k,rl x≤689401:=by
 obtain⟨h1,h2⟩:=h.m1 k
 obtain⟨_,h4⟩:=h.m2 k
 exact⟨by rw [nM,rP,h1],fun x hx=>aDh d9 (by decide) h2 h4 x hx⟩
end
theorem yZ {Z:Nat→Prop} {μ:Nat→Option Nat} {w:World} {cs:List Value} (d sz:Nat) (h:bZ Z μ w (.v (.slice none 0 0)) cs):bZ Z μ w (.ref d sz 0 0) cs:=by
 simp only [bZ] at h ⊢
 exact .inl ⟨h.1,trivial⟩
theorem aF6 (a b c d:Nat) (sz:Nat) (Z:Nat→Prop) (μ:Nat→Option Nat) (w:World) (cs:List Value) (h:bZ Z μ w (.agg [.v (.slice none 0 0),.v (.slice none 0 0),.v (.slice none 0 0),.v (.slice none 0 0)]) cs) :
  bZ Z μ w (.agg [.ref a sz 0 0,.ref b sz 0 0,.ref c sz 0 0,.ref d sz 0 0]) cs:=by
 simp only [bZ.eq_4,bV] at h ⊢
 obtain⟨c1,c2,e1,e2,e3,c3,c4,e4,e5,e6,c5,c6,e7,e8,e9,c7,c8,e10,e11,e12,e13⟩:=h
 exact⟨c1,c2,e1,e2,yZ _ _ e3,c3,c4,e4,e5,yZ _ _ e6,c5,c6,e7,e8,yZ _ _ e9,c7,c8,e10,e11,yZ _ _ e12,e13⟩
theorem iY {α β:Type} [Inhabited α] (f:α→β) (l:List α) {j:Nat} (h:j<l.length):(l.map f).take j++[f (l.getD j default)]=(l.map f).take (j+1):=by
 rw [List.take_add_one,List.getElem?_map,List.getElem?_eq_getElem h,List.getD_eq_getElem?_getD,List.getElem?_eq_getElem h];rfl
theorem jY {po:List PoR} {j:Nat} (h:j<po.length):po.getD j default∈po:=by
 rw [List.getD_eq_getElem?_getD,List.getElem?_eq_getElem h];exact List.getElem_mem h
open H0 in
theorem sZ (p q:List Rat) (R:Nat) (hp0:0<p.length) (hq0:0<q.length) (h:p.length-1+(q.length-1)≤40) (hR1:1≤R) (hR:R≤67108864) (hpR:∀ x∈p,rl x≤R) (hqR:∀ x∈q,rl x≤R):aN Tryz.prog 252 [.list 3 (p.map ratL),.list 3 (q.map ratL)] (.list 3 ((kN p q).map ratL)):=by
 refine dJ Tryz.func252 ?_
 refine eP ?_
 refine cp bI (aJ7 p q R hp0 hq0 h hR1 hR hpR hqR) ?_
 refine eX ?_
 exact b8 rfl (by first | exact .pure rfl | exact .pure (bF _) | exact .pure (aR _) | exact .pure (aD.pure _) | exact .pure (aJ cV _ _) | exact .pure (aJ aD _ _))
theorem aFU {a:Rat} (h:dM a=0):a=0:=by
 rcases aEp a with⟨g,e⟩ | ⟨_,e⟩ | ⟨_,e⟩
 ·exact g
 ·rw [e] at h;cases h
 ·rw [e] at h;cases h
namespace Zq71
theorem cK {p q:Prop} (k:q) (e:p=q:=by simp only [e1,e2,e3,e4,p1,p2,p3,q1,q2,q3,l1,t0,t1,r1,r2,r3,r4,Nat.zero_add,Nat.reduceMul,Nat.reduceAdd,b1,b2,b3,b4,b5,b6,i1,i2,i3,i4,i5,i6,Nat.reduceBEq,jU,ejm,List.length_set];exact rfl):p:=e.mpr k
end Zq71
open Zq71 in
theorem aD7 (p:List Rat) (n:Nat) (hpl:p.length=n) (hn0:0<n) (hn:n≤1048576):fZ Tryz.prog 179 ⟨3,p.map ratL,true⟩ [.ref 0 3 0 n] (.tup []) ⟨3,p.reverse.map ratL,true⟩:=by
 refine fnM Tryz.func179 ?_
 have ejm:True:=trivial
 refine cB ?_
 refine aB rfl (.bin rfl rfl (iJ (by omega) (by omega))) ?_
 refine dX ?_
 refine lp3 (fun(i j:Nat) (o:List Rat) L=>((((St.mk L.slot (hp [(0,⟨3,o.map ratL,true⟩)])).put (some 0) (.ref 0 3 0 n)).put (some 2) (aG i)).put (some 3) (aG j))) (fun i j o=>j+i+1=n∧o.length=n∧∀ x,x<n→o.getD x 0=if x<i∨n≤x+i then p.getD (n-1-x) 0 else p.getD x 0) (fun i j o=>j) 0 (n-1) p ⟨by omega,hpl,fun x hx=>by rw [if_neg (by omega)]⟩ ?_
 rintro i j o L1 ⟨hij,hol,hg⟩
 refine eI ?_
 refine aQ rfl (fun h9r h9=>?_) (fun h9r h9=>?_)
 ·have ejm:((j:Int)-1)=((j-1:Nat):Int):=by omega
  refine cB ?_
  refine dH 13 [2,3] (by decide +kernel) ?_
  refine aKv ?_
  exact nx3 (i+1) (j-1) ((o.set i (o.getD j 0)).set j (o.getD i 0)) ⟨by omega,by simp [hol],aEZ hpl hol (by omega) hij hg⟩
 ·refine cB ?_
  have hE:=aIz hpl hol (by omega) hg
  rw [←hE]
  exact aLt rfl rfl (aF aD _)
namespace Zq62
theorem cK {p q:Prop} (k:q) (e:p=q:=by simp only [e1,e2,e3,e4,p1,p2,p3,q1,q2,q3,l1,t0,t1,r1,r2,r3,r4,Nat.zero_add,Nat.reduceMul,Nat.reduceAdd,b1,b2,b3,b4,b5,b6,i1,i2,i3,i4,i5,i6,Nat.reduceBEq,jU,r1r,aC aD,aT,a6,LV.kill,bH];exact rfl):p:=e.mpr k
end Zq62
open Zq62 in
theorem aKk (p:List Rat) (a b:Rat) (hp0:0<p.length) (hl:p.length≤1048576) (hpr:∀ x∈p,rl x≤274877906944) (hab:rl a+rl b≤1073741824) (g1:1-a≠0→HS p a∧HS (uQ p a) ((b-a)/(1-a))) (g2:1-a=0→b≠0→HS p b∧HS (x6 p b) (1/b)):aN Tryz.prog 94 [.list 3 (p.map ratL),ratL a,ratL b] (.list 3 ((oD p a b).map ratL)):=by
 have hr1:=d9 1 a
 have hr2:=d9 b a
 have hrr:rl 1=1:=rfl
 refine dJ Tryz.func94 ?_
 refine eP ?_
 refine cp cS (mJ 1 (by decide) (by decide)) ?_
 refine eP ?_
 refine cp bI (iX 1 a (by omega)) ?_
 refine dP ?_
 refine cp cS (jF (1-a) (by omega)) ?_
 refine dI ?_
 refine aQ rfl (fun h24r h24=>?_) (fun h24r h24=>?_)
 ·have hne:1-a≠0:=aCX h24
  obtain⟨gA,gB⟩:=g1 hne
  have hE:oD p a b=x6 (uQ p a) ((b-a)/(1-a)):=by rw [oD,if_pos hne]
  refine cB ?_
  refine cp bI (mL p a gA) ?_
  refine eI ?_
  refine aP 12 (by decide +kernel) ?_
  refine dI ?_
  refine cp bI (iX b a (by omega)) ?_
  refine bD ?_
  refine cp bI (aF0 (b-a) (1-a) (by omega)) ?_
  refine cp bI (mL (uQ p a) ((b-a)/(1-a)) gB) ?_
  refine iR ?_
  rw [hE]
  exact b8 rfl (by first | exact .pure rfl | exact .pure (bF _) | exact .pure (aR _) | exact .pure (aD.pure _) | exact .pure (aJ cV _ _) | exact .pure (aJ aD _ _))
 ·have hne:1-a=0:=aFU (by omega)
  refine bY ?_
  refine cp cS (jF b (by omega)) ?_
  refine dI ?_
  refine aQ rfl (fun h44r h44=>?_) (fun h44r h44=>?_)
  ·have hnb:b≠0:=aCX h44
   obtain⟨gA,gB⟩:=g2 hne hnb
   have hE:oD p a b=uQ (x6 p b) (1/b):=by rw [oD,if_neg (by rw [hne];simp),if_pos hnb]
   refine cB ?_
   refine cp bI (mL p b gA) ?_
   refine cH ?_
   refine cp bI (aF0 1 b (by omega)) ?_
   refine cp bI (mL (x6 p b) (1/b) gB) ?_
   refine iR ?_
   rw [hE]
   exact b8 rfl (by first | exact .pure rfl | exact .pure (bF _) | exact .pure (aR _) | exact .pure (aD.pure _) | exact .pure (aJ cV _ _) | exact .pure (aJ aD _ _))
  ·have hnb:b=0:=aFU (by omega)
   have hE:oD p a b=p.reverse:=by rw [oD,if_neg (by rw [hne];simp),if_neg (by rw [hnb];simp)]
   refine dX ?_
   refine lJ [] rfl rfl (.cons (.pure (aJ aD _ _)) .nil) (sM p hl hpr) (aF aD _) rfl ?_
   refine bY ?_
   refine iO 1000977 rfl rfl rfl (aF aD _) (.cons .ref .nil) (.ref hp0) (aD7 p p.length rfl hp0 hl) rfl (aF aD _) ?_
   refine eP ?_
   rw [hE]
   exact jV [1000977] rfl rfl (cC aD rfl rfl (by simp))
def lin (α β:Rat):Rat→List Rat→List Rat
 | c,[]=>[β*c]
 | c,x :: l=>(β*c+α*x) :: lin α β x l
inductive KS:Nat→List Rat→Prop
 | z {s:Int} {l:List Rat}:l≠[]→s=1∨s=-1→(∀ x∈l,dM x=s)→KS 0 l
 | r {n:Nat} {l:List Rat} {a b:Rat}:KS n l→0<a→0<b→KS (n+1) (lin (-a) b 0 l)
theorem aEY {P:Program} {L:St} {a u:Nat} {T U:TypeId} {b c sz sy:Nat} {x y x' y':LV} {m m':Bool} {n n':Nat} {ag ag':Bool} (bs:List Nat) (h0:bs.contains 0=false) (h:L.slot a=.eptr b sz 0 0) (hb:L.heap b=some ⟨sz,[x],m⟩)
  (hx:x.csize=sz) (hat:x.at 0 n ag=some x) (hT:bT P T n ag) (hi:Imm (L.frz bs).heap x y) (h':L.slot u=.eptr c sy 0 0) (hc:L.heap c=some ⟨sy,[x'],m'⟩)
  (hx':x'.csize=sy) (hat':x'.at 0 n' ag'=some x') (hT':bT P U n' ag') (hi':Imm (L.frz bs).heap x' y'):n9 P [.cell a T,.cell u U] L (.tup [y,y']) [] :=
 ⟨[x,x'],[y,y'],(L.frz bs).heap,[],.cons ⟨b,sz,0,0,_,x,n,ag,h,hb,rfl,rfl,hx,hat,hT⟩ (.cons ⟨c,sy,0,0,_,x',n',ag',h',hc,rfl,rfl,hx',hat',hT'⟩ .nil),kQ bs h0,.cons (.imm hi) (.cons (.imm hi') .nil),List.nodup_nil,rfl,fun k b h=>by simp at h,rfl⟩
section
variable {P:Program} {H:cM} {ρ:Operand→LV} {T E:TypeId}
end
theorem aKe (po:List PoR) (i:Nat):(po.map (·.p)).getD i default=(po.getD i default).p:=by
 rw [List.getD_eq_getElem?_getD,List.getD_eq_getElem?_getD,List.getElem?_map]
 cases po[i]?<;>rfl
def aCn {α:Type} (pr:α→Bool) (l:List α):Int:=if l.any pr then(l.findIdx pr:Nat) else -1
theorem aAy {α:Type} [Inhabited α] {pr:α→Bool} {l:List α} {i:Nat} (hi:i<l.length) (h0:∀ j,j<i→pr (l.getD j default)=false) (h:pr (l.getD i default)=true):aCn pr l=(i:Int):=by
 have hg:∀ j (hj:j<l.length),l.getD j default=l[j]:=fun j hj=>by rw [List.getD_eq_getElem?_getD,List.getElem?_eq_getElem hj];rfl
 have e:l.findIdx pr=i:=by
  rw [List.findIdx_eq hi]
  refine⟨by rw [←hg i hi];exact h,fun j hj=>?_⟩
  rw [←hg j (by omega)];exact h0 j hj
 have ha:l.any pr=true:=List.any_eq_true.2 ⟨l[i],List.getElem_mem hi,by rw [←hg i hi];exact h⟩
 unfold aCn
 rw [if_pos ha,e]
theorem aEk {α:Type} [Inhabited α] {pr:α→Bool} {l:List α} (h0:∀ j,j<l.length→pr (l.getD j default)=false):aCn pr l=-1:=by
 have ha:l.any pr=false:=by
  rw [List.any_eq_false]
  intro x hx
  obtain⟨i,hi,rfl⟩:=List.mem_iff_getElem.1 hx
  have:=h0 i hi
  rw [List.getD_eq_getElem?_getD,List.getElem?_eq_getElem hi] at this
  simpa using this
 unfold aCn
 rw [if_neg (by rw [ha];decide)]
theorem aDp {a b:Nat} (h:aZ a=aZ b):a=b:=by rw [←aX a,h,aX]
section
variable {a b:Rat}
theorem aNq (h2:decide (aZ a.num.natAbs=aZ b.num.natAbs)=false):false=decide (a=b):=by
 symm;rw [decide_eq_false_iff_not];rintro rfl;simp at h2
theorem aNY (h:(decide (a<0)==decide (b<0))=true) (h2:decide (aZ a.num.natAbs=aZ b.num.natAbs)=true):decide (aZ (jL a)=aZ (jL b))=decide (a=b):=by
 rw [decide_eq_decide,aBm]
 exact⟨fun h3=>⟨eq_of_beq h,aDp (of_decide_eq_true h2),aDp h3⟩,fun h3=>by rw [h3.2.2]⟩
end
def sY (k:List Rat) (t:Rat):Nat→Nat
 | 0=>0
 | i+1=>sY k t i+(if k.getD i 0=t then 1 else 0)
theorem aGQ (k:List Rat) (t:Rat):∀ i,sY k t i≤i
 | 0=>Nat.le_refl _
 | i+1=>by have:=aGQ k t i;rw [sY];split<;>omega
def iP (k:List Rat):Nat→List Rat
 | 0=>[]
 | i+1=>if i=0∨k.getD i 0≠k.getD (i-1) 0 then iP k i++[k.getD i 0] else iP k i
theorem aE1 (k:List Rat):∀ i,(iP k i).length≤i
 | 0=>Nat.le_refl _
 | i+1=>by
  have:=aE1 k i
  rw [iP];split
  ·simp;omega
  ·omega
theorem yU (k:List Rat):∀ i,i≤k.length→∀ x∈iP k i,x∈k
 | 0,_,x,h=>by cases h
 | i+1,hi,x,h=>by
  rw [iP] at h
  split at h
  ·rcases List.mem_append.1 h with h | h
   ·exact yU k i (by omega) x h
   ·rw [List.mem_singleton.1 h];exact cD (by omega)
  ·exact yU k i (by omega) x h
structure kOK (k:List Rat) (d:Nat):Prop where
 d1:1≤d
 d6:d≤6
 len:2*d+2≤k.length
 max:k.length≤d+41
 srt:∀ i,i+1<k.length→k.getD i 0≤k.getD (i+1) 0
 ne:k.getD 0 0≠k.getD (k.length-1) 0
 endk:∀ t∈k,(t=k.getD 0 0∨t=k.getD (k.length-1) 0)→sY k t k.length=d+1
 ink:∀ t∈k,t≠k.getD 0 0→t≠k.getD (k.length-1) 0→sY k t k.length≤d
 sz:∀ x∈k,rl x≤64
theorem zC {k:List Rat}:∀ i,i≤k.length→(∀ j,1≤j→j<i→k.getD j 0≠k.getD (j-1) 0)→iP k i=k.take i
 | 0,_,_=>rfl
 | i+1,hi,h=>by
  rw [iP,zC i (by omega) (fun j h1 h2=>h j h1 (by omega)),if_pos (by
   by_cases e:i=0
   ·exact .inl e
   ·exact .inr (h i (by omega) (by omega))),List.take_add_one,List.getD_eq_getElem?_getD,List.getElem?_eq_getElem (by omega)];rfl
theorem aLg {k:List Rat} {i:Nat} (h0:0<i) (h:k.getD i 0≠k.getD (i-1) 0):iP k (i+1)=iP k i++[k.getD i 0]:=by rw [iP,if_pos (.inr h)]
theorem aHO {k:List Rat} {i:Nat} (h0:0<i) (h:k.getD i 0=k.getD (i-1) 0):iP k (i+1)=iP k i:=by rw [iP,if_neg (fun e=>e.elim (fun e=>by omega) (fun e=>e h))]
theorem aJT {w:List Rat} {m n:Nat} (hm:m≤n) (hw:w.length=n):(w.map ratL).take m++List.replicate (n-m) (ratL 0)++(w.map ratL).drop (m+(n-m))=(w.take m++List.replicate (n-m) 0).map ratL:=by
 rw [List.drop_of_length_le (by simp;omega)]
 simp [List.map_take]
theorem lM {l:List Rat} {k:Nat} (h:k<l.length):l.take k++[l.getD k 0]=l.take (k+1):=by
 rw [List.take_add_one,List.getElem?_eq_getElem h,List.getD_eq_getElem?_getD,List.getElem?_eq_getElem h];rfl
theorem aID {α:Type} {e:α→LV} {ag:Bool} {bs:List Nat} {L:St} {b sz len:Nat} {l m:List α} {t:Bool} (he:EncOK e sz ag) (hb:L.heap b=some ⟨sz,(l++m).map e,t⟩) (hbs:bs.contains b=true) (hl:len=l.length):Imm (L.frz bs).heap (.ref b sz 0 len) (.list sz (l.map e)):=by
 have:=o5 (off:=0) (len:=len) hb hbs (aF he _) (by simp;omega)
 subst hl
 rwa [List.drop_zero,←List.map_take,List.take_left] at this
open H0 in
theorem lY (a b:Rat) (h:rl a+rl b≤1099511627776):aN Tryz.prog 156 [ratL a,ratL b] (bL (decide (a=b))):=by
 have a1:=gX a
 have a3:=gD a
 have c1:=gX b
 have c3:=gD b
 refine dJ Tryz.func156 ?_
 refine iR ?_
 refine eD 10 rfl (fun h10r h10=>?_) (fun h10r h10=>?_)
 ·refine cB ?_
  refine cp bI (uE _ _ (by omega) (by omega)) ?_
  refine cU ?_
  refine eD 17 rfl (fun h17r h17=>?_) (fun h17r h17=>?_)
  ·refine cB ?_
   refine cp bI (uE _ _ (by omega) (by omega)) ?_
   refine dX ?_
   rw [←aNY h10r h17r]
   exact b8 rfl (by first | exact .pure rfl | exact .pure (bF _) | exact .pure (aR _) | exact .pure (aD.pure _) | exact .pure (aJ cV _ _) | exact .pure (aJ aD _ _))
  ·refine cG ?_
   rw [←aNq h17r]
   exact b8 rfl (by first | exact .pure rfl | exact .pure (bF _) | exact .pure (aR _) | exact .pure (aD.pure _) | exact .pure (aJ cV _ _) | exact .pure (aJ aD _ _))
 ·refine jT ?_
  rw [←aLI h10r]
  exact b8 rfl (by first | exact .pure rfl | exact .pure (bF _) | exact .pure (aR _) | exact .pure (aD.pure _) | exact .pure (aJ cV _ _) | exact .pure (aJ aD _ _))
namespace Zq36
theorem cK {p q:Prop} (k:q) (e:p=q:=by simp only [e1,e2,e3,e4,p1,p2,p3,q1,q2,q3,l1,t0,t1,r1,r2,r3,r4,Nat.zero_add,Nat.reduceMul,Nat.reduceAdd,b1,b2,b3,b4,b5,b6,i1,i2,i3,i4,i5,i6,Nat.reduceBEq,jU,eij,eii,List.set_cons_zero,List.set_cons_succ,Nat.reduceEqDiff,reduceIte,if_true,if_false,a8,a9,aC cW,aC dR,aC aD,aT,a6,LV.kill,bH];exact rfl):p:=e.mpr k
end Zq36
open Zq36 in
theorem aBQ (f:Nat) (k:List Rat) (h0:0<k.length) (hl:k.length≤1048576) (hs:∀ i,i+1<k.length→k.getD i 0≤k.getD (i+1) 0) (hf:∀ x∈k,∀ y∈k,aN Tryz.prog f [ratL x,ratL y] (iL (g6 x y))):aN Tryz.prog 239 [.list 3 (k.map ratL),.clo f []] (bL true):=by
 refine dJ Tryz.func239 ?_
 have eij:True:=trivial
 have eii:True:=trivial
 refine cG ?_
 refine aB rfl (.bin rfl rfl (iJ (by omega) (by omega))) ?_
 refine cB ?_
 refine lO (fun(i:Nat) L=>((((St.mk L.slot (hp [])).put (some 0) (.list 3 (k.map ratL))).put (some 1) (.clo f [])).put (some 5) (aG i))) (fun i=>i<k.length) (fun i=>i) (k.length-1) (by omega) ?_
 rintro i L1 hi
 refine dP ?_
 refine aQ rfl (fun h10r h10=>?_) (fun h10r h10=>?_)
 ·have rC:0<i:=by omega
  have eij:((i:Int)-1).toNat=i-1:=by omega
  have eii:((i:Int)).toNat=i:=by omega
  have hc:=hf _ (cD (p:=k) (i:=i) hi) _ (cD (p:=k) (i:=i-1) (by omega))
  have hge:=hs (i-1) (by omega)
  rw [Nat.sub_add_cancel (by omega)] at hge
  have hcg:0≤g6 (k.getD i 0) (k.getD (i-1) 0):=l9.2 hge
  refine dX ?_
  refine aP 12 (by decide +kernel) ?_
  refine dP ?_
  refine aB rfl (.bin rfl rfl (iJ (by omega) (by omega))) ?_
  refine cU ?_
  refine gE [] rfl rfl (.clo (f:=f) (cap:=[]) (args:=[ratL (k.getD i 0),ratL (k.getD (i-1) 0)]) rfl (.cons nJ (.cons nJ .nil)) ⟨rfl,fun _ h=>by cases h⟩ hc.1 (by decide) (fun _ h=>by cases h)) (hc.2 _) ?_
  refine dI ?_
  refine aQ rfl (fun h24r h24=>?_) (fun h24r h24=>?_)
  ·omega
  ·refine dX ?_
   refine aB rfl (.bin rfl rfl (iJ (by omega) (by omega))) ?_
   refine dI ?_
   exact kE (i-1) (by omega)
 ·refine cQ ?_
  exact b8 rfl (.pure rfl)
namespace Zq39
theorem cK {p q:Prop} (k:q) (e:p=q:=by simp only [e1,e2,e3,e4,p1,p2,p3,q1,q2,q3,l1,t0,t1,r1,r2,r3,r4,Nat.zero_add,Nat.reduceMul,Nat.reduceAdd,b1,b2,b3,b4,b5,b6,i1,i2,i3,i4,i5,i6,Nat.reduceBEq,jU,List.set_cons_zero,List.set_cons_succ,Nat.reduceEqDiff,reduceIte,if_true,if_false,a8,a9,aC cW,aC dR,aC aD,aT,a6,LV.kill,bH];exact rfl):p:=e.mpr k
end Zq39
open Zq39 in
theorem aHf (k:List Rat) (hl:k.length≤1048576) (hr:∀ x∈k,rl x≤549755813888) (t:Rat) (ht:rl t≤549755813888):aN Tryz.prog 158 [.list 3 (k.map ratL),ratL t] (aG (sY k t k.length)):=by
 refine dJ Tryz.func158 ?_
 refine nH ?_
 refine lO (fun(i:Nat) L=>((((((St.mk L.slot (hp [(3,⟨3,[ratL t],true⟩)])).put (some 3) (.eptr 3 3 0 0)).put (some 5) (aG (sY k t i))).put (some 8) (.list 3 (k.map ratL))).put (some 9) (aG k.length)).put (some 10) (aG i))) (fun i=>i≤k.length) (fun i=>k.length-i) 0 (Nat.zero_le _) ?_
 rintro i L1 hi
 refine bY ?_
 refine aQ rfl (fun h11r h11=>?_) (fun h11r h11=>?_)
 ·have rC:i<k.length:=by omega
  have hx:=hr _ (cD (i:=i) (by omega))
  have htl:=aGQ k t i
  refine n8 ?_
  refine cp bI (lY (k.getD i 0) t (by omega)) ?_
  refine cU ?_
  refine aQ rfl (fun h16r h16=>?_) (fun h16r h16=>?_)
  ·have hT:sY k t (i+1)=sY k t i+1:=by rw [sY,if_pos h16]
   refine cU ?_
   refine aB rfl (.bin rfl rfl (dA (by omega))) ?_
   refine cB ?_
   refine bG (a7.kill _ 7) ?_
   refine aB rfl (.bin rfl rfl (dA (by omega))) ?_
   refine dI ?_
   exact kE (i+1) (by omega)
  ·have hT:sY k t (i+1)=sY k t i:=by rw [sY,if_neg h16];rfl
   refine dI ?_
   refine bG (a7.kill _ 7) ?_
   refine aB rfl (.bin rfl rfl (dA (by omega))) ?_
   refine dI ?_
   exact kE (i+1) (by omega)
 ·obtain rfl:i=k.length:=by omega
  refine cH ?_
  exact b8 rfl (.pure rfl)
namespace Zq11
theorem cK {p q:Prop} (k:q) (e:p=q:=by simp only [e1,e2,e3,e4,p1,p2,p3,q1,q2,q3,l1,t0,t1,r1,r2,r3,r4,Nat.zero_add,Nat.reduceMul,Nat.reduceAdd,b1,b2,b3,b4,b5,b6,i1,i2,i3,i4,i5,i6,Nat.reduceBEq,jU,eij,eii,eik,eia,ecl,eyl,ewa,ewb,Nat.zero_add,Nat.add_zero,List.length_set,List.length_map,List.set_cons_zero,List.set_cons_succ,Nat.reduceEqDiff,reduceIte,if_true,if_false,a8,a9,aC cW,aC dR,aC aD,aT,a6,LV.kill,bH];exact rfl):p:=e.mpr k
end Zq11
open Zq11 in
theorem aDL (f:Nat) (l:List Rat) (h0:0<l.length) (hl:l.length≤1048576) (hf:∀ x∈l,∀ y∈l,aN Tryz.prog f [ratL x,ratL y] (bL (decide (x=y)))):fZ Tryz.prog 154 ⟨3,l.map ratL,true⟩ [.ref 0 3 0 l.length,.clo f []] (.ref 0 3 0 (iP l l.length).length) ⟨3,((iP l l.length)++List.replicate (l.length-(iP l l.length).length) 0).map ratL,true⟩:=by
 refine fnM Tryz.func154 ?_
 have eij:True:=trivial
 have eii:True:=trivial
 have eik:True:=trivial
 have eia:True:=trivial
 have ecl:True:=trivial
 have eyl:True:=trivial
 have ewa:True:=trivial
 have ewb:True:=trivial
 refine fI ?_
 refine aQ rfl (fun h10r h10=>?_) (fun h10r h10=>?_)
 ·obtain rfl1:l.length=1:=by omega
  have hE:(iP l l.length)=l:=by rw [zC _ (Nat.le_refl _) (fun j h1 h2=>by omega),List.take_length]
  refine eI ?_
  first | (rw [hE,Nat.sub_self,List.replicate_zero,List.append_nil];exact nN rfl .ref rfl rfl (aF aD _)) | (exact nN rfl .ref (by first | rfl | (simp;done)) rfl (aF aD _))
 ·refine eP ?_
  refine lO (fun(i:Nat) L=>((((St.mk L.slot (hp [(0,⟨3,l.map ratL,true⟩)])).put (some 0) (.ref 0 3 0 l.length)).put (some 1) (.clo f [])).put (some 5) (aG i))) (fun i=>1≤i∧i≤l.length∧∀ j,1≤j→j<i→l.getD j 0≠l.getD (j-1) 0) (fun i=>l.length-i) 1 ⟨Nat.le_refl _,by omega,fun j h1 h2=>by omega⟩ ?_
  rintro i L1 ⟨hi1,hil,hne⟩
  refine eP ?_
  refine aQ rfl (fun h15r h15=>?_) (fun h15r h15=>?_)
  ·have rC:i<l.length:=by omega
   have eij:((i:Int)-1).toNat=i-1:=by omega
   have eii:((i:Int)).toNat=i:=by omega
   have hc:=hf _ (cD (p:=l) (i:=i) rC) _ (cD (p:=l) (i:=i-1) (by omega))
   refine dX ?_
   refine aP 11 (by decide +kernel) ?_
   refine dP ?_
   refine aB rfl (.bin rfl rfl (iJ (by omega) (by omega))) ?_
   refine cU ?_
   try simp only [t1,jU,eij,eii,Nat.zero_add]
   refine gE [] rfl rfl (.clo (f:=f) (cap:=[]) (args:=[ratL (l.getD i 0),ratL (l.getD (i-1) 0)]) rfl (.cons nJ (.cons nJ .nil)) ⟨rfl,fun _ h=>by cases h⟩ hc.1 (by decide) (fun _ h=>by cases h)) (hc.2 _) ?_
   refine cU ?_
   refine aQ rfl (fun h28r h28=>?_) (fun h28r h28=>?_)
   ·have hdi:iP l (i+1)=iP l i:=aHO (by omega) h28
    have hdt:iP l i=l.take i:=zC i hil hne
    have hln:(l.take i).length=i:=by rw [List.length_take];omega
    have hst:1≤1∧i+1≤l.length∧l.length=l.length∧(iP l (i+1)).length+1≤i+1∧l.take (iP l (i+1)).length=iP l (i+1)∧∀ x,i+1-1≤x→l.getD x 0=l.getD x 0:=⟨Nat.le_refl _,by omega,rfl,by rw [hdi,hdt,hln];omega,by rw [hdi,hdt,hln],fun _ _=>rfl⟩
    have eia:(iP l (i+1)).length=i:=by rw [hdi,hdt,hln]
    refine cB ?_
    refine aB rfl (.sliceR (a:=i) (h:=l.length) rfl Tryz.underlying25 dD (fun y hy=>by cases hy;exact⟨_,rfl⟩) (fun h=>by cases h) (fun y hy=>by cases hy) (fun _=>rfl) om om om) ?_
    refine cG ?_
    refine wE (fun(j:Nat) (w:List Rat) L=>((((((St.mk L.slot (hp [(0,⟨3,w.map ratL,true⟩)])).put (some 0) (.ref 0 3 0 l.length)).put (some 1) (.clo f [])).put (some 5) (aG (iP l (i+j)).length)).put (some 6) (.ref 0 3 i (l.length-i))).put (some 7) (aG j))) (fun j w=>1≤j∧i+j≤l.length∧w.length=l.length∧(iP l (i+j)).length+1≤i+j∧w.take (iP l (i+j)).length=(iP l (i+j))∧∀ x,i+j-1≤x→w.getD x 0=l.getD x 0) (fun j w=>l.length-(i+j)) 1 l hst ?_
    rintro j w L2 ⟨hj1,hij,hwl,hdl,hwt,hwx⟩
    refine eP ?_
    refine aQ rfl (fun h35r h35=>?_) (fun h35r h35=>?_)
    ·have hi3:i+j<l.length:=by omega
     have ewa:w.getD (i+j) 0=l.getD (i+j) 0:=hwx _ (by omega)
     have ewb:w.getD (i+(j-1)) 0=l.getD (i+j-1) 0:=by rw [show i+(j-1)=i+j-1 by omega];exact hwx _ (by omega)
     have eik:((j:Int)-1).toNat=j-1:=by omega
     have hc:=hf _ (cD (p:=l) (i:=i+j) hi3) _ (cD (p:=l) (i:=i+j-1) (by omega))
     have hd2:(iP l (i+j)).length<l.length:=by omega
     refine dX ?_
     refine aP 12 (by decide +kernel) ?_
     refine dP ?_
     refine aB rfl (.bin rfl rfl (iJ (by omega) (by omega))) ?_
     refine cU ?_
     try simp only [t1,jU,eik,ewa,ewb]
     refine gE [] rfl rfl (.clo (f:=f) (cap:=[]) (args:=[ratL (l.getD (i+j) 0),ratL (l.getD (i+j-1) 0)]) rfl (.cons nJ (.cons nJ .nil)) ⟨rfl,fun _ h=>by cases h⟩ hc.1 (by decide) (fun _ h=>by cases h)) (hc.2 _) ?_
     refine dI ?_
     refine aQ rfl (fun h49r h49=>?_) (fun h49r h49=>?_)
     ·have hy:=aLg (k:=l) (i:=i+j) (by omega) h49
      have eyl:(iP l (i+(j+1))).length=(iP l (i+j)).length+1:=by rw [←Nat.add_assoc,hy];simp
      have hyl:(iP l (i+j+1)).length=(iP l (i+j)).length+1:=by rw [hy];simp
      have hnA:1≤j+1∧i+(j+1)≤l.length∧(w.set (iP l (i+j)).length (l.getD (i+j) 0)).length=l.length∧(iP l (i+(j+1))).length+1≤i+(j+1)∧(w.set (iP l (i+j)).length (l.getD (i+j) 0)).take (iP l (i+(j+1))).length=iP l (i+(j+1))∧∀ x,i+(j+1)-1≤x→(w.set (iP l (i+j)).length (l.getD (i+j) 0)).getD x 0=l.getD x 0:=⟨by omega,by omega,by simp [hwl],by rw [←Nat.add_assoc,hyl];omega,by rw [←Nat.add_assoc,hyl,hy,List.take_add_one,List.take_set_of_le (Nat.le_refl _),hwt,List.getElem?_set_self (by omega)];rfl,fun x hx=>by rw [kF _ _ _ _ (by omega),if_neg (by omega)];exact hwx x (by omega)⟩
      refine eP ?_
      try simp only [t1,jU,ewa,Nat.zero_add]
      refine dX ?_
      refine aB rfl (.bin rfl rfl (dA (by omega))) ?_
      refine bY ?_
      refine aB rfl (.bin rfl rfl (dA (by omega))) ?_
      refine dI ?_
      exact qI (j+1) (w.set (iP l (i+j)).length (l.getD (i+j) 0)) hnA
     ·have hy:=aHO (k:=l) (i:=i+j) (by omega) h49
      have eyl:(iP l (i+(j+1))).length=(iP l (i+j)).length:=by rw [←Nat.add_assoc,hy]
      have hnB:1≤j+1∧i+(j+1)≤l.length∧w.length=l.length∧(iP l (i+(j+1))).length+1≤i+(j+1)∧w.take (iP l (i+(j+1))).length=iP l (i+(j+1))∧∀ x,i+(j+1)-1≤x→w.getD x 0=l.getD x 0:=⟨by omega,by omega,hwl,by rw [←Nat.add_assoc,hy];omega,by rw [←Nat.add_assoc,hy];exact hwt,fun x hx=>hwx x (by omega)⟩
      refine dX ?_
      refine aB rfl (.bin rfl rfl (dA (by omega))) ?_
      refine dI ?_
      exact qI (j+1) w hnB
    ·obtain rfl:j=l.length-i:=by omega
     have eia:i+(l.length-i)=l.length:=by omega
     have hdr:=hdl
     rw [eia] at hdl hwt
     have ecl:=aJT (w:=w) (m:=(iP l l.length).length) (n:=l.length) (by omega) hwl
     rw [hwt] at ecl
     refine eP ?_
     refine aB rfl (.sliceR (a:=(iP l (i+(l.length-i))).length) (h:=l.length) rfl Tryz.underlying25 dD (fun y hy=>by cases hy;exact⟨_,rfl⟩) (fun h=>by cases h) (fun y hy=>by cases hy) (fun _=>rfl) om om om) ?_
     refine bC rfl (.clr (n:=l.length-(iP l (i+(l.length-i))).length) (off:=0+(iP l (i+(l.length-i))).length) (z:=ratL 0) (blk:=⟨3,w.map ratL,true⟩) rfl rfl rfl rfl (by rw [List.length_map];omega) Tryz.underlying25 (fD ▸ i9) (aD.csize 0)) ?_
     refine bY ?_
     refine aB rfl (.sliceRh rfl Tryz.underlying25 dD rfl om om) ?_
     refine eP ?_
     first | (rw [hE,Nat.sub_self,List.replicate_zero,List.append_nil];exact nN rfl .ref rfl rfl (aF aD _)) | (exact nN rfl .ref (by first | rfl | (simp;done)) rfl (aF aD _))
   ·have hnx:∀ j,1≤j→j<i+1→l.getD j 0≠l.getD (j-1) 0:=fun j h1 h2=>by
     rcases Nat.lt_succ_iff_lt_or_eq.1 h2 with e | rfl
     ·exact hne j h1 e
     ·exact h28
    refine dX ?_
    refine aB rfl (.bin rfl rfl (dA (by omega))) ?_
    refine dI ?_
    exact kE (i+1) ⟨by omega,by omega,hnx⟩
  ·obtain rfl:i=l.length:=by omega
   have hE:(iP l l.length)=l:=by rw [zC _ (Nat.le_refl _) hne,List.take_length]
   refine cH ?_
   first | (rw [hE,Nat.sub_self,List.replicate_zero,List.append_nil];exact nN rfl .ref rfl rfl (aF aD _)) | (exact nN rfl .ref (by first | rfl | (simp;done)) rfl (aF aD _))
namespace Zq40
theorem cK {p q:Prop} (k:q) (e:p=q:=by simp only [e1,e2,e3,e4,p1,p2,p3,q1,q2,q3,l1,t0,t1,r1,r2,r3,r4,Nat.zero_add,Nat.reduceMul,Nat.reduceAdd,b1,b2,b3,b4,b5,b6,i1,i2,i3,i4,i5,i6,Nat.reduceBEq,jU,Rat.add_zero,ers,etk,Nat.zero_add,cJ,eA,dC,List.length_cons,List.length_nil,List.nil_append,List.map_nil,List.take_nil,List.append_nil,List.set_cons_zero,List.set_cons_succ,Nat.reduceEqDiff,reduceIte,if_true,if_false,a8,a9,aC cW,aC dR,aC aD,aT,a6,LV.kill,bH];exact rfl):p:=e.mpr k
end Zq40
open Zq40 in
theorem aBJ (p:List Rat) (hl:p.length≤1048576) (hpr:∀ x∈p,rl x≤274877906944):gM Tryz.prog 155 [.list 3 (p.map ratL)] (.ref 1 3 0 p.length) [⟨3,p.map ratL,true⟩]:=by
 refine fnO Tryz.func155 ?_
 have ers:True:=trivial
 have etk:True:=trivial
 refine eP ?_
 refine b9 rfl rfl (.mkE (n:=0) (m:=p.length) ml ml om om om) ?_
 refine cH ?_
 refine lO (fun(k:Nat) L=>(((((St.mk L.slot (hp [(8,⟨3,(p.take k).map ratL,true⟩)])).put (some 3) (.ref 8 3 0 k)).put (some 9) (.list 3 (p.map ratL))).put (some 10) (aG p.length)).put (some 11) (aG k))) (fun k=>k≤p.length) (fun k=>p.length-k) 0 (Nat.zero_le _) ?_
 rintro k L1 hk
 refine bY ?_
 refine aQ rfl (fun h12r h12=>?_) (fun h12r h12=>?_)
 ·have hk2:k<p.length:=by omega
  have hrk:=hpr _ (cD hk2)
  have hA:=eF (p.getD k 0) 0 (by rw [show rl 0=1 from rfl];omega)
  rw [Rat.add_zero] at hA
  have ers:=lM (l:=p) hk2
  have etk:((p.take k).map ratL).take k=(p.take k).map ratL:=List.take_of_length_le (by rw [List.length_map,List.length_take];omega)
  refine iR ?_
  refine aB rfl (.build0 sP i9) ?_
  refine cp bI (hA) ?_
  refine bD ?_
  refine bC rfl (.appX (d:=8) (news:=[ratL (p.getD k 0)]) rfl rfl rfl rfl (by simp;omega) (.inl rfl) (by decide) Tryz.underlying25 Tryz.underlying25 i9 dD rfl B31 (.inl ⟨19,0,_,rfl,by decide,rfl,rfl,by simp,rfl,by simp [aV,aD.pure]⟩) (by simp;omega) (by simp;omega) (by decide)) ?_
  refine cB ?_
  refine bG ((a7.kill _ 5).trans (a7.kill _ 19)) ?_
  refine aB rfl (.bin rfl rfl (dA (by omega))) ?_
  refine dI ?_
  exact kE (k+1) (by omega)
 ·obtain rfl:k=p.length:=by omega
  have hE:p.take p.length=p:=List.take_length
  refine cH ?_
  rw [hE]
  exact rV rfl rfl (aF aD _)
namespace Zq15
theorem cK {p q:Prop} (k:q) (e:p=q:=by simp only [e1,e2,e3,e4,p1,p2,p3,q1,q2,q3,l1,t0,t1,r1,r2,r3,r4,Nat.zero_add,Nat.reduceMul,Nat.reduceAdd,b1,b2,b3,b4,b5,b6,i1,i2,i3,i4,i5,i6,Nat.reduceBEq,List.set_cons_zero,List.set_cons_succ,Nat.reduceEqDiff,reduceIte,if_true,if_false,a8,a9,aC cW,aC dR,aC aD,aT,a6,LV.kill,bH];exact rfl):p:=e.mpr k
end Zq15
open Zq15 in
theorem wV (k:List Rat) (h0:0<k.length) (hl:k.length≤1048576) (hr:∀ x∈k,rl x≤274877906944):aN Tryz.prog 84 [.list 3 (k.map ratL)] (.list 3 ((iP k k.length).map ratL)):=by
 refine dJ Tryz.func84 ?_
 refine eI ?_
 refine lJ [] rfl rfl (.cons (.pure (aJ aD _ _)) .nil) (aBJ k hl hr) (aF aD _) rfl ?_
 refine iO 1000065 rfl rfl rfl (aF aD _) (.cons .ref (.cons (.imm (.pure rfl)) .nil)) (.ref h0) (aDL 156 k h0 hl (fun x hx y hy=>lY x y (by have:=hr x hx;have:=hr y hy;omega))) rfl (aF aD _) ?_
 refine cB ?_
 exact jV [1000065] rfl rfl (aID aD rfl rfl rfl)
open H0 in
theorem vR (k:List Rat) (d:Nat) (h:d+1≤k.length) (hl:k.length≤1048576):aN Tryz.prog 152 [.list 3 (k.map ratL),aG d] (aG (k.length-d-1)):=by
 refine dJ Tryz.func152 ?_
 refine cG ?_
 refine aB rfl (.bin rfl rfl (lI (by omega) (by omega))) ?_
 refine aB rfl (.bin rfl rfl (lI (by omega) (by omega))) ?_
 refine cB ?_
 refine b8 ?_ (.pure rfl)
 simp only [e1,e2,e3,e4,p1,p2,p3,q1,q2,q3,Nat.reduceBEq]
 congr 2
 omega
namespace Zq37
theorem cK {p q:Prop} (k:q) (e:p=q:=by simp only [e1,e2,e3,e4,p1,p2,p3,q1,q2,q3,l1,t0,t1,r1,r2,r3,r4,Nat.zero_add,Nat.reduceMul,Nat.reduceAdd,b1,b2,b3,b4,b5,b6,i1,i2,i3,i4,i5,i6,Nat.reduceBEq,jU,hix,List.set_cons_zero,List.set_cons_succ,Nat.reduceEqDiff,reduceIte,if_true,if_false,a8,a9,aC cW,aC dR,aC aD,aT,a6,LV.kill,bH];exact rfl):p:=e.mpr k
end Zq37
open Zq37 in
theorem aFj (k:List Rat) (d:Nat) (h:kOK k d):aN Tryz.prog 151 [.list 3 (k.map ratL),aG d] (iL 0):=by
 have hd1:=h.d1
 have hd6:=h.d6
 have hlen:=h.len
 have hmax:=h.max
 have hr:∀ x∈k,rl x≤274877906944:=fun x hx=>Nat.le_trans (h.sz x hx) (by decide)
 have hix:((k.length:Int)-1).toNat=k.length-1:=by omega
 have hr0:=h.sz _ (cD (p:=k) (i:=0) (by omega))
 have hr1:=h.sz _ (cD (p:=k) (i:=k.length-1) (by omega))
 have hS:aN Tryz.prog 239 [.list 3 (k.map ratL),.clo 92 []] (bL true):=aBQ 92 k (by omega) (by omega) h.srt (fun x hx y hy=>iN x y (by have:=h.sz x hx;have:=h.sz y hy;omega))
 refine dJ Tryz.func151 ?_
 refine cQ ?_
 refine aB rfl (.bin rfl rfl (lI (by omega) (by omega))) ?_
 refine aB rfl (.bin rfl rfl (lI (by omega) (by omega))) ?_
 refine eP ?_
 refine eD 18 rfl (fun h18r h18=>?_) (fun h18r h18=>?_)
 ·omega
 ·refine bY ?_
  refine aQ rfl (fun h15r h15=>?_) (fun h15r h15=>?_)
  ·omega
  ·refine dX ?_
   refine aB rfl (.bin rfl rfl (xF (by omega) (by omega))) ?_
   refine aB rfl (.bin rfl rfl (oE (by omega) (by omega))) ?_
   refine cB ?_
   refine aQ rfl (fun h22r h22=>?_) (fun h22r h22=>?_)
   ·omega
   ·refine dP ?_
    refine aQ rfl (fun h29r h29=>?_) (fun h29r h29=>?_)
    ·omega
    ·refine dX ?_
     refine aP 15 (by decide +kernel) ?_
     refine bD ?_
     refine cp bI (hS) ?_
     refine eI ?_
     refine aB (aO (v:=false) rfl rfl (rfl) rfl) (.bin rfl rfl (lI (by omega) (by omega))) ?_
     refine cU ?_
     try simp only [t1,jU,hix]
     refine cp bI (lY (k.getD 0 0) (k.getD (k.length-1) 0) (by omega)) ?_
     refine dI ?_
     refine bO (b:=_) rfl (decide_eq_false h.ne) ?_
     refine bY ?_
     refine cp cS (wV k (by omega) (by omega) hr) ?_
     refine dX ?_
     refine lO (fun(i:Nat) L=>((((((St.mk L.slot (hp [])).put (some 0) (.list 3 (k.map ratL))).put (some 1) (aG d)).put (some 48) (.list 3 ((iP k k.length).map ratL))).put (some 49) (aG (iP k k.length).length)).put (some 50) (aG i))) (fun i=>i≤(iP k k.length).length) (fun i=>(iP k k.length).length-i) 0 (Nat.zero_le _) ?_
     rintro i L1 hi
     refine bY ?_
     refine aQ rfl (fun h51r h51=>?_) (fun h51r h51=>?_)
     ·have hdl:=aE1 k k.length
      have rC:i<(iP k k.length).length:=by omega
      have hm:=yU k k.length (Nat.le_refl _) _ (cD rC)
      have hrt:=h.sz _ hm
      have he1:=h.endk _ hm
      have he2:=h.ink _ hm
      refine n8 ?_
      refine cp bI (aHf k (by omega) (fun x hx=>Nat.le_trans (hr x hx) (by decide)) ((iP k k.length).getD i 0) (by omega)) ?_
      refine cB ?_
      refine aP 16 (by decide +kernel) ?_
      refine cB ?_
      refine cp bI (lY ((iP k k.length).getD i 0) (k.getD 0 0) (by omega)) ?_
      refine bD ?_
      refine eD 62 rfl (fun h62r h62=>?_) (fun h62r h62=>?_)
      ·refine dP ?_
       try simp only [t1,jU,hix]
       refine cQ ?_
       refine aB (aO (v:=true) rfl rfl (rfl) rfl) (.bin rfl rfl (oE (by omega) (by omega))) ?_
       refine dI ?_
       refine eD 79 rfl (fun h79r h79=>?_) (fun h79r h79=>?_)
       ·have:=he1 (by first | exact .inl h62 | exact .inr h73)
        omega
       ·refine dI ?_
        refine cE (aO (v:=false) rfl rfl ((by first | rfl | (rw [h73r];rfl))) rfl) ?_
        refine cE (aO (v:=false) rfl rfl ((by first | rfl | (rw [h73r];rfl))) rfl) ?_
        refine cE (aO (v:=false) rfl rfl ((by first | rfl | (rw [h73r];rfl))) rfl) ?_
        refine aB (aO (v:=false) rfl rfl (h79r) rfl) (.pickF rfl ((by first | rfl | (rw [h73r];rfl)))) ?_
        refine dP ?_
        refine bG (a7.kill _ 7) ?_
        refine aB rfl (.bin rfl rfl (dA (by omega))) ?_
        refine dI ?_
        exact kE (i+1) (by omega)
      ·refine cB ?_
       refine aB (aO (v:=false) rfl rfl (h62r) rfl) (.bin rfl rfl (lI (by omega) (by omega))) ?_
       refine cU ?_
       try simp only [t1,jU,hix]
       refine cp bI (lY ((iP k k.length).getD i 0) (k.getD (k.length-1) 0) (by omega)) ?_
       refine eI ?_
       refine eD 73 rfl (fun h73r h73=>?_) (fun h73r h73=>?_)
       ·refine cU ?_
        refine aB (aO (v:=true) rfl rfl (h73r) rfl) (.bin rfl rfl (oE (by omega) (by omega))) ?_
        refine dI ?_
        refine eD 79 rfl (fun h79r h79=>?_) (fun h79r h79=>?_)
        ·have:=he1 (by first | exact .inl h62 | exact .inr h73)
         omega
        ·refine dI ?_
         refine cE (aO (v:=false) rfl rfl ((by first | rfl | (rw [h73r];rfl))) rfl) ?_
         refine cE (aO (v:=false) rfl rfl ((by first | rfl | (rw [h73r];rfl))) rfl) ?_
         refine cE (aO (v:=false) rfl rfl ((by first | rfl | (rw [h73r];rfl))) rfl) ?_
         refine aB (aO (v:=false) rfl rfl (h79r) rfl) (.pickF rfl ((by first | rfl | (rw [h73r];rfl)))) ?_
         refine dP ?_
         refine bG (a7.kill _ 7) ?_
         refine aB rfl (.bin rfl rfl (dA (by omega))) ?_
         refine dI ?_
         exact kE (i+1) (by omega)
       ·refine eP ?_
        refine aB (aO (v:=true) rfl rfl ((by first | rfl | (rw [h73r];rfl))) rfl) (.move _) ?_
        refine aB (aO (v:=true) rfl rfl ((by first | rfl | (rw [h73r];rfl))) rfl) (.move _) ?_
        refine aB (aO (v:=true) rfl rfl ((by first | rfl | (rw [h73r];rfl))) rfl) (.bin rfl rfl rfl) ?_
        refine aB (aO (v:=false) rfl rfl (rfl) rfl) (.pickT rfl ((by first | rfl | (rw [h73r];rfl)))) ?_
        refine dI ?_
        refine aQ rfl (fun h87r h87=>?_) (fun h87r h87=>?_)
        ·have:=he2 h62 h73
         omega
        ·refine dI ?_
         refine bG (a7.kill _ 7) ?_
         refine aB rfl (.bin rfl rfl (dA (by omega))) ?_
         refine dI ?_
         exact kE (i+1) (by omega)
     ·refine cQ ?_
      exact b8 rfl (.pure rfl)
def wA (s:Rat × Rat):Rat × Rat:=if mV s 0=true then(0,jR (s.1*s.1) (s.2*s.2)) else(kC (s.1*s.1) (s.2*s.2),jR (s.1*s.1) (s.2*s.2))
def muS (a b:Rat × Rat):Rat × Rat:=nR (nR (nR (a.1*b.1,a.1*b.1) (a.1*b.2,a.1*b.2)) (a.2*b.1,a.2*b.1)) (a.2*b.2,a.2*b.2)
def rcS (b:Rat × Rat):Rat × Rat:=(kC (1/b.1) (1/b.2),jR (1/b.1) (1/b.2))
def quS (a b:Rat × Rat):Rat × Rat:=muS a (rcS b)
def iQ (R:Nat) (s:Rat × Rat):Prop:=rl s.1≤R∧rl s.2≤R
theorem iQ.le {R S:Nat} {s:Rat × Rat} (h:iQ R s) (k:R≤S):iQ S s:=⟨Nat.le_trans h.1 k,Nat.le_trans h.2 k⟩
theorem aF1 {a b:Rat} {R:Nat} (ha:rl a≤R) (hb:rl b≤R):rl (kC a b)≤R:=by unfold kC;split<;>assumption
theorem yV {a b:Rat} {R:Nat} (ha:rl a≤R) (hb:rl b≤R):rl (jR a b)≤R:=by unfold jR;split<;>assumption
theorem sK {R:Nat} {s t:Rat × Rat} (hs:iQ R s) (ht:iQ R t):iQ R (nR s t):=⟨aF1 hs.1 ht.1,yV hs.2 ht.2⟩
theorem vA {R S:Nat} {a b:Rat × Rat} (ha:iQ R a) (hb:iQ S b):iQ (R+S) (muS a b):=by
 obtain⟨a1,a2⟩:=ha
 obtain⟨b1,b2⟩:=hb
 have h:∀ x y:Rat,rl x≤R→rl y≤S→iQ (R+S) (x*y,x*y):=fun x y hx hy=>by
  have:=bR x y
  exact⟨by show rl (x*y)≤_;omega,by show rl (x*y)≤_;omega⟩
 exact sK (sK (sK (h _ _ a1 b1) (h _ _ a1 b2)) (h _ _ a2 b1)) (h _ _ a2 b2)
theorem aJg {R:Nat} {b:Rat × Rat} (hb:iQ R b):iQ (R+1) (rcS b):=by
 have h:∀ x:Rat,rl x≤R→rl (1/x)≤R+1:=fun x hx=>by
  have:=iZ 1 x
  have:rl 1=1:=rfl
  omega
 exact⟨aF1 (h _ hb.1) (h _ hb.2),yV (h _ hb.1) (h _ hb.2)⟩
theorem aKn {R S:Nat} {a b:Rat × Rat} (ha:iQ R a) (hb:iQ S b):iQ (R+(S+1)) (quS a b):=vA ha (aJg hb)
theorem aKB {R:Nat} {s:Rat × Rat} (hs:iQ R s) (hR:1≤R):iQ (2*R) (wA s):=by
 have h1:=bR s.1 s.1
 have h2:=bR s.2 s.2
 have h3:=hs.1
 have h4:=hs.2
 have h0:rl 0=1:=rfl
 unfold wA
 split
 ·exact⟨by show rl 0≤_;omega,yV (by omega) (by omega)⟩
 ·exact⟨aF1 (by omega) (by omega),yV (by omega) (by omega)⟩
structure _root_.Go.Lg.Bx3 where
 x:Rat × Rat
 y:Rat × Rat
 z:Rat × Rat
abbrev bxL (b:Bx3):LV:=.agg [spL b.x,spL b.y,spL b.z]
theorem bxE:EncOK bxL 18 true:=by
 refine⟨fun b=>?_,fun b=>rfl,fun b=>?_⟩
 ·simp [bxL,LV.csize,aL,d8.csize]
 ·simp [bxL,LV.pure,aV,d8.pure]
def bdB (R:Nat) (b:Bx3):Prop:=iQ R b.x∧iQ R b.y∧iQ R b.z
namespace Zq78
theorem cK {p q:Prop} (k:q) (e:p=q:=by simp only [e1,e2,e3,e4,p1,p2,p3,q1,q2,q3,l1,t0,t1,r1,r2,r3,r4,Nat.zero_add,Nat.reduceMul,Nat.reduceAdd,b1,b2,b3,b4,b5,b6,i1,i2,i3,i4,i5,i6,Nat.reduceBEq,List.set_cons_zero,List.set_cons_succ,Nat.reduceEqDiff,reduceIte,if_true,if_false,a8,a9,aC cW,aC dR,aC aD,aT,a6,LV.kill,bH];exact rfl):p:=e.mpr k
end Zq78
open Zq78 in
theorem aCz (a b:Rat × Rat) (R:Nat) (hR:R≤1000000000) (ha:iQ R a) (hb:iQ R b):aN Tryz.prog 188 [spL a,spL b] (spL (muS a b)):=by
 obtain⟨a1,a2⟩:=ha
 obtain⟨y1,y2⟩:=hb
 have m11:=bR a.1 b.1
 have m12:=bR a.1 b.2
 have m21:=bR a.2 b.1
 have m22:=bR a.2 b.2
 have hP:∀ x:Rat,rl x≤2*R→iQ (2*R) (x,x):=fun x hx=>⟨hx,hx⟩
 have c0:=hP (a.1*b.1) (by omega)
 have c1:=sK c0 (hP (a.1*b.2) (by omega))
 have c2:=sK c1 (hP (a.2*b.1) (by omega))
 obtain⟨d1,d2⟩:=c1
 obtain⟨f1,f2⟩:=c2
 refine dJ Tryz.func188 ?_
 refine fI ?_
 refine cp bI (dQ a.1 b.1 (by omega)) ?_
 refine cp cS (fT (a.1*b.1) (by omega)) ?_
 refine aK8 ?_
 refine aK ?_
 refine bY ?_
 refine aY (b:=_) rfl (by decide) ?_
 refine cQ ?_
 refine aP 8 (by decide +kernel) ?_
 refine dX ?_
 refine cp bI (dQ a.1 b.2 (by omega)) ?_
 refine cp cS (fT (a.1*b.2) (by omega)) ?_
 refine cp bI (iT ((a.1*b.1),(a.1*b.1)) ((a.1*b.2),(a.1*b.2)) (by show rl (a.1*b.1)+rl (a.1*b.2)≤_;omega) (by show rl (a.1*b.1)+rl (a.1*b.2)≤_;omega)) ?_
 refine cB ?_
 refine bG (a7.kill _ 7) ?_
 refine cB ?_
 refine aK ?_
 refine bY ?_
 refine aY (b:=_) rfl (by decide) ?_
 refine cQ ?_
 refine aP 8 (by decide +kernel) ?_
 refine dX ?_
 refine cp bI (dQ a.2 b.1 (by omega)) ?_
 refine cp cS (fT (a.2*b.1) (by omega)) ?_
 refine cp bI (iT (nR ((a.1*b.1),(a.1*b.1)) ((a.1*b.2),(a.1*b.2))) ((a.2*b.1),(a.2*b.1)) (by show _+rl (a.2*b.1)≤_;omega) (by show _+rl (a.2*b.1)≤_;omega)) ?_
 refine cB ?_
 refine bG (a7.kill _ 7) ?_
 refine cB ?_
 refine aK ?_
 refine bY ?_
 refine aY (b:=_) rfl (by decide) ?_
 refine cQ ?_
 refine aP 8 (by decide +kernel) ?_
 refine dX ?_
 refine cp bI (dQ a.2 b.2 (by omega)) ?_
 refine cp cS (fT (a.2*b.2) (by omega)) ?_
 refine cp bI (iT (nR (nR ((a.1*b.1),(a.1*b.1)) ((a.1*b.2),(a.1*b.2))) ((a.2*b.1),(a.2*b.1))) ((a.2*b.2),(a.2*b.2)) (by show _+rl (a.2*b.2)≤_;omega) (by show _+rl (a.2*b.2)≤_;omega)) ?_
 refine cB ?_
 refine bG (a7.kill _ 7) ?_
 refine cB ?_
 refine aK ?_
 refine bY ?_
 refine bO (b:=_) rfl (by decide) ?_
 refine cH ?_
 exact dE [] rfl rfl rfl (d8.csize _) (fN _) mH (.pure (d8.pure _))
open H0 in
theorem zX (s:Rat × Rat) (x:Rat) (h1:rl s.1+rl x≤549755813888) (h2:rl x+rl s.2≤549755813888):aN Tryz.prog 103 [spL s,ratL x] (bL (mV s x)):=by
 refine dJ Tryz.func103 ?_
 refine cH ?_
 refine cp bI (iN _ _ (by omega)) ?_
 refine cU ?_
 refine eD 10 rfl (fun h10r h10=>?_) (fun h10r h10=>?_)
 ·refine dI ?_
  refine cp bI (iN _ _ (by omega)) ?_
  refine bY ?_
  rw [←aNV h10r]
  exact b8 rfl (by first | exact .pure rfl | exact .pure (bF _) | exact .pure (aR _) | exact .pure (aD.pure _) | exact .pure (aJ cV _ _) | exact .pure (aJ aD _ _))
 ·refine cG ?_
  rw [←aMI h10r]
  exact b8 rfl (by first | exact .pure rfl | exact .pure (bF _) | exact .pure (aR _) | exact .pure (aD.pure _) | exact .pure (aJ cV _ _) | exact .pure (aJ aD _ _))
namespace Zq83
theorem cK {p q:Prop} (k:q) (e:p=q:=by simp only [e1,e2,e3,e4,p1,p2,p3,q1,q2,q3,l1,t0,t1,r1,r2,r3,r4,Nat.zero_add,Nat.reduceMul,Nat.reduceAdd,b1,b2,b3,b4,b5,b6,i1,i2,i3,i4,i5,i6,Nat.reduceBEq,List.set_cons_zero,List.set_cons_succ,Nat.reduceEqDiff,reduceIte,if_true,if_false,a8,a9,aC cW,aC dR,aC aD,aT,a6,LV.kill,bH];exact rfl):p:=e.mpr k
end Zq83
open Zq83 in
theorem aJS (s:Rat × Rat) (R:Nat) (hR:R≤1000000000) (ha:iQ R s):aN Tryz.prog 183 [spL s] (spL (wA s)):=by
 obtain⟨a1,a2⟩:=ha
 have m1:=bR s.1 s.1
 have m2:=bR s.2 s.2
 have h0:rl 0=1:=rfl
 refine dJ Tryz.func183 ?_
 refine dP ?_
 refine aP 12 (by decide +kernel) ?_
 refine cB ?_
 refine cp bI (dQ s.1 s.1 (by omega)) ?_
 refine cB ?_
 refine cp bI (dQ s.2 s.2 (by omega)) ?_
 refine cp bI (wO (s.1*s.1) (s.2*s.2) (by omega)) ?_
 refine eI ?_
 refine aB rfl (.build0 sP i9) ?_
 refine cp bI (zX s 0 (by omega) (by omega)) ?_
 refine cU ?_
 refine aQ rfl (fun h17r h17=>?_) (fun h17r h17=>?_)
 ·have hS:wA s=(0,jR (s.1*s.1) (s.2*s.2)):=if_pos h17
  refine bD ?_
  refine aB rfl (.build0 sP i9) ?_
  refine cQ ?_
  rw [hS]
  exact dE [] rfl rfl rfl (d8.csize _) (fN _) mH (.pure (d8.pure _))
 ·have hS:wA s=(kC (s.1*s.1) (s.2*s.2),jR (s.1*s.1) (s.2*s.2)):=if_neg (by rw [h17];decide)
  refine eP ?_
  rw [hS]
  exact dE [] rfl rfl rfl (d8.csize _) (fN _) mH (.pure (d8.pure _))
namespace Zq81
theorem cK {p q:Prop} (k:q) (e:p=q:=by simp only [e1,e2,e3,e4,p1,p2,p3,q1,q2,q3,l1,t0,t1,r1,r2,r3,r4,Nat.zero_add,Nat.reduceMul,Nat.reduceAdd,b1,b2,b3,b4,b5,b6,i1,i2,i3,i4,i5,i6,Nat.reduceBEq,List.set_cons_zero,List.set_cons_succ,Nat.reduceEqDiff,reduceIte,if_true,if_false,a8,a9,aC cW,aC dR,aC aD,aT,a6,LV.kill,bH];exact rfl):p:=e.mpr k
end Zq81
open Zq81 in
theorem s6 (a b:Rat × Rat) (R:Nat) (hR:R≤100000000) (ha:iQ R a) (hb:iQ R b) (hz:mV b 0=false):aN Tryz.prog 186 [spL a,spL b] (.tup [spL (quS a b),iL 0]):=by
 have ha2:=ha.le (Nat.le_succ R)
 have hrc:=aJg hb
 obtain⟨y1,y2⟩:=hb
 have h0:rl 0=1:=rfl
 have hr1:rl 1=1:=rfl
 have qd1:=iZ 1 b.1
 have qd2:=iZ 1 b.2
 have h1c:aN Tryz.prog 107 [iL 1] (ratL 1):=mJ 1 (by decide) (by decide)
 have hq1:=mD 1 b.1 (by omega)
 have hq2:=mD 1 b.2 (by omega)
 refine dJ Tryz.func186 (ht:=(gU (d8.pure _) rfl)) ?_
 refine cH ?_
 refine aB rfl (.build0 sP i9) ?_
 refine cp bI (zX b 0 (by omega) (by omega)) ?_
 refine cU ?_
 refine aQ rfl (fun h13r h13=>?_) (fun h13r h13=>?_)
 ·rw [hz] at h13r
  cases h13r
 ·refine cB ?_
  refine cp cS (h1c) ?_
  refine eP ?_
  refine cp bI (hq1) ?_
  refine fI ?_
  refine cp bI (hq2) ?_
  refine eP ?_
  refine aP 5 (by decide +kernel) ?_
  refine dI ?_
  refine cp bI (wO (1/b.1) (1/b.2) (by omega)) ?_
  refine cp bI (aCz a (rcS b) (R+1) (by omega) ha2 hrc) ?_
  refine dX ?_
  exact nL [] rfl rfl rfl (d8.csize _) (fN _) mH (.pure (d8.pure _)) rfl (.pure rfl)
theorem wS {P:Program} {ops:Array Oper} {D:Array Bool} {L:St} {K:St→Prop} {fuel:Nat} (i j k:Nat) (o o2 o3:Oper) (hr:Region.ready .any ops D=[i,j,k]) (ho:ops[i]?=some o) (ho2:ops[j]?=some o2) (ho3:ops[k]?=some o3)
  (h:opsL P false ops [o] L (fun L'=>mC P ops fuel (D.setIfInBounds i true) L' K)) (h2:opsL P false ops [o2] L (fun L'=>mC P ops fuel (D.setIfInBounds j true) L' K)) (h3:opsL P false ops [o3] L (fun L'=>mC P ops fuel (D.setIfInBounds k true) L' K)):mC P ops (fuel+1) D L K:=by
 simp only [opsL] at h h2 h3
 refine⟨fun e=>(by rw [hr] at e;cases e),fun x hx=>?_⟩
 rw [hr] at hx
 simp only [List.mem_cons,List.not_mem_nil,or_false] at hx
 rcases hx with rfl | rfl | rfl
 ·obtain⟨L',h1,h4⟩:=h
  exact⟨o,L',ho,h1,h4⟩
 ·obtain⟨L',h1,h4⟩:=h2
  exact⟨o2,L',ho2,h1,h4⟩
 ·obtain⟨L',h1,h4⟩:=h3
  exact⟨o3,L',ho3,h1,h4⟩
section
variable {P:Program} {H:cM} {ρ:Operand→LV} {T:TypeId}
theorem aLf {o0 o1:Operand} {p:V3} {r:Rat} [z:ZI P T (.agg [.agg [ratL 0,ratL 0,ratL 0],ratL 0])] [s:SI P T [(9,true),(3,true)]] (h0:ρ o0=dG p) (h1:ρ o1=ratL r) :
  OpP P H ρ (.build T #[(0,o0),(1,o1)]) (eB ⟨p,r⟩):=by
 have:=OpP.bd (H:=H) (ρ:=ρ) (ps:=#[(0,o0),(1,o1)]) (z:=z) (s:=s) (by simp [lay,LV.csize,aL,aD.csize,aD.isAgg,fQ]) (by
  intro q hq
  simp only [List.mem_cons,List.not_mem_nil,or_false] at hq
  rcases hq with rfl | rfl
  ·exact⟨_,rfl,by rw [h0];simp [lay,cW.csize,LV.csize,aL,aD.csize];rfl,by rw [h0];exact LV.pure_ne_any (cW.pure _),by rw [h0];exact LV.pure_ne_tup (cW.pure _)⟩
  ·exact⟨_,rfl,by rw [h1];simp [lay,aD.csize,aD.isAgg],by rw [h1];exact LV.pure_ne_any (aD.pure _),by rw [h1];exact LV.pure_ne_tup (aD.pure _)⟩)
 simp only [eN,List.map,List.foldl,List.set,h0,h1] at this
 exact this
end
theorem gD1 {a b:List Rat} {i:Nat} (h:i<a.length):(a++b).getD i 0=a.getD i 0:=by
 rw [List.getD_eq_getElem?_getD,List.getD_eq_getElem?_getD,List.getElem?_append_left h]
theorem gD2 {a b:List Rat} {i:Nat} (h:a.length≤i):(a++b).getD i 0=b.getD (i-a.length) 0:=by
 rw [List.getD_eq_getElem?_getD,List.getD_eq_getElem?_getD,List.getElem?_append_right h]
theorem lL {n i:Nat} {T:Rat} (h:i<n):(List.replicate n T).getD i 0=T:=by
 rw [List.getD_eq_getElem?_getD,List.getElem?_eq_getElem (by simpa using h)];simp
theorem aGl (a b:List Rat) (t:Rat):∀ i,i≤a.length→sY (a++b) t i=sY a t i
 | 0,_=>rfl
 | i+1,h=>by rw [sY,sY,aGl a b t i (by omega),gD1 (by omega)]
theorem aFo (a b:List Rat) (t:Rat):∀ i,sY (a++b) t (a.length+i)=sY a t a.length+sY b t i
 | 0=>by rw [Nat.add_zero,aGl _ _ _ _ (Nat.le_refl _)];rfl
 | i+1=>by
  rw [←Nat.add_assoc,sY,aFo a b t i,sY,gD2 (by omega),Nat.add_sub_cancel_left];omega
theorem uM (n:Nat) (T t:Rat):∀ i,i≤n→sY (List.replicate n T) t i=if T=t then i else 0
 | 0,_=>by split<;>rfl
 | i+1,h=>by
  rw [sY,uM n T t i (by omega),lL (by omega)]
  split<;>rfl
theorem c9 {P:Program} {L:St} {a u v:Nat} {T U:TypeId} {b c sz sy:Nat} {x y x' y' z z':LV} {m m':Bool} {n n':Nat} {ag ag':Bool} (bs:List Nat) (h0:bs.contains 0=false) (h:L.slot a=.eptr b sz 0 0) (hb:L.heap b=some ⟨sz,[x],m⟩)
  (hx:x.csize=sz) (hat:x.at 0 n ag=some x) (hT:bT P T n ag) (hi:Imm (L.frz bs).heap x y) (h':L.slot u=.eptr c sy 0 0) (hc:L.heap c=some ⟨sy,[x'],m'⟩)
  (hx':x'.csize=sy) (hat':x'.at 0 n' ag'=some x') (hT':bT P U n' ag') (hi':Imm (L.frz bs).heap x' y') (hz:L.slot v=z) (hiz:Imm (L.frz bs).heap z z'):n9 P [.cell a T,.cell u U,.tmp v] L (.tup [y,y',z']) [] :=
 ⟨[x,x',z],[y,y',z'],(L.frz bs).heap,[],.cons ⟨b,sz,0,0,_,x,n,ag,h,hb,rfl,rfl,hx,hat,hT⟩ (.cons ⟨c,sy,0,0,_,x',n',ag',h',hc,rfl,rfl,hx',hat',hT'⟩ (.cons hz .nil)),kQ bs h0,.cons (.imm hi) (.cons (.imm hi') (.cons (.imm hiz) .nil)),List.nodup_nil,rfl,fun k b h=>by simp at h,rfl⟩
theorem y6 {p:List Rat} {x:Rat} (hl:p.length≤10) (hp:∀ y∈p,rl y≤700000) (hx:rl x≤100000):HS p x:=by
 have h1:=d9 1 x
 have h0:rl 1=1:=rfl
 refine⟨rl (1-x)+rl x+1,Nat.le_refl _,by omega,fun y hy=>?_⟩
 have h2:=hp y hy
 have h3:2 ^ p.length≤2 ^ 10:=Nat.pow_le_pow_right (by decide) hl
 have h4:(rl y+(rl (1-x)+rl x+1))*2 ^ p.length≤1000000*2 ^ 10:=Nat.mul_le_mul (by omega) h3
 omega
open H0 in
theorem aAJ (s:Rat × Rat) (h:rl s.2+rl s.1≤549755813888):aN Tryz.prog 164 [spL s] (ratL (s.2-s.1)):=by
 refine dJ Tryz.func164 ?_
 refine cH ?_
 refine cp bI (iX s.2 s.1 h) ?_
 refine cB ?_
 exact dE [] rfl rfl rfl (aD.csize _) (aH _) dD (.pure (aD.pure _))
section
variable {P:Program} {H:cM} {ρ:Operand→LV} {T E:TypeId}
theorem bdW {o1:Operand} {r:Rat} [z:ZI P T (.agg [.agg [ratL 0,ratL 0,ratL 0],ratL 0])] [s:SI P T [(9,true),(3,true)]] (h1:ρ o1=ratL r) :
  OpP P H ρ (.build T #[(1,o1)]) (eB ⟨⟨0,0,0⟩,r⟩):=by
 have:=OpP.bd (H:=H) (ρ:=ρ) (ps:=#[(1,o1)]) (z:=z) (s:=s) (by simp [lay,LV.csize,aL,aD.csize,aD.isAgg,fQ]) (by
  intro q hq
  simp only [List.mem_cons,List.not_mem_nil,or_false] at hq
  subst hq
  exact⟨_,rfl,by rw [h1];simp [lay,aD.csize,aD.isAgg],by rw [h1];exact LV.pure_ne_any (aD.pure _),by rw [h1];exact LV.pure_ne_tup (aD.pure _)⟩)
 simp only [eN,List.map,List.foldl,List.set,h1] at this
 exact this
theorem aHj {o0 o1:Operand} {a b:Rat} [u:UN P T (.array 3 E)] [t:TI P E 3 true] [z:ZI P T (.agg [ratL 0,ratL 0,ratL 0])] (h0:ρ o0=ratL a) (h1:ρ o1=ratL b):OpP P H ρ (.build T #[(0,o0),(1,o1)]) (dG ⟨a,b,0⟩):=by
 have:=OpP.bda (H:=H) (ρ:=ρ) (ps:=#[(0,o0),(1,o1)]) (u:=u) (t:=t) (z:=z) (by simp [lay,aD.csize,aD.isAgg]) (by
  intro q hq
  simp only [List.mem_cons,List.not_mem_nil,or_false] at hq
  rcases hq with rfl | rfl
  ·exact⟨_,rfl,by rw [h0];simp [lay,aD.csize,aD.isAgg],by rw [h0];exact LV.pure_ne_any (aD.pure _),by rw [h0];exact LV.pure_ne_tup (aD.pure _)⟩
  ·exact⟨_,rfl,by rw [h1];simp [lay,aD.csize,aD.isAgg],by rw [h1];exact LV.pure_ne_any (aD.pure _),by rw [h1];exact LV.pure_ne_tup (aD.pure _)⟩)
 simp only [eN,List.map,List.foldl,List.set,h0,h1] at this
 exact this
end
theorem aMy {P:Program} {H:cM} {ρ:Operand→LV} {T E:TypeId} [u:UN P T (.array 3 E)] [t:TI P E 3 true] [z:ZI P T (.agg [ratL 0,ratL 0,ratL 0])]:OpP P H ρ (.build T #[]) (dG ⟨0,0,0⟩) :=
 OpP.bda (H:=H) (ρ:=ρ) (ps:=#[]) (u:=u) (t:=t) (z:=z) (by simp [lay,aD.csize,aD.isAgg]) (fun q hq=>by simp at hq)
theorem aFv {p:List Rat} (h:0<p.length):(gS p).1≤(gS p).2:=by
 have:=(tS p p.length).1 0 h
 exact Rat.le_trans this.1 this.2
theorem aKs {s:Rat × Rat} (h:0<s.1) (h2:s.1≤s.2):wA s=(s.1*s.1,s.2*s.2)∧mV (wA s) 0=false:=by
 have hn:mV s 0=false:=by unfold mV;rw [decide_eq_false (by grind)];rfl
 have hm:s.1*s.1≤s.2*s.2:=Rat.le_trans (Rat.mul_le_mul_of_nonneg_left h2 (Rat.le_of_lt h)) (Rat.mul_le_mul_of_nonneg_right h2 (by grind))
 have hp:=Rat.mul_pos h h
 have e:wA s=(s.1*s.1,s.2*s.2):=by
  unfold wA
  rw [if_neg (by rw [hn];decide)]
  unfold kC jR
  rw [if_neg (by grind)]
  split
  ·rfl
  ·have:s.1*s.1=s.2*s.2:=by grind
   rw [this]
 refine⟨e,?_⟩
 rw [e]
 unfold mV
 rw [decide_eq_false (by show ¬(s.1*s.1≤0);grind)];rfl
section
variable {po:List PoR} {d:Nat} (h:cvF po d)
include h
end
theorem aJP {po:List PoR} {i:Nat} (h:i<po.length):(fG po).getD i 0=(po.getD i default).w:=by
 unfold fG
 rw [List.getD_eq_getElem?_getD,List.getElem?_map,List.getElem?_eq_getElem h,List.getD_eq_getElem?_getD,List.getElem?_eq_getElem h];rfl
theorem aCL {a b c:Nat} (h:a=b+c) (h2:a≤9223372036854775807):dU .sub .i64 (a:Nat) (b:Nat)=some (.int .i64 ((c:Nat):Int)):=by
 rw [lI (by omega) (by omega)];congr 2;omega
def bxN (l:List V3) (k:Nat):Nat→Rat × Rat
 | 0=>((l.getD 0 default).at k,(l.getD 0 default).at k)
 | j+1=>nR (bxN l k j) ((l.getD (j+1) default).at k,(l.getD (j+1) default).at k)
def bxP (l:List V3):Bx3:=⟨bxN l 0 (l.length-1),bxN l 1 (l.length-1),bxN l 2 (l.length-1)⟩
theorem vC {l:List V3} {R:Nat} (h:∀ i,i<l.length→fH R (l.getD i default)) (k:Nat):∀ n,n<l.length→iQ R (bxN l k n)
 | 0,hn=>⟨p7 (h 0 hn) k,p7 (h 0 hn) k⟩
 | n+1,hn=>sK (vC h k n (by omega)) ⟨p7 (h _ hn) k,p7 (h _ hn) k⟩
section
variable {po:List PoR} {d:Nat} (h:cvF po d)
include h
end
section
variable {po:List PoR} {d:Nat} (h:cvF po d)
include h
end
theorem aCY {a b:Rat}:∀ (n:Nat) (c:Nat→Rat) (R:Nat),(∀ i,rl (c i)≤R)→rl (fE a b n c)≤(R+(rl a+rl b+1))*2 ^ n
 | 0,c,R,h=>by
  have:=h 0
  show rl (c 0)≤_
  omega
 | n+1,c,R,h=>by
  have:=aCY (a:=a) (b:=b) n (fun i=>a*c i+b*c (i+1)) (2*R+(rl a+rl b+1)) (fun i=>by
   have h0:=h i
   have h1:=h (i+1)
   have m0:=bR a (c i)
   have m1:=bR b (c (i+1))
   have s0:=f7 (a*c i) (b*c (i+1))
   omega)
  rw [fE]
  refine Nat.le_trans this ?_
  rw [Nat.pow_succ,Nat.mul_comm (2 ^ n) 2,←Nat.mul_assoc]
  exact Nat.mul_le_mul_right _ (by omega)
theorem fz0 (bs:List Nat):aCf bs []=[]:=rfl
def sS (t:Rat) (f:Nat→Rat):Nat→Rat:=fun i=>(1-t)*f i+t*f (i+1)
def sI (t:Rat):Nat→(Nat→Rat)→(Nat→Rat)
 | 0,f=>f
 | n+1,f=>sI t n (sS t f)
theorem aIJ (s t:Rat) (f:Nat→Rat):sS s (sS t f)=sS t (sS s f):=by
 funext i;unfold sS;grind
theorem aKA (t s:Rat):∀ (n:Nat) (f:Nat→Rat),sI t n (sS s f)=sS s (sI t n f)
 | 0,f=>rfl
 | n+1,f=>by rw [sI,sI,aIJ,aKA t s n]
theorem aHM (t:Rat) (n:Nat) (f:Nat→Rat):sI t (n+1) f=sS t (sI t n f):=by rw [sI,aKA]
theorem aB9 (t c d:Rat):∀ (n:Nat) (f g:Nat→Rat),sI t n (fun i=>c*f i+d*g i)=fun i=>c*sI t n f i+d*sI t n g i
 | 0,f,g=>rfl
 | n+1,f,g=>by
  rw [sI,sI,sI,←aB9 t c d n]
  congr 1;funext i;unfold sS;grind
theorem uZ (t:Rat):∀ (n:Nat) (f:Nat→Rat) (i:Nat),sI t n f i=fE (1-t) t n (fun m=>f (i+m))
 | 0,f,i=>rfl
 | n+1,f,i=>by rw [sI,uZ t n,fE];rfl
def pcV (a b:Rat) (n:Nat) (f:Nat→Rat) (j:Nat):Rat:=sI a (n-j) (sI b j f) 0
theorem aC4 {p:List Rat} {a b:Rat} (ha:a≠1) {j:Nat} (hj:j<p.length):(dZ p a b).getD j 0=pcV a b (p.length-1) (fun i=>p.getD i 0) j:=by
 have hne:(1:Rat)-a≠0:=by grind
 have hq:(b-a)/(1-a)*(1-a)=b-a:=Rat.div_mul_cancel hne
 unfold dZ
 rw [if_neg ha,yK (by rw [k6];exact hj)]
 generalize (b-a)/(1-a)=s at hq
 have key:∀ (k:Nat) (i:Nat),i+k≤p.length-1→sI s k (fun i=>(uQ p a).getD i 0) i=sI a (p.length-1-i-k) (sI b k (fun m=>p.getD (i+m) 0)) 0:=by
  intro k
  induction k with
  | zero =>
   intro i hi
   show (uQ p a).getD i 0=_
   rw [aAa (by omega),uZ,Nat.sub_zero]
   exact kJ _ _ _ _ _ fun m _=>by rw [Nat.zero_add];rfl
  | succ k ih =>
   intro i hi
   rw [aHM]
   unfold sS
   rw [ih i (by omega),ih (i+1) (by omega)]
   obtain⟨m,hm⟩:∃ m,p.length-1-i-k=m+1:=⟨p.length-1-i-k-1,by omega⟩
   rw [hm,show p.length-1-(i+1)-k=m by omega,show p.length-1-i-(k+1)=m by omega,sI]
   have hsh:(fun m=>p.getD (i+1+m) 0)=fun m=>(fun m=>p.getD (i+m) 0) (m+1):=by funext m;simp only;congr 1;omega
   rw [hsh]
   generalize (fun m=>p.getD (i+m) 0)=f
   rw [←aKA]
   have e:=aB9 a (1-s) s m (sI b k (sS a f)) (sI b k (fun m=>f (m+1)))
   have e2:=aB9 b (1-s) s k (sS a f) (fun m=>f (m+1))
   rw [←e2] at e
   have e3:(fun i=>(1-s)*sS a f i+s*f (i+1))=sS b f:=by
    funext i;unfold sS
    have h1:(1-s)*(1-a)=1-b:=by grind
    have h2:(1-s)*a+s=b:=by grind
    rw [←h1,←h2];grind
   rw [e3] at e
   exact(congrFun e 0).symm
 have:=key j 0 (by omega)
 rw [uZ] at this
 simp only [Nat.zero_add,Nat.sub_zero] at this
 rw [this];rfl
structure cvR (po:List PoR) (d R:Nat):Prop where
 hl:po.length=d+1
 hd:1≤d
 h6:d≤6
 ok:∀ q∈po,okP R q
theorem cvF.r {po:List PoR} {d:Nat} (h:cvF po d):cvR po d 1:=⟨h.hl,h.hd,h.h6,h.ok⟩
def cpQ (po:List PoR) (x y:Rat) (j:Nat):PoR :=
 ⟨⟨(dZ (f8 po 0) x y).getD j 0/(dZ (fG po) x y).getD j 0,(dZ (f8 po 1) x y).getD j 0/(dZ (fG po) x y).getD j 0,(dZ (f8 po 2) x y).getD j 0/(dZ (fG po) x y).getD j 0⟩,(dZ (fG po) x y).getD j 0⟩
def qK (po:List PoR) (x y:Rat):List PoR:=(List.range po.length).map (cpQ po x y)
theorem rE (po:List PoR) (x y:Rat):(qK po x y).length=po.length:=by simp [qK]
theorem aGP {po:List PoR} {x y:Rat} {j:Nat} (h:j<po.length):(qK po x y).getD j default=cpQ po x y j:=by
 unfold qK;rw [List.getD_eq_getElem?_getD,List.getElem?_eq_getElem (by simpa using h)];simp
theorem oW (p:List Rat) (a b:Rat):(dZ p a b).length=p.length:=by rw [←aC9,aDI]
theorem aCh {a b:Rat} (ha:0≤a) (hb:0≤b) (hab:0<a+b):∀ (n:Nat) (f:Nat→Rat),(∀ i,i≤n→0<f i)→0<fE a b n f
 | 0,f,h=>h 0 (Nat.le_refl _)
 | n+1,f,h=>by
  rw [fE]
  refine aCh ha hb hab n _ fun i hi=>?_
  have a1:=h i (by omega)
  have a2:=h (i+1) (by omega)
  have b1:=Rat.mul_nonneg ha (Rat.le_of_lt a1)
  have b2:=Rat.mul_nonneg hb (Rat.le_of_lt a2)
  rcases Rat.le_iff_lt_or_eq.1 ha with h0 | h0
  ·have:=Rat.mul_pos h0 a1;grind
  ·have:=Rat.mul_pos (show 0<b by grind) a2;grind
theorem aJw {a b:Rat} (ha:0≤a) (ha1:a≤1) (hb:0≤b) (hb1:b≤1) {n j:Nat} {f:Nat→Rat} (hj:j≤n) (h:∀ i,i≤n→0<f i):0<pcV a b n f j:=by
 unfold pcV
 rw [uZ]
 refine aCh (by grind) ha (by grind) _ _ fun m hm=>?_
 rw [uZ]
 exact aCh (by grind) hb (by grind) _ _ fun m2 hm2=>h _ (by omega)
theorem aDl {a b:Rat} {R S:Nat} (ha:rl (1-a)+rl a+1≤S) (hb:rl (1-b)+rl b+1≤S) {n j:Nat} (hn:n≤6) (hj:j≤n) {f:Nat→Rat} (h:∀ i,rl (f i)≤R):rl (pcV a b n f j)≤((R+S)*64+S)*64:=by
 unfold pcV
 have hp:∀ k,k≤6→2 ^ k≤64:=fun k hk=>Nat.pow_le_pow_right (n:=2) (by decide) hk
 have h1:∀ m,rl (sI b j f m)≤(R+S)*64:=fun m=>by
  rw [uZ]
  have:=aCY (a:=1-b) (b:=b) j (fun i=>f (m+i)) R (fun i=>h _)
  refine Nat.le_trans this (Nat.mul_le_mul (by omega) (hp j (by omega)))
 rw [uZ]
 have:=aCY (a:=1-a) (b:=a) (n-j) (fun i=>sI b j f (0+i)) ((R+S)*64) (fun i=>h1 _)
 exact Nat.le_trans this (Nat.mul_le_mul (by omega) (hp (n-j) (by omega)))
section
variable {po:List PoR} {d R:Nat} (h:cvR po d R) {x y:Rat} (hx0:0≤x) (hx1:x<1) (hy0:0≤y) (hy1:y≤1)
include h
theorem aCJ (k:Nat):(f8 po k).length=d+1:=by rw [pE,h.hl]
theorem aIX:(fG po).length=d+1:=by rw [oY,h.hl]
theorem aNn {i:Nat} (hi:i≤d):0<(fG po).getD i 0:=by
 have hl:=h.hl
 rw [aJP (by omega)]
 exact(h.ok _ (jY (by omega))).2.2
include hx1
theorem aJd {j:Nat} (hj:j≤d):(dZ (fG po) x y).getD j 0=pcV x y d (fun i=>(fG po).getD i 0) j:=by
 have hw:=aIX h
 rw [aC4 (by grind) (by omega),hw,Nat.add_sub_cancel]
theorem aEO (k:Nat) {j:Nat} (hj:j≤d):(dZ (f8 po k) x y).getD j 0=pcV x y d (fun i=>(f8 po k).getD i 0) j:=by
 have hw:=aCJ h k
 rw [aC4 (by grind) (by omega),hw,Nat.add_sub_cancel]
include hx0 hy0 hy1
theorem aIo {j:Nat} (hj:j≤d):0<(dZ (fG po) x y).getD j 0:=by
 rw [aJd h hx1 hj]
 exact aJw hx0 (Rat.le_of_lt hx1) hy0 hy1 hj fun i hi=>aNn h hi
end
theorem vY {f:Nat} (hc:∀ s t:Rat × Rat,rl s.1+rl t.1≤34359738368→rl s.2+rl t.2≤34359738368→aN Tryz.prog f [spL s,spL t] (spL (nR s t))) {l:List V3} {R:Nat} (hR:R≤1000000) (hb:∀ i,i<l.length→fH R (l.getD i default)) (k j:Nat) (hj:j+1<l.length) :
  aN Tryz.prog f [spL (bxN l k j),spL ((l.getD (j+1) default).at k,(l.getD (j+1) default).at k)] (spL (bxN l k (j+1))):=by
 have q:=vC hb k j (by omega)
 have g:=p7 (hb (j+1) hj) k
 have h1:R+R≤34359738368:=by omega
 exact hc _ _ (Nat.le_trans (Nat.add_le_add q.1 g) h1) (Nat.le_trans (Nat.add_le_add q.2 g) h1)
theorem aMT:(LV.agg [.agg [ratL 0,ratL 0],.agg [ratL 0,ratL 0],.agg [ratL 0,ratL 0]]).csize=18:=by simp [LV.csize,aL,aD.csize]
theorem aK6 (a b c:Rat × Rat):(LV.agg [spL a,spL b,spL c]).csize=18:=bxE.csize ⟨a,b,c⟩
theorem dr1 (l:List V3) (j:Nat):(l.drop 1).getD j default=l.getD (j+1) default:=by
 rw [List.getD_eq_getElem?_getD,List.getD_eq_getElem?_getD,List.getElem?_drop,Nat.add_comm]
namespace Zq92
theorem cK {p q:Prop} (k:q) (e:p=q:=by simp only [e1,e2,e3,e4,p1,p2,p3,q1,q2,q3,l1,t0,t1,r1,r2,r3,r4,Nat.zero_add,Nat.reduceMul,Nat.reduceAdd,b1,b2,b3,b4,b5,b6,i1,i2,i3,i4,i5,i6,Nat.reduceBEq,aMT,aK6,dr1,jU,List.length_drop,List.length_map,List.set_cons_zero,List.set_cons_succ,Nat.reduceEqDiff,reduceIte,if_true,if_false,a8,a9,aC cW,aC dR,aC aD,aT,a6,LV.kill,bH];exact rfl):p:=e.mpr k
end Zq92
open Zq92 in
theorem aFs (l:List V3) (h0:0<l.length) (hl:l.length≤1000) (R:Nat) (hR:R≤1000000) (hb:∀ i,i<l.length→fH R (l.getD i default)):aN Tryz.prog 98 [.list 9 (l.map dG)] (.tup [bxL (bxP l),iL 0]):=by
 obtain⟨z1,z2,z3⟩:=hb 0 h0
 refine dJ Tryz.func98 (ht:=(gU (bxE.pure _) rfl)) ?_
 refine qG ?_
 refine aQ rfl (fun h10r h10=>?_) (fun h10r h10=>?_)
 ·omega
 ·refine eP ?_
  refine aK ?_
  refine bY ?_
  refine aY (b:=_) rfl (by decide) ?_
  refine oB ?_
  refine cp cS (fT (l.getD 0 default).x (by omega)) ?_
  refine dP ?_
  refine aB rfl (.sliceLl (a:=1) cW rfl Tryz.underlying165 kS rfl om) ?_
  refine dX ?_
  refine lO (fun(j:Nat) L=>(((((((((St.mk L.slot (hp [(2,⟨18,[.agg [.agg [ratL 0,ratL 0],.agg [ratL 0,ratL 0],.agg [ratL 0,ratL 0]]],true⟩),(4,⟨18,[.agg [spL (bxN l 0 j),.agg [ratL 0,ratL 0],.agg [ratL 0,ratL 0]]],true⟩)])).put (some 0) (.list 9 (l.map dG))).put (some 2) (.eptr 2 18 0 0)).put (some 4) (.eptr 4 18 0 0)).put (some 5) (iL 0)).put (some 12) (iL 0)).put (some 24) (.list 9 ((l.drop 1).map dG))).put (some 25) (aG (l.length-1))).put (some 26) (aG j))) (fun j=>j≤l.length-1) (fun j=>l.length-1-j) 0 (Nat.zero_le _) ?_
  rintro j L2 hj
  refine bY ?_
  refine aQ rfl (fun h27r h27=>?_) (fun h27r h27=>?_)
  ·have hj2:j<l.length-1:=by omega
   obtain⟨g1,g2,g3⟩:=hb (j+1) (by omega)
   have hH0:aN Tryz.prog 182 [spL (bxN l 0 j),spL ((l.getD (j+1) default).x,(l.getD (j+1) default).x)] (spL (bxN l 0 (j+1))):=vY (fun s t h1 h2=>iT s t (by omega) (by omega)) hR hb 0 j (by omega)
   refine cH ?_
   refine aP 10 (by decide +kernel) ?_
   refine dP ?_
   refine cp cS (fT (l.getD (j+1) default).x (by omega)) ?_
   refine cp bI (hH0) ?_
   refine dX ?_
   refine bG (a7.kill _ 7) ?_
   refine aB rfl (.bin rfl rfl (dA (by omega))) ?_
   refine dI ?_
   exact kE (j+1) (by omega)
  ·obtain rfl:j=l.length-1:=by omega
   refine cQ ?_
   refine aK ?_
   refine bY ?_
   refine aY (b:=_) rfl (by decide) ?_
   refine oB ?_
   refine cp cS (fT (l.getD 0 default).y (by omega)) ?_
   refine dP ?_
   refine aB rfl (.sliceLl (a:=1) cW rfl Tryz.underlying165 kS rfl om) ?_
   refine dX ?_
   refine lO (fun(j:Nat) L=>(((((((((St.mk L.slot (hp [(2,⟨18,[.agg [.agg [ratL 0,ratL 0],.agg [ratL 0,ratL 0],.agg [ratL 0,ratL 0]]],true⟩),(4,⟨18,[.agg [spL (bxN l 0 (l.length-1)),spL (bxN l 1 j),.agg [ratL 0,ratL 0]]],true⟩)])).put (some 0) (.list 9 (l.map dG))).put (some 2) (.eptr 2 18 0 0)).put (some 4) (.eptr 4 18 0 0)).put (some 5) (iL 1)).put (some 12) (iL 1)).put (some 24) (.list 9 ((l.drop 1).map dG))).put (some 25) (aG (l.length-1))).put (some 26) (aG j))) (fun j=>j≤l.length-1) (fun j=>l.length-1-j) 0 (Nat.zero_le _) ?_
   rintro j L2 hj
   refine bY ?_
   refine aQ rfl (fun h27r h27=>?_) (fun h27r h27=>?_)
   ·have hj2:j<l.length-1:=by omega
    obtain⟨g1,g2,g3⟩:=hb (j+1) (by omega)
    have hH1:aN Tryz.prog 182 [spL (bxN l 1 j),spL ((l.getD (j+1) default).y,(l.getD (j+1) default).y)] (spL (bxN l 1 (j+1))):=vY (fun s t h1 h2=>iT s t (by omega) (by omega)) hR hb 1 j (by omega)
    refine cH ?_
    refine aP 10 (by decide +kernel) ?_
    refine dP ?_
    refine cp cS (fT (l.getD (j+1) default).y (by omega)) ?_
    refine cp bI (hH1) ?_
    refine dX ?_
    refine bG (a7.kill _ 7) ?_
    refine aB rfl (.bin rfl rfl (dA (by omega))) ?_
    refine dI ?_
    exact kE (j+1) (by omega)
   ·obtain rfl:j=l.length-1:=by omega
    refine cQ ?_
    refine aK ?_
    refine bY ?_
    refine aY (b:=_) rfl (by decide) ?_
    refine oB ?_
    refine cp cS (fT (l.getD 0 default).z (by omega)) ?_
    refine dP ?_
    refine aB rfl (.sliceLl (a:=1) cW rfl Tryz.underlying165 kS rfl om) ?_
    refine dX ?_
    refine lO (fun(j:Nat) L=>(((((((((St.mk L.slot (hp [(2,⟨18,[.agg [.agg [ratL 0,ratL 0],.agg [ratL 0,ratL 0],.agg [ratL 0,ratL 0]]],true⟩),(4,⟨18,[.agg [spL (bxN l 0 (l.length-1)),spL (bxN l 1 (l.length-1)),spL (bxN l 2 j)]],true⟩)])).put (some 0) (.list 9 (l.map dG))).put (some 2) (.eptr 2 18 0 0)).put (some 4) (.eptr 4 18 0 0)).put (some 5) (iL 2)).put (some 12) (iL 2)).put (some 24) (.list 9 ((l.drop 1).map dG))).put (some 25) (aG (l.length-1))).put (some 26) (aG j))) (fun j=>j≤l.length-1) (fun j=>l.length-1-j) 0 (Nat.zero_le _) ?_
    rintro j L2 hj
    refine bY ?_
    refine aQ rfl (fun h27r h27=>?_) (fun h27r h27=>?_)
    ·have hj2:j<l.length-1:=by omega
     obtain⟨g1,g2,g3⟩:=hb (j+1) (by omega)
     have hH2:aN Tryz.prog 182 [spL (bxN l 2 j),spL ((l.getD (j+1) default).z,(l.getD (j+1) default).z)] (spL (bxN l 2 (j+1))):=vY (fun s t h1 h2=>iT s t (by omega) (by omega)) hR hb 2 j (by omega)
     refine cH ?_
     refine aP 10 (by decide +kernel) ?_
     refine dP ?_
     refine cp cS (fT (l.getD (j+1) default).z (by omega)) ?_
     refine cp bI (hH2) ?_
     refine dX ?_
     refine bG (a7.kill _ 7) ?_
     refine aB rfl (.bin rfl rfl (dA (by omega))) ?_
     refine dI ?_
     exact kE (j+1) (by omega)
    ·obtain rfl:j=l.length-1:=by omega
     refine cQ ?_
     refine aK ?_
     refine bY ?_
     refine bO (b:=_) rfl (by decide) ?_
     refine fI ?_
     exact nL [] rfl rfl rfl cs (b7 cs rfl) T97 (.pure pu) rfl (.pure rfl)
def cN (d:Nat) (a b:Rat):List Rat:=List.replicate (d+1) a++List.replicate (d+1) b
theorem eT (d:Nat) (a b:Rat):(cN d a b).length=2*(d+1):=by simp [cN];omega
theorem dK (d:Nat) (a b:Rat) (i:Nat) (h:i<2*(d+1)):(cN d a b).getD i 0=if i<d+1 then a else b:=by
 unfold cN
 split
 ·rw [gD1 (by simp;omega),lL (by omega)]
 ·rw [gD2 (by simp;omega),List.length_replicate,lL (by omega)]
theorem lH (d:Nat) (a b:Rat):(cN d a b).getD 0 0=a:=by rw [dK _ _ _ _ (by omega),if_pos (by omega)]
theorem mF (d:Nat) (a b:Rat):(cN d a b).getD (2*(d+1)-1) 0=b:=by rw [dK _ _ _ _ (by omega),if_neg (by omega)]
theorem s8 {d:Nat} {a b:Rat} {R:Nat} (ha:rl a≤R) (hb:rl b≤R):∀ x∈cN d a b,rl x≤R:=fun x hx=>by
 rcases List.mem_append.1 hx with g | g
 ·rw [(List.mem_replicate.1 g).2];exact ha
 ·rw [(List.mem_replicate.1 g).2];exact hb
theorem aIO {d m:Nat} {a b:Rat} (h:m<2*(d+1)) (h2:m≤d):(cN d a b).take m++[a]=(cN d a b).take (m+1):=by
 have e:=dK d a b m h
 rw [if_pos (by omega)] at e
 rw [←lM (l:=cN d a b) (k:=m) (by rw [eT];exact h),e]
theorem aIC {d m:Nat} {a b:Rat} (h:m<2*(d+1)) (h2:¬m≤d):(cN d a b).take m++[b]=(cN d a b).take (m+1):=by
 have e:=dK d a b m h
 rw [if_neg (by omega)] at e
 rw [←lM (l:=cN d a b) (k:=m) (by rw [eT];exact h),e]
theorem aJZ {a b:Rat} (h:a<b):kC a b=a:=by unfold kC;rw [if_neg (by grind)]
theorem aJC {a b:Rat} (h:a<b):jR a b=b:=by unfold jR;rw [if_pos h]
theorem aGs {p:List Rat} {x:Rat} (hl:p.length≤7) (hp:∀ y∈p,rl y≤7000000) (hx:rl x≤100000):HS p x:=by
 have h1:=d9 1 x
 have h0:rl 1=1:=rfl
 refine⟨rl (1-x)+rl x+1,Nat.le_refl _,by omega,fun y hy=>?_⟩
 have h2:=hp y hy
 have h3:2 ^ p.length≤2 ^ 7:=Nat.pow_le_pow_right (by decide) hl
 have h4:(rl y+(rl (1-x)+rl x+1))*2 ^ p.length≤8000000*2 ^ 7:=Nat.mul_le_mul (by omega) h3
 omega
theorem aLk {p:List Rat} {x:Rat} {R S:Nat} (hl:p.length≤7) (hp:∀ y∈p,rl y≤R) (hR:1≤R) (hx:rl (1-x)+rl x+1≤S):∀ y∈uQ p x,rl y≤(R+S)*64:=fun y hy=>by
 obtain⟨j,hj,rfl⟩:=List.mem_iff_getElem.1 hy
 have hj2:j<p.length:=by rw [k6] at hj;exact hj
 have e:(uQ p x)[j]=(uQ p x).getD j 0:=by rw [List.getD_eq_getElem?_getD,List.getElem?_eq_getElem hj];rfl
 rw [e,aAa hj2]
 have h1:=aCY (a:=1-x) (b:=x) (p.length-1-j) (fun i=>p.getD (j+i) 0) R (fun i=>d7 hR hp _)
 have h2:2 ^ (p.length-1-j)≤64:=Nat.pow_le_pow_right (n:=2) (by decide) (show p.length-1-j≤6 by omega)
 exact Nat.le_trans h1 (Nat.mul_le_mul (by omega) h2)
theorem aK9 {n:Nat} (h:2*n≤9223372036854775807):dU .mul .i64 2 (n:Nat)=some (.int .i64 ((2*n:Nat):Int)):=by
 rw [xF (by omega) (by omega)];congr 2
theorem aAs (d sz:Nat) (x z:LV) (Z:Nat→Prop) (μ:Nat→Option Nat) (w:World) (cs:List Value) (h:bZ Z μ w (.agg [x,.v (.slice none 0 0),z]) cs):bZ Z μ w (.agg [x,.ref d sz 0 0,z]) cs:=by
 simp only [bZ,bV] at h ⊢
 obtain⟨c1,c2,e1,e2,e3,c3,c4,e4,e5,e6,c5,c6,e7,e8,e9,e10⟩:=h
 exact⟨c1,c2,e1,e2,e3,c3,c4,e4,e5,.inl ⟨e6.1,trivial⟩,c5,c6,e7,e8,e9,e10⟩
namespace Zq125
theorem cK {p q:Prop} (k:q) (e:p=q:=by simp only [e1,e2,e3,e4,p1,p2,p3,q1,q2,q3,l1,t0,t1,r1,r2,r3,r4,Nat.zero_add,Nat.reduceMul,Nat.reduceAdd,b1,b2,b3,b4,b5,b6,i1,i2,i3,i4,i5,i6,Nat.reduceBEq,etk,ers,cJ,eA,dC,List.length_cons,List.length_nil,List.nil_append,List.map_nil,List.take_nil,List.append_nil,List.set_cons_zero,List.set_cons_succ,Nat.reduceEqDiff,reduceIte,if_true,if_false,a8,a9,aC cW,aC dR,aC aD,aT,a6,LV.kill,bH];exact rfl):p:=e.mpr k
end Zq125
open Zq125 in
theorem aEt (d:Nat) (kn:List Rat) (po:List PoR) (R:Nat) (hR:R≤1000000) (h:cvR po d R):aN Tryz.prog 99 [.agg [aG d,.list 3 (kn.map ratL),.list 12 (po.map eB)]] (.list 9 ((po.map (·.p)).map dG)):=by
 have hl:=h.hl
 have hd:=h.hd
 have h6:=h.h6
 have hcp:LV.pure (.agg [aG d,.list 3 (kn.map ratL),.list 12 (po.map eB)])=true:=by simp [LV.pure,aV,aF aD,aF dR]
 refine dJ Tryz.func99 (ht:=(fun g=>LV.ren_pure g _ (aJ cW _ _))) ?_
 have etk:True:=trivial
 have ers:True:=trivial
 refine aCu ?_
 refine fV ((a7.kill _ 1).trans (a7.own (t:=3) 17 9 rfl rfl)) ?_
 refine lO (fun(i:Nat) L=>(((((St.mk L.slot (hp [(17,⟨9,((po.map (·.p)).take i).map dG,true⟩)])).put (some 3) (.ref 17 9 0 i)).put (some 7) (.list 12 (po.map eB))).put (some 8) (aG po.length)).put (some 9) (aG i))) (fun i=>i≤po.length) (fun i=>po.length-i) 0 (Nat.zero_le _) ?_
 rintro i L1 hi
 refine bY ?_
 refine aQ rfl (fun h10r h10=>?_) (fun h10r h10=>?_)
 ·have rC:i<po.length:=by omega
  have ers:=iY (·.p) po rC
  have htl:((po.map (·.p)).take i).length=i:=by rw [List.length_take,List.length_map];omega
  have etk:(((po.map (·.p)).take i).map dG).take i=((po.map (·.p)).take i).map dG:=List.take_of_length_le (by rw [List.length_map];omega)
  refine jT ?_
  refine bC rfl (.appX (d:=17) (news:=[dG (po.getD i default).p]) rfl rfl rfl rfl (by simp;omega) (.inl rfl) (by decide) Tryz.underlying165 Tryz.underlying165 Z40 kS cs B40 (.inl ⟨16,0,_,rfl,by decide,rfl,rfl,by simp,rfl,by simp [aV,cW.pure]⟩) (by simp;omega) (by simp;omega) (by decide)) ?_
  refine cB ?_
  refine bG ((a7.kill _ 5).trans (a7.kill _ 16)) ?_
  refine aB rfl (.bin rfl rfl (dA (by omega))) ?_
  refine dI ?_
  exact kE (i+1) (by omega)
 ·obtain rfl:i=po.length:=by omega
  have hE:(po.map (·.p)).take po.length=(po.map (·.p)):=List.take_of_length_le (by simp)
  refine cH ?_
  simp only [hE]
  exact jV [17] rfl rfl (cC cW rfl rfl (by simp))
namespace Zq58
theorem cK {p q:Prop} (k:q) (e:p=q:=by simp only [e1,e2,e3,e4,p1,p2,p3,q1,q2,q3,l1,t0,t1,r1,r2,r3,r4,Nat.zero_add,Nat.reduceMul,Nat.reduceAdd,b1,b2,b3,b4,b5,b6,i1,i2,i3,i4,i5,i6,Nat.reduceBEq,List.set_cons_zero,List.set_cons_succ,Nat.reduceEqDiff,reduceIte,if_true,if_false,a8,a9,aC cW,aC dR,aC aD,aT,a6,LV.kill,bH];exact rfl):p:=e.mpr k
end Zq58
open Zq58 in
theorem aI5 (q:PoR) (R:Nat) (hR:R≤1000000) (h:okP R q):aN Tryz.prog 153 [eB q] (.agg [ratL (q.w*q.p.x),ratL (q.w*q.p.y),ratL (q.w*q.p.z),ratL q.w]):=by
 obtain⟨⟨a1,a2,a3⟩,a4,_⟩:=h
 have hA:=eF q.w 0 (by have:rl 0=1:=rfl;omega)
 rw [Rat.add_zero] at hA
 refine dJ Tryz.func153 (ht:=(fun g=>LV.ren_pure g _ pu)) ?_
 refine nH ?_
 refine aK ?_
 refine bY ?_
 refine aY (b:=_) rfl (by decide) ?_
 refine oB ?_
 refine cp bI (dQ q.w q.p.x (by omega)) ?_
 refine dX ?_
 refine bG (a7.kill _ 5) ?_
 refine cB ?_
 refine aK ?_
 refine bY ?_
 refine aY (b:=_) rfl (by decide) ?_
 refine oB ?_
 refine cp bI (dQ q.w q.p.y (by omega)) ?_
 refine dX ?_
 refine bG (a7.kill _ 5) ?_
 refine cB ?_
 refine aK ?_
 refine bY ?_
 refine aY (b:=_) rfl (by decide) ?_
 refine oB ?_
 refine cp bI (dQ q.w q.p.z (by omega)) ?_
 refine dX ?_
 refine bG (a7.kill _ 5) ?_
 refine cB ?_
 refine aK ?_
 refine bY ?_
 refine bO (b:=_) rfl (by decide) ?_
 refine eP ?_
 refine aB rfl (.build0 sP i9) ?_
 refine cp bI (hA) ?_
 refine cQ ?_
 exact dE [] rfl rfl rfl cs (b7 cs rfl) aA1 (.pure pu)
namespace Zq5
theorem cK {p q:Prop} (k:q) (e:p=q:=by simp only [e1,e2,e3,e4,p1,p2,p3,q1,q2,q3,l1,t0,t1,r1,r2,r3,r4,Nat.zero_add,Nat.reduceMul,Nat.reduceAdd,b1,b2,b3,b4,b5,b6,i1,i2,i3,i4,i5,i6,Nat.reduceBEq,etk0,etk1,etk2,etk3,ers0,ers1,ers2,ers3,cJ,eA,dC,List.length_cons,List.length_nil,List.nil_append,List.map_nil,List.take_nil,List.append_nil,List.set_cons_zero,List.set_cons_succ,Nat.reduceEqDiff,reduceIte,if_true,if_false,a8,a9,aC cW,aC dR,aC aD,aT,a6,LV.kill,bH];exact rfl):p:=e.mpr k
end Zq5
open Zq5 in
theorem uB (d:Nat) (kn:List Rat) (po:List PoR) (R:Nat) (hR:R≤1000000) (h:cvR po d R):aN Tryz.prog 93 [.agg [aG d,.list 3 (kn.map ratL),.list 12 (po.map eB)]] (.agg [.list 3 ((f8 po 0).map ratL),.list 3 ((f8 po 1).map ratL),.list 3 ((f8 po 2).map ratL),.list 3 ((fG po).map ratL)]):=by
 have hl:=h.hl
 have hd:=h.hd
 have h6:=h.h6
 have hcp:LV.pure (.agg [aG d,.list 3 (kn.map ratL),.list 12 (po.map eB)])=true:=by simp [LV.pure,aV,aF aD,aF dR]
 have hn0:=pE po 0
 have hn1:=pE po 1
 have hn2:=pE po 2
 have hn3:=oY po
 refine dJ Tryz.func93 (ht:=(fun g=>LV.ren_pure g _ (by simp [LV.pure,aV,aF aD]))) ?_
 have etk0:True:=trivial
 have etk1:True:=trivial
 have etk2:True:=trivial
 have etk3:True:=trivial
 have ers0:True:=trivial
 have ers1:True:=trivial
 have ers2:True:=trivial
 have ers3:True:=trivial
 refine aCu ?_
 refine fV (((a7.kill _ 1).trans (a7.cell 3 rfl (fun Z μ w cs h=>aF6 1001 1002 1003 1004 3 Z μ w cs h))).trans ((a7.newB _ 1001 3 rfl).trans ((a7.newB _ 1002 3 rfl).trans ((a7.newB _ 1003 3 rfl).trans (a7.newB _ 1004 3 rfl))))) ?_
 refine lO (fun(j:Nat) L=>((((((St.mk L.slot (hp [(2,⟨4,[.agg [.v (.slice none 0 0),.v (.slice none 0 0),.v (.slice none 0 0),.v (.slice none 0 0)]],true⟩),(3,⟨4,[.agg [.ref 1001 3 0 j,.ref 1002 3 0 j,.ref 1003 3 0 j,.ref 1004 3 0 j]],true⟩),(1001,⟨3,((f8 po 0).take j).map ratL,true⟩),(1002,⟨3,((f8 po 1).take j).map ratL,true⟩),(1003,⟨3,((f8 po 2).take j).map ratL,true⟩),(1004,⟨3,((fG po).take j).map ratL,true⟩)])).put (some 2) (.eptr 2 4 0 0)).put (some 3) (.eptr 3 4 0 0)).put (some 9) (.list 12 (po.map eB))).put (some 10) (aG po.length)).put (some 11) (aG j))) (fun j=>j≤po.length) (fun j=>po.length-j) 0 (Nat.zero_le _) ?_
 rintro j L1 hj
 refine bY ?_
 refine aQ rfl (fun h12r h12=>?_) (fun h12r h12=>?_)
 ·have hj2:j<po.length:=by omega
  have hok:=h.ok _ (jY hj2)
  have ers0:(f8 po 0).take j++[(po.getD j default).w*(po.getD j default).p.x]=(f8 po 0).take (j+1):=iY (fun q:PoR=>q.w*q.p.at 0) po hj2
  have ers1:(f8 po 1).take j++[(po.getD j default).w*(po.getD j default).p.y]=(f8 po 1).take (j+1):=iY (fun q:PoR=>q.w*q.p.at 1) po hj2
  have ers2:(f8 po 2).take j++[(po.getD j default).w*(po.getD j default).p.z]=(f8 po 2).take (j+1):=iY (fun q:PoR=>q.w*q.p.at 2) po hj2
  have ers3:(fG po).take j++[(po.getD j default).w]=(fG po).take (j+1):=iY (fun q:PoR=>q.w) po hj2
  have etk0:(((f8 po 0).take j).map ratL).take j=((f8 po 0).take j).map ratL:=List.take_of_length_le (by rw [List.length_map,List.length_take];omega)
  have etk1:(((f8 po 1).take j).map ratL).take j=((f8 po 1).take j).map ratL:=List.take_of_length_le (by rw [List.length_map,List.length_take];omega)
  have etk2:(((f8 po 2).take j).map ratL).take j=((f8 po 2).take j).map ratL:=List.take_of_length_le (by rw [List.length_map,List.length_take];omega)
  have etk3:(((fG po).take j).map ratL).take j=((fG po).take j).map ratL:=List.take_of_length_le (by rw [List.length_map,List.length_take];omega)
  refine iR ?_
  refine cp cS (aI5 (po.getD j default) R hR hok) ?_
  refine cB ?_
  refine aK ?_
  refine bY ?_
  refine aY (b:=_) rfl (by decide) ?_
  refine fI ?_
  refine dH 6 [0] (by decide +kernel) ?_
  refine bY ?_
  refine bC rfl (.appX (d:=1001) (news:=[ratL ((po.getD j default).w*(po.getD j default).p.x)]) rfl rfl rfl rfl (by simp;omega) (.inl rfl) (by decide) Tryz.underlying155 Tryz.underlying155 i9 dD rfl B31 (.inl ⟨26,0,_,rfl,by decide,rfl,rfl,by simp,rfl,by simp [aV,aD.pure]⟩) (by simp;omega) (by simp;omega) (by decide)) ?_
  refine dX ?_
  refine bG ((a7.kill _ 7).trans (a7.kill _ 26)) ?_
  refine cB ?_
  refine aK ?_
  refine bY ?_
  refine aY (b:=_) rfl (by decide) ?_
  refine fI ?_
  refine dH 6 [0] (by decide +kernel) ?_
  refine bY ?_
  refine bC rfl (.appX (d:=1002) (news:=[ratL ((po.getD j default).w*(po.getD j default).p.y)]) rfl rfl rfl rfl (by simp;omega) (.inl rfl) (by decide) Tryz.underlying155 Tryz.underlying155 i9 dD rfl B31 (.inl ⟨26,0,_,rfl,by decide,rfl,rfl,by simp,rfl,by simp [aV,aD.pure]⟩) (by simp;omega) (by simp;omega) (by decide)) ?_
  refine dX ?_
  refine bG ((a7.kill _ 7).trans (a7.kill _ 26)) ?_
  refine cB ?_
  refine aK ?_
  refine bY ?_
  refine aY (b:=_) rfl (by decide) ?_
  refine fI ?_
  refine dH 6 [0] (by decide +kernel) ?_
  refine bY ?_
  refine bC rfl (.appX (d:=1003) (news:=[ratL ((po.getD j default).w*(po.getD j default).p.z)]) rfl rfl rfl rfl (by simp;omega) (.inl rfl) (by decide) Tryz.underlying155 Tryz.underlying155 i9 dD rfl B31 (.inl ⟨26,0,_,rfl,by decide,rfl,rfl,by simp,rfl,by simp [aV,aD.pure]⟩) (by simp;omega) (by simp;omega) (by decide)) ?_
  refine dX ?_
  refine bG ((a7.kill _ 7).trans (a7.kill _ 26)) ?_
  refine cB ?_
  refine aK ?_
  refine bY ?_
  refine aY (b:=_) rfl (by decide) ?_
  refine fI ?_
  refine dH 6 [0] (by decide +kernel) ?_
  refine bY ?_
  refine bC rfl (.appX (d:=1004) (news:=[ratL ((po.getD j default).w)]) rfl rfl rfl rfl (by simp;omega) (.inl rfl) (by decide) Tryz.underlying155 Tryz.underlying155 i9 dD rfl B31 (.inl ⟨26,0,_,rfl,by decide,rfl,rfl,by simp,rfl,by simp [aV,aD.pure]⟩) (by simp;omega) (by simp;omega) (by decide)) ?_
  refine dX ?_
  refine bG ((a7.kill _ 7).trans (a7.kill _ 26)) ?_
  refine cB ?_
  refine aK ?_
  refine bY ?_
  refine bO (b:=_) rfl (by decide) ?_
  refine bY ?_
  refine bG (a7.kill _ 5) ?_
  refine aB rfl (.bin rfl rfl (dA (by omega))) ?_
  refine dI ?_
  exact kE (j+1) (by omega)
 ·obtain rfl:j=po.length:=by omega
  have hE0:(f8 po 0).take po.length=(f8 po 0):=List.take_of_length_le (by omega)
  have hE1:(f8 po 1).take po.length=(f8 po 1):=List.take_of_length_le (by omega)
  have hE2:(f8 po 2).take po.length=(f8 po 2):=List.take_of_length_le (by omega)
  have hE3:(fG po).take po.length=(fG po):=List.take_of_length_le (by omega)
  refine cH ?_
  simp only [hE0,hE1,hE2,hE3]
  exact dE [1001,1002,1003,1004] rfl rfl rfl cs (b7 cs rfl) aLm (.agg (.cons (cC aD rfl rfl hn0.symm) (.cons (cC aD rfl rfl hn1.symm) (.cons (cC aD rfl rfl hn2.symm) (.cons (cC aD rfl rfl hn3.symm) .nil)))))
namespace Zq16
theorem cK {p q:Prop} (k:q) (e:p=q:=by simp only [e1,e2,e3,e4,p1,p2,p3,q1,q2,q3,l1,t0,t1,r1,r2,r3,r4,Nat.zero_add,Nat.reduceMul,Nat.reduceAdd,b1,b2,b3,b4,b5,b6,i1,i2,i3,i4,i5,i6,Nat.reduceBEq,jU,hkl,hlo,hhi,List.length_map,List.set_cons_zero,List.set_cons_succ,Nat.reduceEqDiff,reduceIte,if_true,if_false,a8,a9,aC cW,aC dR,aC aD,aT,a6,LV.kill,bH];exact rfl):p:=e.mpr k
end Zq16
open Zq16 in
theorem sD (d:Nat) (a b:Rat) (po:List PoR) (ha:rl a≤100) (hb:rl b≤100) (hab:a<b) (h9:d≤6):aN Tryz.prog 41 [.agg [aG d,.list 3 ((cN d a b).map ratL),.list 12 (po.map eB)]] (spL (a,b)):=by
 have hkl:=eT d a b
 have hlo:=lH d a b
 have hhi:=mF d a b
 have hcp:LV.pure (.agg [aG d,.list 3 ((cN d a b).map ratL),.list 12 (po.map eB)])=true:=by simp [LV.pure,aV,aF aD,aF dR]
 have hS:=wO a b (by omega)
 rw [aJZ hab,aJC hab] at hS
 refine dJ Tryz.func41 ?_
 refine iR ?_
 refine aQ rfl (fun h6r h6=>?_) (fun h6r h6=>?_)
 ·omega
 ·refine dI ?_
  refine aP 13 (by decide +kernel) ?_
  refine eP ?_
  refine aB rfl (.bin rfl rfl (iJ (by omega) (by omega))) ?_
  refine cU ?_
  try simp only [t1,jU,hkl,hlo,hhi,List.length_map]
  refine cp bI (hS) ?_
  refine cB ?_
  exact dE [] rfl rfl rfl (d8.csize _) (fN _) mH (.pure (d8.pure _))
namespace Zq122
theorem cK {p q:Prop} (k:q) (e:p=q:=by simp only [e1,e2,e3,e4,p1,p2,p3,q1,q2,q3,l1,t0,t1,r1,r2,r3,r4,Nat.zero_add,Nat.reduceMul,Nat.reduceAdd,b1,b2,b3,b4,b5,b6,i1,i2,i3,i4,i5,i6,Nat.reduceBEq,List.set_cons_zero,List.set_cons_succ,Nat.reduceEqDiff,reduceIte,if_true,if_false,a8,a9,aC cW,aC dR,aC aD,aT,a6,LV.kill,bH];exact rfl):p:=e.mpr k
end Zq122
open Zq122 in
theorem aB3 (d:Nat) (a b:Rat) (po:List PoR) (ha:rl a≤100) (hb:rl b≤100) (hab:a<b) (h9:d≤6) (t x:Rat) (ht:rl t≤100) (h1:a≤t) (h2:t≤b) (hx:(t-a)/(b-a)=x) (hp0:0<po.length):aN Tryz.prog 91 [.agg [aG d,.list 3 ((cN d a b).map ratL),.list 12 (po.map eB)],ratL t] (.tup [ratL x,ratL (b-a),bL true]):=by
 have hkl:=eT d a b
 have hlo:=lH d a b
 have hhi:=mF d a b
 have hcp:LV.pure (.agg [aG d,.list 3 ((cN d a b).map ratL),.list 12 (po.map eB)])=true:=by simp [LV.pure,aV,aF aD,aF dR]
 have hz1:=d9 t a
 have hz2:=d9 b a
 have hD:=sD d a b po ha hb hab h9
 have hW:aN Tryz.prog 164 [spL (a,b)] (ratL (b-a)):=aAJ (a,b) (by show rl b+rl a≤_;omega)
 have hQ:aN Tryz.prog 169 [ratL (t-a),ratL (b-a)] (.tup [ratL x,iL 0]):=by
  have:=mD (t-a) (b-a) (by omega)
  rw [if_neg (by grind),hx] at this
  exact this
 have hH:aN Tryz.prog 103 [spL (a,b),ratL t] (bL true):=by
  have:=zX (a,b) t (by show rl a+rl t≤_;omega) (by show rl t+rl b≤_;omega)
  unfold mV at this
  rw [decide_eq_true h1,decide_eq_true h2] at this
  exact this
 refine dJ Tryz.func91 (ht:=(aFL (aD.pure _) (aD.pure _) rfl)) ?_
 refine cH ?_
 refine cp cS (hD) ?_
 refine cH ?_
 refine eD 15 rfl (fun h15r h15=>?_) (fun h15r h15=>?_)
 ·omega
 ·refine cU ?_
  refine cp bI (hH) ?_
  refine cB ?_
  refine aQ rfl (fun h20r h20=>?_) (fun h20r h20=>?_)
  ·first | exact h20.elim | cases h20r
  ·refine dX ?_
   refine cp cS (hW) ?_
   refine cB ?_
   refine dH 9 [8] (by decide +kernel) ?_
   refine dI ?_
   refine cp bI (iX t a (by omega)) ?_
   refine bD ?_
   refine cp bI (hQ) ?_
   refine eI ?_
   refine zM ?_
   refine wS 0 1 2 _ _ _ (by decide +kernel) rfl rfl rfl ?_ ?_ ?_
   ·refine bD ?_
    refine aE ?_
    refine wS 1 2 4 _ _ _ (by decide +kernel) rfl rfl rfl ?_ ?_ ?_
    ·refine bD ?_
     refine aE ?_
     refine dT 2 4 _ _ (by decide +kernel) rfl rfl ?_ ?_
     ·refine bD ?_
      refine aE ?_
      refine dT 3 4 _ _ (by decide +kernel) rfl rfl ?_ ?_
      ·refine bD ?_
       refine aE ?_
       refine a5 4 _ (by decide +kernel) rfl ?_
       refine bD ?_
       refine aE ?_
       refine a5 5 _ (by decide +kernel) rfl ?_
       refine bD ?_
       refine aE ?_
       refine a5 6 _ (by decide +kernel) rfl ?_
       refine bD ?_
       refine aE ?_
       refine cX (by decide +kernel) ?_
       refine cU ?_
       exact c9 [] rfl rfl rfl (aD.csize _) (aH _) dD (.pure (aD.pure _)) rfl rfl (aD.csize _) (aH _) dD (.pure (aD.pure _)) rfl (.pure rfl)
      ·refine bD ?_
       refine aE ?_
       refine dT 3 5 _ _ (by decide +kernel) rfl rfl ?_ ?_
       ·refine bD ?_
        refine aE ?_
        refine a5 5 _ (by decide +kernel) rfl ?_
        refine bD ?_
        refine aE ?_
        refine a5 6 _ (by decide +kernel) rfl ?_
        refine bD ?_
        refine aE ?_
        refine cX (by decide +kernel) ?_
        refine cU ?_
        exact c9 [] rfl rfl rfl (aD.csize _) (aH _) dD (.pure (aD.pure _)) rfl rfl (aD.csize _) (aH _) dD (.pure (aD.pure _)) rfl (.pure rfl)
       ·refine bD ?_
        refine aE ?_
        refine a5 3 _ (by decide +kernel) rfl ?_
        refine bD ?_
        refine aE ?_
        refine a5 6 _ (by decide +kernel) rfl ?_
        refine bD ?_
        refine aE ?_
        refine cX (by decide +kernel) ?_
        refine cU ?_
        exact c9 [] rfl rfl rfl (aD.csize _) (aH _) dD (.pure (aD.pure _)) rfl rfl (aD.csize _) (aH _) dD (.pure (aD.pure _)) rfl (.pure rfl)
     ·refine bD ?_
      refine aE ?_
      refine dT 2 5 _ _ (by decide +kernel) rfl rfl ?_ ?_
      ·refine bD ?_
       refine aE ?_
       refine dT 3 5 _ _ (by decide +kernel) rfl rfl ?_ ?_
       ·refine bD ?_
        refine aE ?_
        refine a5 5 _ (by decide +kernel) rfl ?_
        refine bD ?_
        refine aE ?_
        refine a5 6 _ (by decide +kernel) rfl ?_
        refine bD ?_
        refine aE ?_
        refine cX (by decide +kernel) ?_
        refine cU ?_
        exact c9 [] rfl rfl rfl (aD.csize _) (aH _) dD (.pure (aD.pure _)) rfl rfl (aD.csize _) (aH _) dD (.pure (aD.pure _)) rfl (.pure rfl)
       ·refine bD ?_
        refine aE ?_
        refine a5 3 _ (by decide +kernel) rfl ?_
        refine bD ?_
        refine aE ?_
        refine a5 6 _ (by decide +kernel) rfl ?_
        refine bD ?_
        refine aE ?_
        refine cX (by decide +kernel) ?_
        refine cU ?_
        exact c9 [] rfl rfl rfl (aD.csize _) (aH _) dD (.pure (aD.pure _)) rfl rfl (aD.csize _) (aH _) dD (.pure (aD.pure _)) rfl (.pure rfl)
      ·refine bD ?_
       refine aE ?_
       refine a5 2 _ (by decide +kernel) rfl ?_
       refine bD ?_
       refine aE ?_
       refine a5 3 _ (by decide +kernel) rfl ?_
       refine bD ?_
       refine aE ?_
       refine a5 6 _ (by decide +kernel) rfl ?_
       refine bD ?_
       refine aE ?_
       refine cX (by decide +kernel) ?_
       refine cU ?_
       exact c9 [] rfl rfl rfl (aD.csize _) (aH _) dD (.pure (aD.pure _)) rfl rfl (aD.csize _) (aH _) dD (.pure (aD.pure _)) rfl (.pure rfl)
    ·refine bD ?_
     refine aE ?_
     refine wS 1 3 4 _ _ _ (by decide +kernel) rfl rfl rfl ?_ ?_ ?_
     ·refine bD ?_
      refine aE ?_
      refine dT 3 4 _ _ (by decide +kernel) rfl rfl ?_ ?_
      ·refine bD ?_
       refine aE ?_
       refine a5 4 _ (by decide +kernel) rfl ?_
       refine bD ?_
       refine aE ?_
       refine a5 5 _ (by decide +kernel) rfl ?_
       refine bD ?_
       refine aE ?_
       refine a5 6 _ (by decide +kernel) rfl ?_
       refine bD ?_
       refine aE ?_
       refine cX (by decide +kernel) ?_
       refine cU ?_
       exact c9 [] rfl rfl rfl (aD.csize _) (aH _) dD (.pure (aD.pure _)) rfl rfl (aD.csize _) (aH _) dD (.pure (aD.pure _)) rfl (.pure rfl)
      ·refine bD ?_
       refine aE ?_
       refine dT 3 5 _ _ (by decide +kernel) rfl rfl ?_ ?_
       ·refine bD ?_
        refine aE ?_
        refine a5 5 _ (by decide +kernel) rfl ?_
        refine bD ?_
        refine aE ?_
        refine a5 6 _ (by decide +kernel) rfl ?_
        refine bD ?_
        refine aE ?_
        refine cX (by decide +kernel) ?_
        refine cU ?_
        exact c9 [] rfl rfl rfl (aD.csize _) (aH _) dD (.pure (aD.pure _)) rfl rfl (aD.csize _) (aH _) dD (.pure (aD.pure _)) rfl (.pure rfl)
       ·refine bD ?_
        refine aE ?_
        refine a5 3 _ (by decide +kernel) rfl ?_
        refine bD ?_
        refine aE ?_
        refine a5 6 _ (by decide +kernel) rfl ?_
        refine bD ?_
        refine aE ?_
        refine cX (by decide +kernel) ?_
        refine cU ?_
        exact c9 [] rfl rfl rfl (aD.csize _) (aH _) dD (.pure (aD.pure _)) rfl rfl (aD.csize _) (aH _) dD (.pure (aD.pure _)) rfl (.pure rfl)
     ·refine bD ?_
      refine aE ?_
      refine dT 1 4 _ _ (by decide +kernel) rfl rfl ?_ ?_
      ·refine bD ?_
       refine aE ?_
       refine a5 4 _ (by decide +kernel) rfl ?_
       refine bD ?_
       refine aE ?_
       refine a5 5 _ (by decide +kernel) rfl ?_
       refine bD ?_
       refine aE ?_
       refine a5 6 _ (by decide +kernel) rfl ?_
       refine bD ?_
       refine aE ?_
       refine cX (by decide +kernel) ?_
       refine cU ?_
       exact c9 [] rfl rfl rfl (aD.csize _) (aH _) dD (.pure (aD.pure _)) rfl rfl (aD.csize _) (aH _) dD (.pure (aD.pure _)) rfl (.pure rfl)
      ·refine bD ?_
       refine aE ?_
       refine a5 1 _ (by decide +kernel) rfl ?_
       refine bD ?_
       refine aE ?_
       refine a5 5 _ (by decide +kernel) rfl ?_
       refine bD ?_
       refine aE ?_
       refine a5 6 _ (by decide +kernel) rfl ?_
       refine bD ?_
       refine aE ?_
       refine cX (by decide +kernel) ?_
       refine cU ?_
       exact c9 [] rfl rfl rfl (aD.csize _) (aH _) dD (.pure (aD.pure _)) rfl rfl (aD.csize _) (aH _) dD (.pure (aD.pure _)) rfl (.pure rfl)
     ·refine bD ?_
      refine aE ?_
      refine dT 1 3 _ _ (by decide +kernel) rfl rfl ?_ ?_
      ·refine bD ?_
       refine aE ?_
       refine dT 3 5 _ _ (by decide +kernel) rfl rfl ?_ ?_
       ·refine bD ?_
        refine aE ?_
        refine a5 5 _ (by decide +kernel) rfl ?_
        refine bD ?_
        refine aE ?_
        refine a5 6 _ (by decide +kernel) rfl ?_
        refine bD ?_
        refine aE ?_
        refine cX (by decide +kernel) ?_
        refine cU ?_
        exact c9 [] rfl rfl rfl (aD.csize _) (aH _) dD (.pure (aD.pure _)) rfl rfl (aD.csize _) (aH _) dD (.pure (aD.pure _)) rfl (.pure rfl)
       ·refine bD ?_
        refine aE ?_
        refine a5 3 _ (by decide +kernel) rfl ?_
        refine bD ?_
        refine aE ?_
        refine a5 6 _ (by decide +kernel) rfl ?_
        refine bD ?_
        refine aE ?_
        refine cX (by decide +kernel) ?_
        refine cU ?_
        exact c9 [] rfl rfl rfl (aD.csize _) (aH _) dD (.pure (aD.pure _)) rfl rfl (aD.csize _) (aH _) dD (.pure (aD.pure _)) rfl (.pure rfl)
      ·refine bD ?_
       refine aE ?_
       refine a5 1 _ (by decide +kernel) rfl ?_
       refine bD ?_
       refine aE ?_
       refine a5 5 _ (by decide +kernel) rfl ?_
       refine bD ?_
       refine aE ?_
       refine a5 6 _ (by decide +kernel) rfl ?_
       refine bD ?_
       refine aE ?_
       refine cX (by decide +kernel) ?_
       refine cU ?_
       exact c9 [] rfl rfl rfl (aD.csize _) (aH _) dD (.pure (aD.pure _)) rfl rfl (aD.csize _) (aH _) dD (.pure (aD.pure _)) rfl (.pure rfl)
    ·refine bD ?_
     refine aE ?_
     refine dT 1 2 _ _ (by decide +kernel) rfl rfl ?_ ?_
     ·refine bD ?_
      refine aE ?_
      refine dT 2 5 _ _ (by decide +kernel) rfl rfl ?_ ?_
      ·refine bD ?_
       refine aE ?_
       refine dT 3 5 _ _ (by decide +kernel) rfl rfl ?_ ?_
       ·refine bD ?_
        refine aE ?_
        refine a5 5 _ (by decide +kernel) rfl ?_
        refine bD ?_
        refine aE ?_
        refine a5 6 _ (by decide +kernel) rfl ?_
        refine bD ?_
        refine aE ?_
        refine cX (by decide +kernel) ?_
        refine cU ?_
        exact c9 [] rfl rfl rfl (aD.csize _) (aH _) dD (.pure (aD.pure _)) rfl rfl (aD.csize _) (aH _) dD (.pure (aD.pure _)) rfl (.pure rfl)
       ·refine bD ?_
        refine aE ?_
        refine a5 3 _ (by decide +kernel) rfl ?_
        refine bD ?_
        refine aE ?_
        refine a5 6 _ (by decide +kernel) rfl ?_
        refine bD ?_
        refine aE ?_
        refine cX (by decide +kernel) ?_
        refine cU ?_
        exact c9 [] rfl rfl rfl (aD.csize _) (aH _) dD (.pure (aD.pure _)) rfl rfl (aD.csize _) (aH _) dD (.pure (aD.pure _)) rfl (.pure rfl)
      ·refine bD ?_
       refine aE ?_
       refine a5 2 _ (by decide +kernel) rfl ?_
       refine bD ?_
       refine aE ?_
       refine a5 3 _ (by decide +kernel) rfl ?_
       refine bD ?_
       refine aE ?_
       refine a5 6 _ (by decide +kernel) rfl ?_
       refine bD ?_
       refine aE ?_
       refine cX (by decide +kernel) ?_
       refine cU ?_
       exact c9 [] rfl rfl rfl (aD.csize _) (aH _) dD (.pure (aD.pure _)) rfl rfl (aD.csize _) (aH _) dD (.pure (aD.pure _)) rfl (.pure rfl)
     ·refine bD ?_
      refine aE ?_
      refine dT 1 3 _ _ (by decide +kernel) rfl rfl ?_ ?_
      ·refine bD ?_
       refine aE ?_
       refine dT 3 5 _ _ (by decide +kernel) rfl rfl ?_ ?_
       ·refine bD ?_
        refine aE ?_
        refine a5 5 _ (by decide +kernel) rfl ?_
        refine bD ?_
        refine aE ?_
        refine a5 6 _ (by decide +kernel) rfl ?_
        refine bD ?_
        refine aE ?_
        refine cX (by decide +kernel) ?_
        refine cU ?_
        exact c9 [] rfl rfl rfl (aD.csize _) (aH _) dD (.pure (aD.pure _)) rfl rfl (aD.csize _) (aH _) dD (.pure (aD.pure _)) rfl (.pure rfl)
       ·refine bD ?_
        refine aE ?_
        refine a5 3 _ (by decide +kernel) rfl ?_
        refine bD ?_
        refine aE ?_
        refine a5 6 _ (by decide +kernel) rfl ?_
        refine bD ?_
        refine aE ?_
        refine cX (by decide +kernel) ?_
        refine cU ?_
        exact c9 [] rfl rfl rfl (aD.csize _) (aH _) dD (.pure (aD.pure _)) rfl rfl (aD.csize _) (aH _) dD (.pure (aD.pure _)) rfl (.pure rfl)
      ·refine bD ?_
       refine aE ?_
       refine a5 1 _ (by decide +kernel) rfl ?_
       refine bD ?_
       refine aE ?_
       refine a5 5 _ (by decide +kernel) rfl ?_
       refine bD ?_
       refine aE ?_
       refine a5 6 _ (by decide +kernel) rfl ?_
       refine bD ?_
       refine aE ?_
       refine cX (by decide +kernel) ?_
       refine cU ?_
       exact c9 [] rfl rfl rfl (aD.csize _) (aH _) dD (.pure (aD.pure _)) rfl rfl (aD.csize _) (aH _) dD (.pure (aD.pure _)) rfl (.pure rfl)
   ·refine bD ?_
    refine aE ?_
    refine dT 0 2 _ _ (by decide +kernel) rfl rfl ?_ ?_
    ·refine bD ?_
     refine aE ?_
     refine dT 2 4 _ _ (by decide +kernel) rfl rfl ?_ ?_
     ·refine bD ?_
      refine aE ?_
      refine dT 3 4 _ _ (by decide +kernel) rfl rfl ?_ ?_
      ·refine bD ?_
       refine aE ?_
       refine a5 4 _ (by decide +kernel) rfl ?_
       refine bD ?_
       refine aE ?_
       refine a5 5 _ (by decide +kernel) rfl ?_
       refine bD ?_
       refine aE ?_
       refine a5 6 _ (by decide +kernel) rfl ?_
       refine bD ?_
       refine aE ?_
       refine cX (by decide +kernel) ?_
       refine cU ?_
       exact c9 [] rfl rfl rfl (aD.csize _) (aH _) dD (.pure (aD.pure _)) rfl rfl (aD.csize _) (aH _) dD (.pure (aD.pure _)) rfl (.pure rfl)
      ·refine bD ?_
       refine aE ?_
       refine dT 3 5 _ _ (by decide +kernel) rfl rfl ?_ ?_
       ·refine bD ?_
        refine aE ?_
        refine a5 5 _ (by decide +kernel) rfl ?_
        refine bD ?_
        refine aE ?_
        refine a5 6 _ (by decide +kernel) rfl ?_
        refine bD ?_
        refine aE ?_
        refine cX (by decide +kernel) ?_
        refine cU ?_
        exact c9 [] rfl rfl rfl (aD.csize _) (aH _) dD (.pure (aD.pure _)) rfl rfl (aD.csize _) (aH _) dD (.pure (aD.pure _)) rfl (.pure rfl)
       ·refine bD ?_
        refine aE ?_
        refine a5 3 _ (by decide +kernel) rfl ?_
        refine bD ?_
        refine aE ?_
        refine a5 6 _ (by decide +kernel) rfl ?_
        refine bD ?_
        refine aE ?_
        refine cX (by decide +kernel) ?_
        refine cU ?_
        exact c9 [] rfl rfl rfl (aD.csize _) (aH _) dD (.pure (aD.pure _)) rfl rfl (aD.csize _) (aH _) dD (.pure (aD.pure _)) rfl (.pure rfl)
     ·refine bD ?_
      refine aE ?_
      refine dT 2 5 _ _ (by decide +kernel) rfl rfl ?_ ?_
      ·refine bD ?_
       refine aE ?_
       refine dT 3 5 _ _ (by decide +kernel) rfl rfl ?_ ?_
       ·refine bD ?_
        refine aE ?_
        refine a5 5 _ (by decide +kernel) rfl ?_
        refine bD ?_
        refine aE ?_
        refine a5 6 _ (by decide +kernel) rfl ?_
        refine bD ?_
        refine aE ?_
        refine cX (by decide +kernel) ?_
        refine cU ?_
        exact c9 [] rfl rfl rfl (aD.csize _) (aH _) dD (.pure (aD.pure _)) rfl rfl (aD.csize _) (aH _) dD (.pure (aD.pure _)) rfl (.pure rfl)
       ·refine bD ?_
        refine aE ?_
        refine a5 3 _ (by decide +kernel) rfl ?_
        refine bD ?_
        refine aE ?_
        refine a5 6 _ (by decide +kernel) rfl ?_
        refine bD ?_
        refine aE ?_
        refine cX (by decide +kernel) ?_
        refine cU ?_
        exact c9 [] rfl rfl rfl (aD.csize _) (aH _) dD (.pure (aD.pure _)) rfl rfl (aD.csize _) (aH _) dD (.pure (aD.pure _)) rfl (.pure rfl)
      ·refine bD ?_
       refine aE ?_
       refine a5 2 _ (by decide +kernel) rfl ?_
       refine bD ?_
       refine aE ?_
       refine a5 3 _ (by decide +kernel) rfl ?_
       refine bD ?_
       refine aE ?_
       refine a5 6 _ (by decide +kernel) rfl ?_
       refine bD ?_
       refine aE ?_
       refine cX (by decide +kernel) ?_
       refine cU ?_
       exact c9 [] rfl rfl rfl (aD.csize _) (aH _) dD (.pure (aD.pure _)) rfl rfl (aD.csize _) (aH _) dD (.pure (aD.pure _)) rfl (.pure rfl)
    ·refine bD ?_
     refine aE ?_
     refine dT 0 3 _ _ (by decide +kernel) rfl rfl ?_ ?_
     ·refine bD ?_
      refine aE ?_
      refine dT 3 4 _ _ (by decide +kernel) rfl rfl ?_ ?_
      ·refine bD ?_
       refine aE ?_
       refine a5 4 _ (by decide +kernel) rfl ?_
       refine bD ?_
       refine aE ?_
       refine a5 5 _ (by decide +kernel) rfl ?_
       refine bD ?_
       refine aE ?_
       refine a5 6 _ (by decide +kernel) rfl ?_
       refine bD ?_
       refine aE ?_
       refine cX (by decide +kernel) ?_
       refine cU ?_
       exact c9 [] rfl rfl rfl (aD.csize _) (aH _) dD (.pure (aD.pure _)) rfl rfl (aD.csize _) (aH _) dD (.pure (aD.pure _)) rfl (.pure rfl)
      ·refine bD ?_
       refine aE ?_
       refine dT 3 5 _ _ (by decide +kernel) rfl rfl ?_ ?_
       ·refine bD ?_
        refine aE ?_
        refine a5 5 _ (by decide +kernel) rfl ?_
        refine bD ?_
        refine aE ?_
        refine a5 6 _ (by decide +kernel) rfl ?_
        refine bD ?_
        refine aE ?_
        refine cX (by decide +kernel) ?_
        refine cU ?_
        exact c9 [] rfl rfl rfl (aD.csize _) (aH _) dD (.pure (aD.pure _)) rfl rfl (aD.csize _) (aH _) dD (.pure (aD.pure _)) rfl (.pure rfl)
       ·refine bD ?_
        refine aE ?_
        refine a5 3 _ (by decide +kernel) rfl ?_
        refine bD ?_
        refine aE ?_
        refine a5 6 _ (by decide +kernel) rfl ?_
        refine bD ?_
        refine aE ?_
        refine cX (by decide +kernel) ?_
        refine cU ?_
        exact c9 [] rfl rfl rfl (aD.csize _) (aH _) dD (.pure (aD.pure _)) rfl rfl (aD.csize _) (aH _) dD (.pure (aD.pure _)) rfl (.pure rfl)
     ·refine bD ?_
      refine aE ?_
      refine a5 0 _ (by decide +kernel) rfl ?_
      refine bD ?_
      refine aE ?_
      refine a5 4 _ (by decide +kernel) rfl ?_
      refine bD ?_
      refine aE ?_
      refine a5 5 _ (by decide +kernel) rfl ?_
      refine bD ?_
      refine aE ?_
      refine a5 6 _ (by decide +kernel) rfl ?_
      refine bD ?_
      refine aE ?_
      refine cX (by decide +kernel) ?_
      refine cU ?_
      exact c9 [] rfl rfl rfl (aD.csize _) (aH _) dD (.pure (aD.pure _)) rfl rfl (aD.csize _) (aH _) dD (.pure (aD.pure _)) rfl (.pure rfl)
   ·refine bD ?_
    refine aE ?_
    refine wS 0 1 3 _ _ _ (by decide +kernel) rfl rfl rfl ?_ ?_ ?_
    ·refine bD ?_
     refine aE ?_
     refine wS 1 3 4 _ _ _ (by decide +kernel) rfl rfl rfl ?_ ?_ ?_
     ·refine bD ?_
      refine aE ?_
      refine dT 3 4 _ _ (by decide +kernel) rfl rfl ?_ ?_
      ·refine bD ?_
       refine aE ?_
       refine a5 4 _ (by decide +kernel) rfl ?_
       refine bD ?_
       refine aE ?_
       refine a5 5 _ (by decide +kernel) rfl ?_
       refine bD ?_
       refine aE ?_
       refine a5 6 _ (by decide +kernel) rfl ?_
       refine bD ?_
       refine aE ?_
       refine cX (by decide +kernel) ?_
       refine cU ?_
       exact c9 [] rfl rfl rfl (aD.csize _) (aH _) dD (.pure (aD.pure _)) rfl rfl (aD.csize _) (aH _) dD (.pure (aD.pure _)) rfl (.pure rfl)
      ·refine bD ?_
       refine aE ?_
       refine dT 3 5 _ _ (by decide +kernel) rfl rfl ?_ ?_
       ·refine bD ?_
        refine aE ?_
        refine a5 5 _ (by decide +kernel) rfl ?_
        refine bD ?_
        refine aE ?_
        refine a5 6 _ (by decide +kernel) rfl ?_
        refine bD ?_
        refine aE ?_
        refine cX (by decide +kernel) ?_
        refine cU ?_
        exact c9 [] rfl rfl rfl (aD.csize _) (aH _) dD (.pure (aD.pure _)) rfl rfl (aD.csize _) (aH _) dD (.pure (aD.pure _)) rfl (.pure rfl)
       ·refine bD ?_
        refine aE ?_
        refine a5 3 _ (by decide +kernel) rfl ?_
        refine bD ?_
        refine aE ?_
        refine a5 6 _ (by decide +kernel) rfl ?_
        refine bD ?_
        refine aE ?_
        refine cX (by decide +kernel) ?_
        refine cU ?_
        exact c9 [] rfl rfl rfl (aD.csize _) (aH _) dD (.pure (aD.pure _)) rfl rfl (aD.csize _) (aH _) dD (.pure (aD.pure _)) rfl (.pure rfl)
     ·refine bD ?_
      refine aE ?_
      refine dT 1 4 _ _ (by decide +kernel) rfl rfl ?_ ?_
      ·refine bD ?_
       refine aE ?_
       refine a5 4 _ (by decide +kernel) rfl ?_
       refine bD ?_
       refine aE ?_
       refine a5 5 _ (by decide +kernel) rfl ?_
       refine bD ?_
       refine aE ?_
       refine a5 6 _ (by decide +kernel) rfl ?_
       refine bD ?_
       refine aE ?_
       refine cX (by decide +kernel) ?_
       refine cU ?_
       exact c9 [] rfl rfl rfl (aD.csize _) (aH _) dD (.pure (aD.pure _)) rfl rfl (aD.csize _) (aH _) dD (.pure (aD.pure _)) rfl (.pure rfl)
      ·refine bD ?_
       refine aE ?_
       refine a5 1 _ (by decide +kernel) rfl ?_
       refine bD ?_
       refine aE ?_
       refine a5 5 _ (by decide +kernel) rfl ?_
       refine bD ?_
       refine aE ?_
       refine a5 6 _ (by decide +kernel) rfl ?_
       refine bD ?_
       refine aE ?_
       refine cX (by decide +kernel) ?_
       refine cU ?_
       exact c9 [] rfl rfl rfl (aD.csize _) (aH _) dD (.pure (aD.pure _)) rfl rfl (aD.csize _) (aH _) dD (.pure (aD.pure _)) rfl (.pure rfl)
     ·refine bD ?_
      refine aE ?_
      refine dT 1 3 _ _ (by decide +kernel) rfl rfl ?_ ?_
      ·refine bD ?_
       refine aE ?_
       refine dT 3 5 _ _ (by decide +kernel) rfl rfl ?_ ?_
       ·refine bD ?_
        refine aE ?_
        refine a5 5 _ (by decide +kernel) rfl ?_
        refine bD ?_
        refine aE ?_
        refine a5 6 _ (by decide +kernel) rfl ?_
        refine bD ?_
        refine aE ?_
        refine cX (by decide +kernel) ?_
        refine cU ?_
        exact c9 [] rfl rfl rfl (aD.csize _) (aH _) dD (.pure (aD.pure _)) rfl rfl (aD.csize _) (aH _) dD (.pure (aD.pure _)) rfl (.pure rfl)
       ·refine bD ?_
        refine aE ?_
        refine a5 3 _ (by decide +kernel) rfl ?_
        refine bD ?_
        refine aE ?_
        refine a5 6 _ (by decide +kernel) rfl ?_
        refine bD ?_
        refine aE ?_
        refine cX (by decide +kernel) ?_
        refine cU ?_
        exact c9 [] rfl rfl rfl (aD.csize _) (aH _) dD (.pure (aD.pure _)) rfl rfl (aD.csize _) (aH _) dD (.pure (aD.pure _)) rfl (.pure rfl)
      ·refine bD ?_
       refine aE ?_
       refine a5 1 _ (by decide +kernel) rfl ?_
       refine bD ?_
       refine aE ?_
       refine a5 5 _ (by decide +kernel) rfl ?_
       refine bD ?_
       refine aE ?_
       refine a5 6 _ (by decide +kernel) rfl ?_
       refine bD ?_
       refine aE ?_
       refine cX (by decide +kernel) ?_
       refine cU ?_
       exact c9 [] rfl rfl rfl (aD.csize _) (aH _) dD (.pure (aD.pure _)) rfl rfl (aD.csize _) (aH _) dD (.pure (aD.pure _)) rfl (.pure rfl)
    ·refine bD ?_
     refine aE ?_
     refine dT 0 3 _ _ (by decide +kernel) rfl rfl ?_ ?_
     ·refine bD ?_
      refine aE ?_
      refine dT 3 4 _ _ (by decide +kernel) rfl rfl ?_ ?_
      ·refine bD ?_
       refine aE ?_
       refine a5 4 _ (by decide +kernel) rfl ?_
       refine bD ?_
       refine aE ?_
       refine a5 5 _ (by decide +kernel) rfl ?_
       refine bD ?_
       refine aE ?_
       refine a5 6 _ (by decide +kernel) rfl ?_
       refine bD ?_
       refine aE ?_
       refine cX (by decide +kernel) ?_
       refine cU ?_
       exact c9 [] rfl rfl rfl (aD.csize _) (aH _) dD (.pure (aD.pure _)) rfl rfl (aD.csize _) (aH _) dD (.pure (aD.pure _)) rfl (.pure rfl)
      ·refine bD ?_
       refine aE ?_
       refine dT 3 5 _ _ (by decide +kernel) rfl rfl ?_ ?_
       ·refine bD ?_
        refine aE ?_
        refine a5 5 _ (by decide +kernel) rfl ?_
        refine bD ?_
        refine aE ?_
        refine a5 6 _ (by decide +kernel) rfl ?_
        refine bD ?_
        refine aE ?_
        refine cX (by decide +kernel) ?_
        refine cU ?_
        exact c9 [] rfl rfl rfl (aD.csize _) (aH _) dD (.pure (aD.pure _)) rfl rfl (aD.csize _) (aH _) dD (.pure (aD.pure _)) rfl (.pure rfl)
       ·refine bD ?_
        refine aE ?_
        refine a5 3 _ (by decide +kernel) rfl ?_
        refine bD ?_
        refine aE ?_
        refine a5 6 _ (by decide +kernel) rfl ?_
        refine bD ?_
        refine aE ?_
        refine cX (by decide +kernel) ?_
        refine cU ?_
        exact c9 [] rfl rfl rfl (aD.csize _) (aH _) dD (.pure (aD.pure _)) rfl rfl (aD.csize _) (aH _) dD (.pure (aD.pure _)) rfl (.pure rfl)
     ·refine bD ?_
      refine aE ?_
      refine a5 0 _ (by decide +kernel) rfl ?_
      refine bD ?_
      refine aE ?_
      refine a5 4 _ (by decide +kernel) rfl ?_
      refine bD ?_
      refine aE ?_
      refine a5 5 _ (by decide +kernel) rfl ?_
      refine bD ?_
      refine aE ?_
      refine a5 6 _ (by decide +kernel) rfl ?_
      refine bD ?_
      refine aE ?_
      refine cX (by decide +kernel) ?_
      refine cU ?_
      exact c9 [] rfl rfl rfl (aD.csize _) (aH _) dD (.pure (aD.pure _)) rfl rfl (aD.csize _) (aH _) dD (.pure (aD.pure _)) rfl (.pure rfl)
    ·refine bD ?_
     refine aE ?_
     refine dT 0 1 _ _ (by decide +kernel) rfl rfl ?_ ?_
     ·refine bD ?_
      refine aE ?_
      refine dT 1 4 _ _ (by decide +kernel) rfl rfl ?_ ?_
      ·refine bD ?_
       refine aE ?_
       refine a5 4 _ (by decide +kernel) rfl ?_
       refine bD ?_
       refine aE ?_
       refine a5 5 _ (by decide +kernel) rfl ?_
       refine bD ?_
       refine aE ?_
       refine a5 6 _ (by decide +kernel) rfl ?_
       refine bD ?_
       refine aE ?_
       refine cX (by decide +kernel) ?_
       refine cU ?_
       exact c9 [] rfl rfl rfl (aD.csize _) (aH _) dD (.pure (aD.pure _)) rfl rfl (aD.csize _) (aH _) dD (.pure (aD.pure _)) rfl (.pure rfl)
      ·refine bD ?_
       refine aE ?_
       refine a5 1 _ (by decide +kernel) rfl ?_
       refine bD ?_
       refine aE ?_
       refine a5 5 _ (by decide +kernel) rfl ?_
       refine bD ?_
       refine aE ?_
       refine a5 6 _ (by decide +kernel) rfl ?_
       refine bD ?_
       refine aE ?_
       refine cX (by decide +kernel) ?_
       refine cU ?_
       exact c9 [] rfl rfl rfl (aD.csize _) (aH _) dD (.pure (aD.pure _)) rfl rfl (aD.csize _) (aH _) dD (.pure (aD.pure _)) rfl (.pure rfl)
     ·refine bD ?_
      refine aE ?_
      refine a5 0 _ (by decide +kernel) rfl ?_
      refine bD ?_
      refine aE ?_
      refine a5 4 _ (by decide +kernel) rfl ?_
      refine bD ?_
      refine aE ?_
      refine a5 5 _ (by decide +kernel) rfl ?_
      refine bD ?_
      refine aE ?_
      refine a5 6 _ (by decide +kernel) rfl ?_
      refine bD ?_
      refine aE ?_
      refine cX (by decide +kernel) ?_
      refine cU ?_
      exact c9 [] rfl rfl rfl (aD.csize _) (aH _) dD (.pure (aD.pure _)) rfl rfl (aD.csize _) (aH _) dD (.pure (aD.pure _)) rfl (.pure rfl)
namespace Zq30
theorem cK {p q:Prop} (k:q) (e:p=q:=by simp only [e1,e2,e3,e4,p1,p2,p3,q1,q2,q3,l1,t0,t1,r1,r2,r3,r4,Nat.zero_add,Nat.reduceMul,Nat.reduceAdd,b1,b2,b3,b4,b5,b6,i1,i2,i3,i4,i5,i6,Nat.reduceBEq,List.getD_cons_zero,List.set_cons_zero,List.set_cons_succ,Nat.reduceEqDiff,reduceIte,if_true,if_false,a8,a9,aC cW,aC dR,aC aD,aT,a6,LV.kill,bH];exact rfl):p:=e.mpr k
end Zq30
open Zq30 in
theorem aCC (n0 n1 n2 w:Rat) (R:Nat) (hR:R≤1000000000) (h0:rl n0≤R) (h1:rl n1≤R) (h2:rl n2≤R) (hw:rl w≤R) (hpos:0<w):aN Tryz.prog 96 [.agg [ratL n0,ratL n1,ratL n2,ratL w]] (eB ⟨⟨n0/w,n1/w,n2/w⟩,w⟩):=by
 have hA:=eF w 0 (by have:rl 0=1:=rfl;omega)
 rw [Rat.add_zero] at hA
 have hne:w≠0:=by grind
 have hQ0:aN Tryz.prog 169 [ratL n0,ratL w] (.tup [ratL (n0/w),iL 0]):=by
  have:=mD n0 w (by omega)
  rwa [if_neg hne] at this
 have hQ1:aN Tryz.prog 169 [ratL n1,ratL w] (.tup [ratL (n1/w),iL 0]):=by
  have:=mD n1 w (by omega)
  rwa [if_neg hne] at this
 have hQ2:aN Tryz.prog 169 [ratL n2,ratL w] (.tup [ratL (n2/w),iL 0]):=by
  have:=mD n2 w (by omega)
  rwa [if_neg hne] at this
 refine dJ Tryz.func96 (ht:=(fun g=>LV.ren_pure g _ (dR.pure _))) ?_
 refine eI ?_
 try simp only [List.getD_cons_zero]
 refine cU ?_
 refine aB rfl (.build0 sP i9) ?_
 refine cp bI (hA) ?_
 refine w8 (bdW rfl) ?_
 refine cQ ?_
 refine aK ?_
 refine bY ?_
 refine aY (b:=_) rfl (by decide) ?_
 refine cG ?_
 refine dH 12 [9] (by decide +kernel) ?_
 refine bY ?_
 refine cp bI (hQ0) ?_
 refine eX ?_
 refine aK ?_
 refine bY ?_
 refine aY (b:=_) rfl (by decide) ?_
 refine cG ?_
 refine dH 12 [9] (by decide +kernel) ?_
 refine bY ?_
 refine cp bI (hQ1) ?_
 refine eX ?_
 refine aK ?_
 refine bY ?_
 refine aY (b:=_) rfl (by decide) ?_
 refine cG ?_
 refine dH 12 [9] (by decide +kernel) ?_
 refine bY ?_
 refine cp bI (hQ2) ?_
 refine eX ?_
 refine aK ?_
 refine bY ?_
 refine bO (b:=_) rfl (by decide) ?_
 refine cH ?_
 exact dE [] rfl rfl rfl cs (b7 cs rfl) tP (.pure pu)
namespace Zq12
theorem cK {p q:Prop} (k:q) (e:p=q:=by simp only [e1,e2,e3,e4,p1,p2,p3,q1,q2,q3,l1,t0,t1,r1,r2,r3,r4,Nat.zero_add,Nat.reduceMul,Nat.reduceAdd,b1,b2,b3,b4,b5,b6,i1,i2,i3,i4,i5,i6,Nat.reduceBEq,List.take_zero,etk,ersA,ersB,ers,jU,hn0,hn1,hn2,hn3,List.length_map,cJ,eA,dC,List.length_cons,List.length_nil,List.nil_append,List.map_nil,List.take_nil,List.append_nil,List.set_cons_zero,List.set_cons_succ,Nat.reduceEqDiff,reduceIte,if_true,if_false,a8,a9,aC cW,aC dR,aC aD,aT,a6,LV.kill,bH];exact rfl):p:=e.mpr k
end Zq12
open Zq12 in
theorem aKp (d:Nat) (a b:Rat) (po:List PoR) (ha:rl a≤100) (hb:rl b≤100) (hab:a<b) (h9:d≤6) (lo hi x y:Rat) (hlo0:rl lo≤100) (hhi0:rl hi≤100) (k1:a≤lo) (k2:lo<hi) (k3:hi≤b) (hx:(lo-a)/(b-a)=x) (hy:(hi-a)/(b-a)=y) (hx1:x<1) (hxr:rl (1-x)+rl x+1≤20) (hyr:rl (1-y)+rl y+1≤20) (R:Nat) (hR:R≤1000000) (h:cvR po d R) (hN:∀ k,∀ z∈f8 po k,rl z≤100000) (hW:∀ z∈fG po,rl z≤100000) (hx0:0≤x) (hy0:0≤y) (hy1:y≤1):aN Tryz.prog 43 [.agg [aG d,.list 3 ((cN d a b).map ratL),.list 12 (po.map eB)],ratL lo,ratL hi] (.tup [.agg [aG d,.list 3 ((cN d lo hi).map ratL),.list 12 ((qK po x y).map eB)],iL 0]):=by
 have hl:=h.hl
 have hd:=h.hd
 have h6:=h.h6
 have hcp:LV.pure (.agg [aG d,.list 3 ((cN d a b).map ratL),.list 12 (po.map eB)])=true:=by simp [LV.pure,aV,aF aD,aF dR]
 have hOx:=aB3 d a b po ha hb hab h9 lo x hlo0 k1 (by grind) hx (by omega)
 have hOy:=aB3 d a b po ha hb hab h9 hi y hhi0 (by grind) k3 hy (by omega)
 have hcm:¬0≤g6 lo hi:=fun e=>by have:=l9.1 e;grind
 have hrx:rl x≤20:=by omega
 have hry:rl y≤20:=by omega
 have hr0:rl 0=1:=rfl
 have hAl:=eF lo 0 (by omega)
 have hAh:=eF hi 0 (by omega)
 rw [Rat.add_zero] at hAl hAh
 have hkl:=eT d lo hi
 have hw3:=aIX h
 have hq0:=aCJ h 0
 have hq1:=aCJ h 1
 have hq2:=aCJ h 2
 have hn0:(dZ (f8 po 0) x y).length=d+1:=by rw [oW];omega
 have hn1:(dZ (f8 po 1) x y).length=d+1:=by rw [oW];omega
 have hn2:(dZ (f8 po 2) x y).length=d+1:=by rw [oW];omega
 have hn3:(dZ (fG po) x y).length=d+1:=by rw [oW];omega
 have hsy:=d9 y x
 have hpu:∀ l:List Rat,aV (l.map ratL)=true:=fun l=>aF aD l
 have hcp4:∀ q0 q1' q2' q3':Rat,LV.pure (.agg [ratL q0,ratL q1',ratL q2',ratL q3'])=true:=fun _ _ _ _=>by simp [LV.pure,aV,aD.pure]
 have hsx:=d9 1 x
 have hdv:=iZ (y-x) (1-x)
 have hne:1-x≠0:=by grind
 have hP:∀ p:List Rat,p.length=d+1→(∀ z∈p,rl z≤100000)→aN Tryz.prog 94 [.list 3 (p.map ratL),ratL x,ratL y] (.list 3 ((dZ p x y).map ratL)):=fun p hp hz=>by
  have:=aKk p x y (by omega) (by omega) (fun z hh=>Nat.le_trans (hz z hh) (by decide)) (by omega) (fun _=>⟨aGs (by omega) (fun z hh=>Nat.le_trans (hz z hh) (by decide)) (by omega),aGs (by rw [k6];omega) (fun z hh=>Nat.le_trans (aLk (by omega) hz (by decide) hxr z hh) (by decide)) (by omega)⟩) (fun e=>absurd e hne)
  rwa [aC9] at this
 have hP0:=hP (f8 po 0) (by omega) (hN 0)
 have hP1:=hP (f8 po 1) (by omega) (hN 1)
 have hP2:=hP (f8 po 2) (by omega) (hN 2)
 have hP3:=hP (fG po) (by omega) hW
 refine dJ Tryz.func43 (ht:=(gU (by simp [LV.pure,aV,aF aD,aF dR]) rfl)) ?_
 have etk:True:=trivial
 have ersA:True:=trivial
 have ersB:True:=trivial
 have ers:True:=trivial
 refine fI ?_
 refine cp bI (hOx) ?_
 refine iR ?_
 refine cp bI (hOy) ?_
 refine jT ?_
 refine aB (aO (v:=false) rfl rfl ((rfl)) rfl) (.move _) ?_
 refine aB (aO (v:=false) rfl rfl ((rfl)) rfl) (.not rfl) ?_
 refine aB rfl (.pickF rfl ((rfl))) ?_
 refine bD ?_
 refine aB (aO (v:=false) rfl rfl ((rfl)) rfl) rX ?_
 refine aB (aO (v:=false) rfl rfl ((rfl)) rfl) rX ?_
 refine cY (aO (v:=false) rfl rfl ((rfl)) rfl) (.cons nJ (.cons nJ .nil)) (iN lo hi (by omega)) ?_
 refine aB (aO (v:=false) rfl rfl ((rfl)) rfl) (.bin rfl rfl rfl) ?_
 refine aB rfl (.pickF rfl ((rfl))) ?_
 refine cU ?_
 refine aQ rfl (fun h46r h46=>?_) (fun h46r h46=>?_)
 ·first | exact hcm h46 | omega
 ·refine cQ ?_
  refine cp cS (uB d (cN d a b) po R hR h) ?_
  refine cB ?_
  refine aK ?_
  refine bY ?_
  refine aY (b:=_) rfl (by decide) ?_
  refine jT ?_
  refine cp nK (hP0) ?_
  refine cG ?_
  refine aK ?_
  refine bY ?_
  refine aY (b:=_) rfl (by decide) ?_
  refine jT ?_
  refine cp nK (hP1) ?_
  refine cG ?_
  refine aK ?_
  refine bY ?_
  refine aY (b:=_) rfl (by decide) ?_
  refine jT ?_
  refine cp nK (hP2) ?_
  refine cG ?_
  refine aK ?_
  refine bY ?_
  refine aY (b:=_) rfl (by decide) ?_
  refine jT ?_
  refine cp nK (hP3) ?_
  refine cG ?_
  refine aK ?_
  refine bY ?_
  refine bO (b:=_) rfl (by decide) ?_
  refine qG ?_
  refine aB rfl (.bin rfl rfl (dA (by omega))) ?_
  refine aB rfl (.bin rfl rfl (aK9 (by omega))) ?_
  refine cB ?_
  refine fV ((a7.cell 17 rfl (fun Z μ w cs h=>aAs 83 3 _ _ Z μ w cs h)).trans (a7.newB _ 83 3 rfl)) ?_
  refine lO (fun(m:Nat) L=>(((((((((St.mk L.slot (hp [(3,⟨3,[.agg [aG d,.list 3 ((cN d a b).map ratL),.list 12 (po.map eB)]],true⟩),(4,⟨3,[ratL lo],true⟩),(5,⟨3,[ratL hi],true⟩),(6,⟨3,[.agg [.v (.int .i64 0),.v (.slice none 0 0),.v (.slice none 0 0)]],true⟩),(8,⟨3,[ratL x],true⟩),(9,⟨3,[ratL (b-a)],true⟩),(11,⟨3,[ratL y],true⟩),(12,⟨3,[ratL (b-a)],true⟩),(14,⟨4,[.agg [.list 3 ((dZ (f8 po 0) x y).map ratL),.list 3 ((dZ (f8 po 1) x y).map ratL),.list 3 ((dZ (f8 po 2) x y).map ratL),.list 3 ((dZ (fG po) x y).map ratL)]],true⟩),(17,⟨3,[.agg [aG d,.ref 83 3 0 m,.v (.slice none 0 0)]],true⟩),(83,⟨3,((cN d lo hi).take m).map ratL,true⟩)])).put (some 3) (.eptr 3 3 0 0)).put (some 4) (.eptr 4 3 0 0)).put (some 5) (.eptr 5 3 0 0)).put (some 6) (.eptr 6 3 0 0)).put (some 14) (.eptr 14 4 0 0)).put (some 17) (.eptr 17 3 0 0)).put (some 67) (aG (2*(d+1)))).put (some 68) (aG m))) (fun m=>m≤2*(d+1)) (fun m=>2*(d+1)-m) 0 (Nat.zero_le _) ?_
  rintro m L2 hm
  refine bY ?_
  refine aQ rfl (fun h69r h69=>?_) (fun h69r h69=>?_)
  ·have hm2:m<2*(d+1):=by omega
   have hdt:((cN d lo hi).take m).length=m:=by rw [List.length_take];omega
   have etk:(((cN d lo hi).take m).map ratL).take m=((cN d lo hi).take m).map ratL:=List.take_of_length_le (by rw [List.length_map];omega)
   refine aOu ?_
   refine aQ rfl (fun h75r h75=>?_) (fun h75r h75=>?_)
   ·have hmd:¬m≤d:=by omega
    have ersB:=aIC (a:=lo) (b:=hi) hm2 hmd
    refine dX ?_
    refine aP 6 (by decide +kernel) ?_
    refine cB ?_
    first | refine cp bI hAl ?_ | refine cp bI hAh ?_
    refine bD ?_
    first | refine bC rfl (.app (news:=[ratL lo]) rfl rfl rfl rfl rfl (by rw [List.length_map];omega) (.inl rfl) (by decide) Tryz.underlying25 Tryz.underlying25 i9 dD rfl B31 (.inl ⟨82,0,_,rfl,by decide,rfl,rfl,by simp,rfl,by simp [aV,aD.pure]⟩) (by simp;omega) (by simp;omega) (by decide)) ?_ | refine bC rfl (.app (news:=[ratL hi]) rfl rfl rfl rfl rfl (by rw [List.length_map];omega) (.inl rfl) (by decide) Tryz.underlying25 Tryz.underlying25 i9 dD rfl B31 (.inl ⟨82,0,_,rfl,by decide,rfl,rfl,by simp,rfl,by simp [aV,aD.pure]⟩) (by simp;omega) (by simp;omega) (by decide)) ?_
    refine dX ?_
    refine bG ((a7.kill _ 19).trans (a7.kill _ 82)) ?_
    refine aB rfl (.bin rfl rfl (dA (by omega))) ?_
    refine dI ?_
    exact kE (m+1) (by omega)
   ·have hmd:m≤d:=by omega
    have ersA:=aIO (a:=lo) (b:=hi) hm2 hmd
    refine cU ?_
    refine aP 6 (by decide +kernel) ?_
    refine cB ?_
    first | refine cp bI hAl ?_ | refine cp bI hAh ?_
    refine bD ?_
    first | refine bC rfl (.app (news:=[ratL lo]) rfl rfl rfl rfl rfl (by rw [List.length_map];omega) (.inl rfl) (by decide) Tryz.underlying25 Tryz.underlying25 i9 dD rfl B31 (.inl ⟨82,0,_,rfl,by decide,rfl,rfl,by simp,rfl,by simp [aV,aD.pure]⟩) (by simp;omega) (by simp;omega) (by decide)) ?_ | refine bC rfl (.app (news:=[ratL hi]) rfl rfl rfl rfl rfl (by rw [List.length_map];omega) (.inl rfl) (by decide) Tryz.underlying25 Tryz.underlying25 i9 dD rfl B31 (.inl ⟨82,0,_,rfl,by decide,rfl,rfl,by simp,rfl,by simp [aV,aD.pure]⟩) (by simp;omega) (by simp;omega) (by decide)) ?_
    refine dX ?_
    refine bG ((a7.kill _ 19).trans (a7.kill _ 82)) ?_
    refine aB rfl (.bin rfl rfl (dA (by omega))) ?_
    refine dI ?_
    exact kE (m+1) (by omega)
  ·obtain rfl:m=2*(d+1):=by omega
   have hEk:(cN d lo hi).take (2*(d+1))=(cN d lo hi):=List.take_of_length_le (by omega)
   simp only [hEk]
   refine iR ?_
   refine fV ((a7.cell 17 rfl (fun Z μ w cs h=>uD 117 12 _ _ Z μ w cs h)).trans (a7.newB _ 117 12 rfl)) ?_
   refine lO (fun(j:Nat) L=>(((((((((St.mk L.slot (hp [(3,⟨3,[.agg [aG d,.list 3 ((cN d a b).map ratL),.list 12 (po.map eB)]],true⟩),(4,⟨3,[ratL lo],true⟩),(5,⟨3,[ratL hi],true⟩),(6,⟨3,[.agg [.v (.int .i64 0),.v (.slice none 0 0),.v (.slice none 0 0)]],true⟩),(8,⟨3,[ratL x],true⟩),(9,⟨3,[ratL (b-a)],true⟩),(11,⟨3,[ratL y],true⟩),(12,⟨3,[ratL (b-a)],true⟩),(14,⟨4,[.agg [.list 3 ((dZ (f8 po 0) x y).map ratL),.list 3 ((dZ (f8 po 1) x y).map ratL),.list 3 ((dZ (f8 po 2) x y).map ratL),.list 3 ((dZ (fG po) x y).map ratL)]],true⟩),(17,⟨3,[.agg [aG d,.ref 83 3 0 (2*(d+1)),.ref 117 12 0 j]],true⟩),(83,⟨3,(cN d lo hi).map ratL,true⟩),(117,⟨12,((qK po x y).take j).map eB,true⟩)])).put (some 3) (.eptr 3 3 0 0)).put (some 4) (.eptr 4 3 0 0)).put (some 5) (.eptr 5 3 0 0)).put (some 6) (.eptr 6 3 0 0)).put (some 14) (.eptr 14 4 0 0)).put (some 17) (.eptr 17 3 0 0)).put (some 88) (aG (d+1))).put (some 89) (aG j))) (fun j=>j≤d+1) (fun j=>d+1-j) 0 (Nat.zero_le _) ?_
   rintro j L3 hj
   refine bY ?_
   refine aQ rfl (fun h90r h90=>?_) (fun h90r h90=>?_)
   ·have hj2:j<d+1:=by omega
    have hpj:=aIo h hx0 hx1 hy0 hy1 (j:=j) (by omega)
    have hdt:((qK po x y).take j).length=j:=by rw [List.length_take,rE];omega
    have etk:(((qK po x y).take j).map eB).take j=((qK po x y).take j).map eB:=List.take_of_length_le (by rw [List.length_map];omega)
    have ers:(qK po x y).take j++[cpQ po x y j]=(qK po x y).take (j+1):=by
     rw [←aGP (x:=x) (y:=y) (show j<po.length by omega),List.take_add_one,List.getD_eq_getElem?_getD,List.getElem?_eq_getElem (by rw [rE];omega)];rfl
    have hcw:rl ((dZ (fG po) x y).getD j 0)≤500000000:=by
     rw [aJd h hx1 (by omega)]
     exact Nat.le_trans (aDl (R:=100000) hxr hyr h6 (by omega) fun i=>d7 (by decide) hW i) (by decide)
    have hcn0:rl ((dZ (f8 po 0) x y).getD j 0)≤500000000:=by
     rw [aEO h hx1 0 (by omega)]
     exact Nat.le_trans (aDl (R:=100000) hxr hyr h6 (by omega) fun i=>d7 (by decide) (hN 0) i) (by decide)
    have hcn1:rl ((dZ (f8 po 1) x y).getD j 0)≤500000000:=by
     rw [aEO h hx1 1 (by omega)]
     exact Nat.le_trans (aDl (R:=100000) hxr hyr h6 (by omega) fun i=>d7 (by decide) (hN 1) i) (by decide)
    have hcn2:rl ((dZ (f8 po 2) x y).getD j 0)≤500000000:=by
     rw [aEO h hx1 2 (by omega)]
     exact Nat.le_trans (aDl (R:=100000) hxr hyr h6 (by omega) fun i=>d7 (by decide) (hN 2) i) (by decide)
    have hFP:aN Tryz.prog 96 [.agg [ratL ((dZ (f8 po 0) x y).getD j 0),ratL ((dZ (f8 po 1) x y).getD j 0),ratL ((dZ (f8 po 2) x y).getD j 0),ratL ((dZ (fG po) x y).getD j 0)]] (eB (cpQ po x y j)):=aCC _ _ _ _ 500000000 (by decide) hcn0 hcn1 hcn2 hcw hpj
    refine cG ?_
    refine aP 25 (by decide +kernel) ?_
    refine aAw ?_
    have hcp5:=hcp4 ((dZ (f8 po 0) x y).getD j 0) ((dZ (f8 po 1) x y).getD j 0) ((dZ (f8 po 2) x y).getD j 0) ((dZ (fG po) x y).getD j 0)
    refine cp cS (hFP) ?_
    refine bD ?_
    refine bC rfl (.app (news:=[eB (cpQ po x y j)]) rfl rfl rfl rfl rfl (by rw [List.length_map];omega) (.inl rfl) (by decide) Tryz.underlying26 Tryz.underlying26 Z42 tP cs B42 (.inl ⟨116,0,_,rfl,by decide,rfl,rfl,by simp,rfl,by simp [aV,dR.pure]⟩) (by simp;omega) (by simp;omega) (by decide)) ?_
    refine dX ?_
    refine bG (a7.kill _ 116) ?_
    refine aB rfl (.bin rfl rfl (dA (by omega))) ?_
    refine dI ?_
    exact kE (j+1) (by omega)
   ·obtain rfl:j=d+1:=by omega
    have hEp:(qK po x y).take (d+1)=(qK po x y):=List.take_of_length_le (by rw [rE];omega)
    refine fI ?_
    simp only [hEp]
    exact nL [83,117] rfl rfl rfl cs (b7 cs rfl) T28 (.agg (.cons (.pure rfl) (.cons (cC (l:=cN d lo hi) aD rfl rfl hkl.symm) (.cons (cC (l:=qK po x y) dR rfl rfl (by rw [rE];omega)) .nil)))) rfl (.pure rfl)
theorem aGh {p q:List Rat} {R:Nat} (h:p.length-1+(q.length-1)≤40) (hpl:p.length≤41) (hql:q.length≤41) (hR1:1≤R) (hpR:∀ x∈p,rl x≤R) (hqR:∀ x∈q,rl x≤R):∀ x∈kN p q,rl x≤p.length*(q.length*(2*R+5))+5:=fun x hx=>by
 obtain⟨k,hk,rfl⟩:=List.mem_map.1 hx
 have hS:=qY hpl hql hR1 hpR hqR p.length
 have hg1:=d7 (by omega) hS k
 have hg2:=d7 (S:=2) (by decide) (nS (n:=p.length-1+(q.length-1)) h) k
 have h3:=iZ ((oA p q p.length).getD k 0) ((nP (p.length-1+(q.length-1))).getD k 0)
 omega
theorem aAY {p q:List Rat} {R a b:Nat} (ha:p.length=a) (hb:q.length=b) (h1:a*b≤30) (h2:a≤6) (h3:b≤6) (hR1:1≤R) (hpR:∀ x∈p,rl x≤R) (hqR:∀ x∈q,rl x≤R):∀ x∈kN p q,rl x≤60*R+155:=fun x hx=>by
 have h:=aGh (by omega) (by omega) (by omega) hR1 hpR hqR x hx
 rw [ha,hb,←Nat.mul_assoc] at h
 have:a*b*(2*R+5)≤30*(2*R+5):=Nat.mul_le_mul_right _ h1
 omega
structure cvD (po:List PoR) (d R:Nat):Prop where
 c:cvR po d R
 d5:d≤5
 R1:1≤R
 R2:R≤1000
section
variable {po:List PoR} {d R:Nat} (h:cvD po d R)
include h
theorem cvD.n (k:Nat):(f8 po k).length=d+1∧∀ x∈f8 po k,rl x≤2*R:=⟨by rw [pE,h.c.hl],aGq h.c.ok k⟩
theorem cvD.w:(fG po).length=d+1∧∀ x∈fG po,rl x≤R:=⟨by rw [oY,h.c.hl],aFP h.c.ok⟩
theorem cvD.dn (k:Nat):(gQ (f8 po k)).length=d∧∀ x∈gQ (f8 po k),rl x≤4*R+4:=by
 obtain⟨h1,h2⟩:=h.n k
 have:=h.c.hd
 have:=h.d5
 have:=h.R1
 exact⟨by rw [mP,h1,if_neg (by omega)];omega,fun x hx=>Nat.le_trans (tQ (by omega) (by omega) h2 x hx) (by omega)⟩
theorem cvD.dw:(gQ (fG po)).length=d∧∀ x∈gQ (fG po),rl x≤4*R+4:=by
 obtain⟨h1,h2⟩:=h.w
 have:=h.c.hd
 have:=h.d5
 exact⟨by rw [mP,h1,if_neg (by omega)];omega,fun x hx=>Nat.le_trans (tQ h.R1 (by omega) h2 x hx) (by omega)⟩
theorem cvD.dd:d*(d+1)≤30:=Nat.le_trans (Nat.mul_le_mul h.d5 (show d+1≤6 by have:=h.d5;omega)) (by decide)
theorem cvD.m1 (k:Nat):(kN (gQ (f8 po k)) (fG po)).length=2*d-1+1∧∀ x∈kN (gQ (f8 po k)) (fG po),rl x≤240*R+395:=by
 obtain⟨h1,h2⟩:=h.dn k
 obtain⟨h3,h4⟩:=h.w
 have:=h.c.hd
 have:=h.d5
 have h9:=h.dd
 exact⟨by rw [kL,h1,h3];omega,fun x hx=>Nat.le_trans (aAY h1 h3 h9 (by omega) (by omega) (by omega) h2 (fun x hx=>Nat.le_trans (h4 x hx) (by omega)) x hx) (by omega)⟩
theorem cvD.m2 (k:Nat):(kN (f8 po k) (gQ (fG po))).length=2*d-1+1∧∀ x∈kN (f8 po k) (gQ (fG po)),rl x≤240*R+395:=by
 obtain⟨h1,h2⟩:=h.n k
 obtain⟨h3,h4⟩:=h.dw
 have:=h.c.hd
 have:=h.d5
 have h9:=h.dd
 exact⟨by rw [kL,h1,h3];omega,fun x hx=>Nat.le_trans (aAY h1 h3 (by rw [Nat.mul_comm];exact h9) (by omega) (by omega) (by omega) (fun x hx=>Nat.le_trans (h2 x hx) (by omega)) h4 x hx) (by omega)⟩
theorem cvD.t (k:Nat):(nM po k).length=2*d-1+1∧∀ x∈nM po k,rl x≤480*R+791:=by
 obtain⟨h1,h2⟩:=h.m1 k
 obtain⟨_,h4⟩:=h.m2 k
 exact⟨by rw [nM,rP,h1],fun x hx=>Nat.le_trans (aDh d9 (by omega) h2 h4 x hx) (by omega)⟩
theorem cvD.lo:0<(gS (fG po)).1:=by
 have hl:=oY po
 have h0:0<(fG po).length:=by rw [hl,h.c.hl];omega
 obtain⟨i,hi,e⟩:=((tS (fG po) (fG po).length).2 h0).1
 show 0<(wR (fG po) (fG po).length).1
 rw [e]
 obtain⟨q,hq,hw⟩:=List.mem_map.1 (cD (p:=fG po) hi)
 rw [←hw]
 exact(h.c.ok q hq).2.2
theorem cvD.sq:iQ (2*R) (wA (gS (fG po)))∧mV (wA (gS (fG po))) 0=false:=by
 have h0:0<(fG po).length:=by rw [oY,h.c.hl];omega
 exact⟨aKB (yT h.R1 h.w.2) h.R1,(aKs h.lo (aFv h0)).2⟩
theorem cvD.bt (k:Nat):iQ (480*R+791) (gS (nM po k)):=yT (by omega) (h.t k).2
theorem cvD.qu (k:Nat):iQ (482*R+792) (quS (gS (nM po k)) (wA (gS (fG po)))):=(aKn (h.bt k) h.sq.1).le (by omega)
end
def spW (W:Rat) (po:List PoR) (k:Nat):Rat × Rat:=quS (quS (gS (nM po k)) (wA (gS (fG po)))) (W,W)
def gF (W:Rat) (po:List PoR):Bx3:=⟨spW W po 0,spW W po 1,spW W po 2⟩
theorem aLl {W:Rat} (h:W≠0):mV (W,W) 0=false:=by
 unfold mV
 rcases(show W<0∨0<W by grind) with g | g
 ·rw [decide_eq_true (by show W≤0;grind),decide_eq_false (by show ¬(0≤W);grind)];rfl
 ·rw [decide_eq_false (by show ¬(W≤0);grind)];rfl
def aKJ (W:Rat) (po:List PoR) (x:Rat):V3:=pW (1/(W*(qN (fG po) x*qN (fG po) x))) ⟨qN (nM po 0) x,qN (nM po 1) x,qN (nM po 2) x⟩
namespace Zq137
theorem cK {p q:Prop} (k:q) (e:p=q:=by simp only [e1,e2,e3,e4,p1,p2,p3,q1,q2,q3,l1,t0,t1,r1,r2,r3,r4,Nat.zero_add,Nat.reduceMul,Nat.reduceAdd,b1,b2,b3,b4,b5,b6,i1,i2,i3,i4,i5,i6,Nat.reduceBEq,List.set_cons_zero,List.set_cons_succ,Nat.reduceEqDiff,reduceIte,if_true,if_false,a8,a9,aC cW,aC dR,aC aD,aT,a6,LV.kill,bH];exact rfl):p:=e.mpr k
end Zq137
open Zq137 in
theorem aBd (d:Nat) (kn:List Rat) (po:List PoR) (R:Nat) (h:cvD po d R):aN Tryz.prog 185 [.agg [aG d,.list 3 (kn.map ratL),.list 12 (po.map eB)]] (.agg [.list 3 ((nM po 0).map ratL),.list 3 ((nM po 1).map ratL),.list 3 ((nM po 2).map ratL)]):=by
 have hl:=h.c.hl
 have hd:=h.c.hd
 have h6:=h.c.h6
 have h5:=h.d5
 have hR1:=h.R1
 have hR2:=h.R2
 have hcp:LV.pure (.agg [aG d,.list 3 (kn.map ratL),.list 12 (po.map eB)])=true:=by simp [LV.pure,aV,aF aD,aF dR]
 have w1:=h.w
 have w2:=h.dw
 have n0:=h.n 0
 have d0:=h.dn 0
 have p0a:=h.m1 0
 have p0b:=h.m2 0
 have n1:=h.n 1
 have d1:=h.dn 1
 have p1a:=h.m1 1
 have p1b:=h.m2 1
 have n2:=h.n 2
 have d2:=h.dn 2
 have p2a:=h.m1 2
 have p2b:=h.m2 2
 refine dJ Tryz.func185 (ht:=(fun g=>LV.ren_pure g _ (by simp [LV.pure,aV,aF aD]))) ?_
 refine eP ?_
 refine cp cS (uB d kn po R (by omega) h.c) ?_
 refine eI ?_
 refine cp cS (z6 (fG po) (by omega) (fun x hx=>Nat.le_trans ((w1).2 x hx) (by omega))) ?_
 refine iR ?_
 refine aK ?_
 refine bY ?_
 refine aY (b:=_) rfl (by decide) ?_
 refine cG ?_
 refine aP 15 (by decide +kernel) ?_
 refine cB ?_
 refine cp cS (z6 (f8 po 0) (by omega) (fun x hx=>Nat.le_trans ((n0).2 x hx) (by omega))) ?_
 refine cU ?_
 refine cp bI (sZ (gQ (f8 po 0)) (fG po) (4*R+4) (by omega) (by omega) (by omega) (by omega) (by omega) (fun x hx=>Nat.le_trans ((d0).2 x hx) (by omega)) (fun x hx=>Nat.le_trans ((w1).2 x hx) (by omega))) ?_
 refine cB ?_
 refine cp bI (sZ (f8 po 0) (gQ (fG po)) (4*R+4) (by omega) (by omega) (by omega) (by omega) (by omega) (fun x hx=>Nat.le_trans ((n0).2 x hx) (by omega)) (fun x hx=>Nat.le_trans ((w2).2 x hx) (by omega))) ?_
 refine cp bI (yN _ _ (2*d-1) (by omega) p0a.1 p0b.1 (fun x hx=>Nat.le_trans ((p0a).2 x hx) (by omega)) (fun x hx=>Nat.le_trans ((p0b).2 x hx) (by omega))) ?_
 refine cG ?_
 refine aK ?_
 refine bY ?_
 refine aY (b:=_) rfl (by decide) ?_
 refine cG ?_
 refine aP 15 (by decide +kernel) ?_
 refine cB ?_
 refine cp cS (z6 (f8 po 1) (by omega) (fun x hx=>Nat.le_trans ((n1).2 x hx) (by omega))) ?_
 refine cU ?_
 refine cp bI (sZ (gQ (f8 po 1)) (fG po) (4*R+4) (by omega) (by omega) (by omega) (by omega) (by omega) (fun x hx=>Nat.le_trans ((d1).2 x hx) (by omega)) (fun x hx=>Nat.le_trans ((w1).2 x hx) (by omega))) ?_
 refine cB ?_
 refine cp bI (sZ (f8 po 1) (gQ (fG po)) (4*R+4) (by omega) (by omega) (by omega) (by omega) (by omega) (fun x hx=>Nat.le_trans ((n1).2 x hx) (by omega)) (fun x hx=>Nat.le_trans ((w2).2 x hx) (by omega))) ?_
 refine cp bI (yN _ _ (2*d-1) (by omega) p1a.1 p1b.1 (fun x hx=>Nat.le_trans ((p1a).2 x hx) (by omega)) (fun x hx=>Nat.le_trans ((p1b).2 x hx) (by omega))) ?_
 refine cG ?_
 refine aK ?_
 refine bY ?_
 refine aY (b:=_) rfl (by decide) ?_
 refine cG ?_
 refine aP 15 (by decide +kernel) ?_
 refine cB ?_
 refine cp cS (z6 (f8 po 2) (by omega) (fun x hx=>Nat.le_trans ((n2).2 x hx) (by omega))) ?_
 refine cU ?_
 refine cp bI (sZ (gQ (f8 po 2)) (fG po) (4*R+4) (by omega) (by omega) (by omega) (by omega) (by omega) (fun x hx=>Nat.le_trans ((d2).2 x hx) (by omega)) (fun x hx=>Nat.le_trans ((w1).2 x hx) (by omega))) ?_
 refine cB ?_
 refine cp bI (sZ (f8 po 2) (gQ (fG po)) (4*R+4) (by omega) (by omega) (by omega) (by omega) (by omega) (fun x hx=>Nat.le_trans ((n2).2 x hx) (by omega)) (fun x hx=>Nat.le_trans ((w2).2 x hx) (by omega))) ?_
 refine cp bI (yN _ _ (2*d-1) (by omega) p2a.1 p2b.1 (fun x hx=>Nat.le_trans ((p2a).2 x hx) (by omega)) (fun x hx=>Nat.le_trans ((p2b).2 x hx) (by omega))) ?_
 refine cG ?_
 refine aK ?_
 refine bY ?_
 refine bO (b:=_) rfl (by decide) ?_
 refine cH ?_
 exact dE [] rfl rfl rfl cs (b7 cs rfl) aLi (.pure (by simp [LV.pure,aV,aF aD]))
namespace Zq89
theorem cK {p q:Prop} (k:q) (e:p=q:=by simp only [e1,e2,e3,e4,p1,p2,p3,q1,q2,q3,l1,t0,t1,r1,r2,r3,r4,Nat.zero_add,Nat.reduceMul,Nat.reduceAdd,b1,b2,b3,b4,b5,b6,i1,i2,i3,i4,i5,i6,Nat.reduceBEq,List.set_cons_zero,List.set_cons_succ,Nat.reduceEqDiff,reduceIte,if_true,if_false,a8,a9,aC cW,aC dR,aC aD,aT,a6,LV.kill,bH];exact rfl):p:=e.mpr k
end Zq89
open Zq89 in
theorem aAX (d:Nat) (a b:Rat) (po:List PoR) (ha:rl a≤100) (hb:rl b≤100) (hab:a<b) (h9:d≤6) (R:Nat) (h:cvD po d R):aN Tryz.prog 100 [.agg [aG d,.list 3 ((cN d a b).map ratL),.list 12 (po.map eB)]] (bxL (gF (b-a) po)):=by
 have hl:=h.c.hl
 have hd:=h.c.hd
 have h6:=h.c.h6
 have h5:=h.d5
 have hR1:=h.R1
 have hR2:=h.R2
 have hpu:∀ l:List Rat,aV (l.map ratL)=true:=fun l=>aF aD l
 have hkl:=eT d a b
 have hlo:=lH d a b
 have hhi:=mF d a b
 have hcp:LV.pure (.agg [aG d,.list 3 ((cN d a b).map ratL),.list 12 (po.map eB)])=true:=by simp [LV.pure,aV,aF aD,aF dR]
 have w1:=h.w
 have hwq:=h.sq
 have hzW:=d9 b a
 have hbW:iQ 1000 (b-a,b-a):=⟨by show rl (b-a)≤_;omega,by show rl (b-a)≤_;omega⟩
 have hnW:mV (b-a,b-a) 0=false:=aLl (by grind)
 have u0:=h.t 0
 have qq0:=(h.qu 0).le (show 482*R+792≤1000000 by omega)
 have bb0:=(h.bt 0).le (show 480*R+791≤1000000 by omega)
 have u1:=h.t 1
 have qq1:=(h.qu 1).le (show 482*R+792≤1000000 by omega)
 have bb1:=(h.bt 1).le (show 480*R+791≤1000000 by omega)
 have u2:=h.t 2
 have qq2:=(h.qu 2).le (show 482*R+792≤1000000 by omega)
 have bb2:=(h.bt 2).le (show 480*R+791≤1000000 by omega)
 have hD:=sD d a b po ha hb hab h9
 have hW:aN Tryz.prog 164 [spL (a,b)] (ratL (b-a)):=aAJ (a,b) (by show rl b+rl a≤_;omega)
 have z0:aN Tryz.prog 186 [spL (quS (gS (nM po 0)) (wA (gS (fG po)))),spL (b-a,b-a)] (.tup [spL (spW (b-a) po 0),iL 0]):=s6 (quS (gS (nM po 0)) (wA (gS (fG po)))) (b-a,b-a) 1000000 (by decide) qq0 (hbW.le (by decide)) hnW
 have z1:aN Tryz.prog 186 [spL (quS (gS (nM po 1)) (wA (gS (fG po)))),spL (b-a,b-a)] (.tup [spL (spW (b-a) po 1),iL 0]):=s6 (quS (gS (nM po 1)) (wA (gS (fG po)))) (b-a,b-a) 1000000 (by decide) qq1 (hbW.le (by decide)) hnW
 have z2:aN Tryz.prog 186 [spL (quS (gS (nM po 2)) (wA (gS (fG po)))),spL (b-a,b-a)] (.tup [spL (spW (b-a) po 2),iL 0]):=s6 (quS (gS (nM po 2)) (wA (gS (fG po)))) (b-a,b-a) 1000000 (by decide) qq2 (hbW.le (by decide)) hnW
 refine dJ Tryz.func100 (ht:=(fun r=>LV.ren_pure r _ (bxE.pure _))) ?_
 refine eX ?_
 refine cp cS (hD) ?_
 refine cp cS (hW) ?_
 refine cp cS (fT (b-a) (by omega)) ?_
 refine dP ?_
 refine cp cS (uB d (cN d a b) po R (by omega) h.c) ?_
 refine bD ?_
 refine cp cS (rR (fG po) (by omega) (fun x hx=>Nat.le_trans ((w1).2 x hx) (by omega))) ?_
 refine cp cS (aJS (gS (fG po)) R (by omega) (yT (by omega) w1.2)) ?_
 refine eI ?_
 refine cp cS (aBd d (cN d a b) po R h) ?_
 refine cB ?_
 refine aK ?_
 refine bY ?_
 refine aY (b:=_) rfl (by decide) ?_
 refine fI ?_
 refine dH 8 [6] (by decide +kernel) ?_
 refine bD ?_
 refine cp cS (rR (nM po 0) (by omega) (fun x hx=>Nat.le_trans ((u0).2 x hx) (by omega))) ?_
 refine bD ?_
 refine cp bI (s6 (gS (nM po 0)) (wA (gS (fG po))) 1000000 (by decide) bb0 (hwq.1.le (by omega)) hwq.2) ?_
 refine cH ?_
 refine cp bI (z0) ?_
 refine eI ?_
 refine bG (a7.kill _ 8) ?_
 refine cB ?_
 refine aK ?_
 refine bY ?_
 refine aY (b:=_) rfl (by decide) ?_
 refine fI ?_
 refine dH 8 [6] (by decide +kernel) ?_
 refine bD ?_
 refine cp cS (rR (nM po 1) (by omega) (fun x hx=>Nat.le_trans ((u1).2 x hx) (by omega))) ?_
 refine bD ?_
 refine cp bI (s6 (gS (nM po 1)) (wA (gS (fG po))) 1000000 (by decide) bb1 (hwq.1.le (by omega)) hwq.2) ?_
 refine cH ?_
 refine cp bI (z1) ?_
 refine eI ?_
 refine bG (a7.kill _ 8) ?_
 refine cB ?_
 refine aK ?_
 refine bY ?_
 refine aY (b:=_) rfl (by decide) ?_
 refine fI ?_
 refine dH 8 [6] (by decide +kernel) ?_
 refine bD ?_
 refine cp cS (rR (nM po 2) (by omega) (fun x hx=>Nat.le_trans ((u2).2 x hx) (by omega))) ?_
 refine bD ?_
 refine cp bI (s6 (gS (nM po 2)) (wA (gS (fG po))) 1000000 (by decide) bb2 (hwq.1.le (by omega)) hwq.2) ?_
 refine cH ?_
 refine cp bI (z2) ?_
 refine eI ?_
 refine bG (a7.kill _ 8) ?_
 refine cB ?_
 refine aK ?_
 refine bY ?_
 refine bO (b:=_) rfl (by decide) ?_
 refine cH ?_
 exact dE [] rfl rfl rfl cs (b7 cs rfl) T97 (.pure pu)
namespace Zq91
theorem cK {p q:Prop} (k:q) (e:p=q:=by simp only [e1,e2,e3,e4,p1,p2,p3,q1,q2,q3,l1,t0,t1,r1,r2,r3,r4,Nat.zero_add,Nat.reduceMul,Nat.reduceAdd,b1,b2,b3,b4,b5,b6,i1,i2,i3,i4,i5,i6,Nat.reduceBEq,List.set_cons_zero,List.set_cons_succ,Nat.reduceEqDiff,reduceIte,if_true,if_false,a8,a9,aC cW,aC dR,aC aD,aT,a6,LV.kill,bH];exact rfl):p:=e.mpr k
end Zq91
open Zq91 in
theorem aGE (d:Nat) (a b:Rat) (po:List PoR) (ha:rl a≤100) (hb:rl b≤100) (hab:a<b) (h9:d≤6) (R:Nat) (h:cvD po d R) (t x:Rat) (ht:rl t≤100) (h1:a≤t) (h2:t≤b) (hx:(t-a)/(b-a)=x) (hxr:rl x≤1000):aN Tryz.prog 104 [.agg [aG d,.list 3 ((cN d a b).map ratL),.list 12 (po.map eB)],ratL t] (.tup [dG (aKJ (b-a) po x),iL 0]):=by
 have hp0:0<po.length:=by have:=h.c.hl;omega
 have hl:=h.c.hl
 have hd:=h.c.hd
 have h6:=h.c.h6
 have h5:=h.d5
 have hR1:=h.R1
 have hR2:=h.R2
 have hpu:∀ l:List Rat,aV (l.map ratL)=true:=fun l=>aF aD l
 have hkl:=eT d a b
 have hlo:=lH d a b
 have hhi:=mF d a b
 have hcp:LV.pure (.agg [aG d,.list 3 ((cN d a b).map ratL),.list 12 (po.map eB)])=true:=by simp [LV.pure,aV,aF aD,aF dR]
 have w1:=h.w
 have hs0:HS (fG po) x:=y6 (by omega) (fun y hy=>Nat.le_trans (w1.2 y hy) (by omega)) (by omega)
 have q0:=hs0.ev
 have hzW:=d9 b a
 have m0:=bR (qN (fG po) x) (qN (fG po) x)
 have m2:=bR (b-a) ((qN (fG po) x)*(qN (fG po) x))
 have m1:=iZ 1 ((b-a)*((qN (fG po) x)*(qN (fG po) x)))
 have hr1:rl 1=1:=rfl
 have u0:=h.t 0
 have v0:HS (nM po 0) x:=y6 (by omega) (fun y hy=>Nat.le_trans (u0.2 y hy) (by omega)) (by omega)
 have y0:=v0.ev
 have u1:=h.t 1
 have v1:HS (nM po 1) x:=y6 (by omega) (fun y hy=>Nat.le_trans (u1.2 y hy) (by omega)) (by omega)
 have y1:=v1.ev
 have u2:=h.t 2
 have v2:HS (nM po 2) x:=y6 (by omega) (fun y hy=>Nat.le_trans (u2.2 y hy) (by omega)) (by omega)
 have y2:=v2.ev
 have h1c:aN Tryz.prog 107 [iL 1] (ratL 1):=mJ 1 (by decide) (by decide)
 refine dJ Tryz.func104 (ht:=(gU (cW.pure _) rfl)) ?_
 refine cH ?_
 refine cp bI (aB3 d a b po ha hb hab h9 t x ht h1 h2 hx hp0) ?_
 refine oB ?_
 refine aQ rfl (fun h23r h23=>?_) (fun h23r h23=>?_)
 ·first | exact h23.elim | cases h23r
 ·refine dI ?_
  refine aP 6 (by decide +kernel) ?_
  refine bD ?_
  refine cp cS (uB d (cN d a b) po R (by omega) h.c) ?_
  refine cU ?_
  refine cp bI (tT (fG po) x hs0 (by omega)) ?_
  refine dX ?_
  refine dH 11 [9] (by decide +kernel) ?_
  refine cp cS (h1c) ?_
  refine dI ?_
  refine cp bI (dQ (qN (fG po) x) (qN (fG po) x) (by omega)) ?_
  refine cp bI (dQ (b-a) ((qN (fG po) x)*(qN (fG po) x)) (by omega)) ?_
  refine cp bI (mD 1 ((b-a)*((qN (fG po) x)*(qN (fG po) x))) (by omega)) ?_
  refine jT ?_
  refine cp cS (aBd d (cN d a b) po R h) ?_
  refine cB ?_
  refine aK ?_
  refine bY ?_
  refine aY (b:=_) rfl (by decide) ?_
  refine cH ?_
  refine aP 7 (by decide +kernel) ?_
  refine cB ?_
  refine cp bI (tT (nM po 0) x v0 (by omega)) ?_
  refine cp bI (dQ (1/((b-a)*((qN (fG po) x)*(qN (fG po) x)))) (qN (nM po 0) x) (by omega)) ?_
  refine cG ?_
  refine aK ?_
  refine bY ?_
  refine aY (b:=_) rfl (by decide) ?_
  refine cH ?_
  refine aP 7 (by decide +kernel) ?_
  refine cB ?_
  refine cp bI (tT (nM po 1) x v1 (by omega)) ?_
  refine cp bI (dQ (1/((b-a)*((qN (fG po) x)*(qN (fG po) x)))) (qN (nM po 1) x) (by omega)) ?_
  refine cG ?_
  refine aK ?_
  refine bY ?_
  refine aY (b:=_) rfl (by decide) ?_
  refine cH ?_
  refine aP 7 (by decide +kernel) ?_
  refine cB ?_
  refine cp bI (tT (nM po 2) x v2 (by omega)) ?_
  refine cp bI (dQ (1/((b-a)*((qN (fG po) x)*(qN (fG po) x)))) (qN (nM po 2) x) (by omega)) ?_
  refine cG ?_
  refine aK ?_
  refine bY ?_
  refine bO (b:=_) rfl (by decide) ?_
  refine fI ?_
  exact nL [] rfl rfl rfl cs (b7 cs rfl) kS (.pure pu) rfl (.pure rfl)
end Go.Proofs.YtckppbhafancnaaGreat
end
