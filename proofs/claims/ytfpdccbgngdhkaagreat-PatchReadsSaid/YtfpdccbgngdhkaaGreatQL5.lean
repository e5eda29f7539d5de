/- Texts R5, B1, M1, R6, B2, C1, C2, D1, E1, E3, E4, K1, K4, H1, V1, P1, H2, TW, K3, E2, G1, S1, K5, K8, K9, K13, K2, K10, K7, K11, K14, K16, P3, P4, K18, P5, K20, K21, K22, K23, K24, K25, LgS of this proof, joined. -/
import Derived.Test.YtfpdccbgngdhkaaGreatQL4
set_option linter.unusedVariables false
set_option linter.unusedSimpArgs false
section
set_option linter.unusedVariables false
set_option linter.unusedSimpArgs false
set_option maxHeartbeats 8000000
set_option maxRecDepth 100000
attribute [local irreducible] Go.Lg.opsL Go.Lg.wpL Go.Lg.thenL Go.Lg.blockL
namespace Go.Proofs.YtfpdccbgngdhkaaGreat
open Go.Lg
section
variable {q a b:Rat}
theorem aIe:(-q<0)↔0<q:=by grind
theorem zY {n:Nat}:0<(a7 n).length↔0<n:=by
 constructor
 ·intro h;exact Nat.pos_of_ne_zero (fun e=>by rw [e,i9] at h;cases h)
 ·intro h;exact List.length_pos_iff.2 (fun e=>by have:=eR.1 e;omega)
theorem aEl:0<q↔0<q.num:=by rw [Rat.lt_iff];simp
theorem aNy (h:(!decide (q<0))=true):decide (((a7 q.num.natAbs).length:Int) > 0)=decide (-q<0):=by
 rw [decide_eq_decide,aIe,aEl]
 have h1:¬ q<0:=by simpa using h
 rw [uG] at h1
 have:=zY (n:=q.num.natAbs)
 omega
theorem aNB (h:(!decide (q<0))=false):false=decide (-q<0):=by
 have h1:q<0:=by simpa using h
 symm;rw [decide_eq_false_iff_not];grind
theorem aEL (s:Bool) (h:s=decide (-q<0)):ratL (-q)=.agg [.v (.bool s),bW q.num.natAbs,bW (jA q)]:=by
 rw [jQ,h,jP,jP,Rat.neg_num,Int.natAbs_neg,Rat.neg_den]
theorem sF:a=b↔decide (a<0)=decide (b<0)∧a.num.natAbs=b.num.natAbs∧jA a=jA b:=by
 constructor
 ·rintro rfl;exact⟨rfl,rfl,rfl⟩
 ·rintro⟨h1,h2,h3⟩
  have hd:a.den=b.den:=vI (by rw [h3])
  rw [←eY a,←eY b,h1,h2,hd]
theorem aMM {m n:Nat}:(kD m n==0)=decide (m=n):=by
 rw [Bool.eq_iff_iff,beq_iff_eq,decide_eq_true_iff];unfold kD;split
 ·omega
 ·split<;>omega
theorem aJK (h:(decide (a<0)==decide (b<0))=false):false=decide (a=b):=by
 symm;rw [decide_eq_false_iff_not,sF];intro h2;rw [h2.1] at h;simp at h
theorem aMo (h2:(kD a.num.natAbs b.num.natAbs==0)=false):false=decide (a=b):=by
 rw [aMM] at h2
 symm;rw [decide_eq_false_iff_not,sF];intro h3;rw [decide_eq_false_iff_not] at h2;exact h2 h3.2.1
theorem aMW (h:(decide (a<0)==decide (b<0))=true) (h2:(kD a.num.natAbs b.num.natAbs==0)=true):(kD (jA a) (jA b)==0)=decide (a=b):=by
 rw [aMM] at h2 ⊢
 rw [decide_eq_decide,sF]
 exact⟨fun h3=>⟨eq_of_beq h,of_decide_eq_true h2,h3⟩,fun h3=>h3.2.2⟩
end
end Go.Proofs.YtfpdccbgngdhkaaGreat
namespace Go.Lg
open Go.Proofs.YtfpdccbgngdhkaaGreat in
theorem OpT.stNegR {P:Program} {L:St} {dst:Option Nat} {T:TypeId} {p x:Operand} {b:Nat} {q:Rat} {s:Bool} (hp:L.ev p=.eptr b 3 0 0) (hb:L.heap b=some ⟨3,[ratL q],true⟩) (hx:L.ev x=.v (.bool s)) (hT:cF P T 1 false)
  (hs:s=decide (-q<0)):OpT P L dst (.store T p x) ((L.setB b (some ⟨3,[ratL (-q)],true⟩)).put dst .any):=by
 have h0:LV.put (ratL q) 0 (L.ev x)=some (ratL (-q)):=by
  rw [hx,aEL s hs,jQ q]
  have e1:∀ n,(bW n).csize=1:=fun _=>rfl
  simp [LV.put,rP,aT,LV.csize,LV.isAgg]
 exact OpT.store (P:=P) (dst:=dst) (T:=T) (p:=p) (x:=x) (y:=ratL q) (y':=ratL (-q)) hp hb rfl rfl rfl (aD.csize _) h0 (by rw [hx];exact hT) (by rw [hx];exact⟨(fun h=>by cases h),(fun _ h=>by cases h)⟩)
end Go.Lg
namespace Go.Proofs.YtfpdccbgngdhkaaGreat
open Go.Lg
theorem aGf {n:Int} (h1:-9223372036854775808≤n) (h2:n<0):IntKind.i64.wrap (0-(n+1))=(((-(n+1)).toNat:Nat):Int):=by
 rw [IntWalk.i64_in _ (by omega)];omega
open H0 in
theorem jS (q:Rat):aM Tryz.prog 121 [ratL q] (bW q.den):=by
 refine dI Tryz.func121 ?_
 refine iJ ?_
 refine aK rfl (fun h6r h6=>?_) (fun h6r h6=>?_)
 ·have hd1:=qC (show (a7 (jA q)).length=0 by omega)
  refine eC ?_
  rw [hd1,show bW 1=.list 1 ([1].map cB) from rfl]
  exact kP [7] rfl rfl (cA cT rfl rfl rfl)
 ·have hd1:=pJ (q:=q) (by omega)
  refine cN ?_
  rw [←hd1]
  exact bM rfl (by first | exact .pure rfl | exact .pure (bA _) | exact .pure (aO _) | exact .pure (aD.pure _) | exact .pure (aG cT _ _) | exact .pure (aG aD _ _))
namespace Zq55
theorem dG {p q:Prop} (k:q) (e:p=q:=by simp only [e1,e2,e3,e4,p1,p2,p3,q1,q2,q3,l1,t0,t1,r1,r2,r3,r4,Nat.zero_add,Nat.reduceMul,Nat.reduceAdd,b1,b2,b3,b4,b5,b6,i1,i2,i3,i4,i5,i6,Nat.reduceBEq,fC,aV,tz0];exact rfl):p:=e.mpr k
end Zq55
open Zq55 in
theorem lU (s:Bool) (m n:Nat) (hla:(a7 m).length≤68719476736) (hlb:(a7 n).length≤68719476736) (hn0:0<n):aM Tryz.prog 122 [bL s,bW m,bW n] (ratL (qv s m n)):=by
 refine dI Tryz.func122 ?_
 refine eC ?_
 refine cp dC (jR _ (aX _) (by omega)) ?_
 refine bE ?_
 refine cp dC (jR _ (aX _) (by omega)) ?_
 refine cW ?_
 refine aK rfl (fun h14r h14=>?_) (fun h14r h14=>?_)
 ·have hm:m=0:=eR.1 (List.eq_nil_of_length_eq_zero (by omega))
  refine eC ?_
  rw [hm,sQ,eW]
  exact dQ [] rfl rfl rfl rfl rfl cX (.pure rfl)
 ·have hm0:0<m:=zY.1 (by omega)
  have hg:0<Nat.gcd m n:=Nat.gcd_pos_of_pos_left _ hm0
  have hE:=uQ s hm0 hn0
  have hgl:(a7 (Nat.gcd m n)).length≤68719476736:=Nat.le_trans (dE (Nat.le_of_dvd hm0 (Nat.gcd_dvd_left _ _))) hla
  have hqa:(a7 (m/Nat.gcd m n)).length≤68719476736:=Nat.le_trans (dE (Nat.div_le_self _ _)) hla
  have hqb:(a7 (n/Nat.gcd m n)).length≤68719476736:=Nat.le_trans (dE (Nat.div_le_self _ _)) hlb
  have hg1l:=lR (n:=Nat.gcd m n)
  refine dB ?_
  refine cp b9 (aGd _ _ (by omega) (by omega)) ?_
  refine dR ?_
  refine eB (fun L=>∃ (t:Bool) (L1:St),(t=decide (Nat.gcd m n≠1))∧L=(((((((St.mk L1.slot (hp [(6,⟨3,[.agg [.v (.bool false),.list 1 [],.list 1 []]],true⟩)])).put (some 0) (bL s)).put (some 1) (bW m)).put (some 2) (bW n)).put (some 6) (.eptr 6 3 0 0)).put (some 7) (bW (Nat.gcd m n))).put (some 27) (bL t))) ?_ ?_
  ·refine dR ?_
   refine dJ 22 rfl (fun h22r h22=>?_) (fun h22r h22=>?_)
   ·refine dL ?_
    exact⟨true,_,by symm;rw [decide_eq_true_iff];intro e;rw [e,uZ] at h22;exact h22 rfl,((aA (aA (aA (aA (aA (aA (bC cl) cl) cl) cl) cl) cl) cl)).symm⟩
   ·refine dL ?_
    exact⟨(((a7 (Nat.gcd m n)).getD 0 0:Int) != 1),_,by have:=(hg1l (by omega)).1;rw [Bool.eq_iff_iff,bne_iff_ne,decide_eq_true_iff];omega,((aA (aA (aA (aA (aA (aA (bC cl) cl) cl) cl) cl) cl) cl)).symm⟩
  ·rintro _ ⟨t,LR5,ht,rfl⟩
   refine bE ?_
   refine eB (fun L=>∃ (x:Nat) (y:Nat) (L1:St),(x=m/Nat.gcd m n∧y=n/Nat.gcd m n)∧L=(((((St.mk L1.slot (hp [(6,⟨3,[.agg [.v (.bool false),.list 1 [],.list 1 []]],true⟩)])).put (some 0) (bL s)).put (some 1) (bW x)).put (some 2) (bW y)).put (some 6) (.eptr 6 3 0 0))) ?_ ?_
   ·refine aK rfl (fun h27r h27=>?_) (fun h27r h27=>?_)
    ·refine cO ?_
     refine cp b9 (aCn _ _ (by omega) (by omega) hg) ?_
     refine cN ?_
     refine cp b9 (aCn _ _ (by omega) (by omega) hg) ?_
     refine dL ?_
     exact⟨m/Nat.gcd m n,n/Nat.gcd m n,_,⟨rfl,rfl⟩,((aA (aA (aA (aA (bC cl) cl) cl) cl) cl)).symm⟩
    ·have hg1:Nat.gcd m n=1:=by rw [ht,decide_eq_false_iff_not] at h27r;omega
     refine cY ?_
     exact⟨m,n,_,⟨by rw [hg1,Nat.div_one],by rw [hg1,Nat.div_one]⟩,((aA (aA (aA (aA (bC cl) cl) cl) cl) cl)).symm⟩
   ·rintro _ ⟨x,y,LC27,⟨hx,hy⟩,rfl⟩
    rw [←hx,←hy] at hE
    have hy0:0<y:=by rw [hy];exact Nat.div_pos (Nat.le_of_dvd hn0 (Nat.gcd_dvd_right _ _)) hg
    refine eC ?_
    refine dJ 45 rfl (fun h45r h45=>?_) (fun h45r h45=>?_)
    ·refine dL ?_
     refine aK rfl (fun h50r h50=>?_) (fun h50r h50=>?_)
     ·have hy1:y=1:=by have:=(lR (n:=y) (by omega)).1;omega
      refine gC ?_
      rw [hE,if_pos hy1]
      exact dQ [] rfl rfl rfl rfl rfl cX (.agg (.cons (.pure rfl) (.cons (.pure (aO _)) (.cons (.nil 1) .nil))))
     ·have hy1:y≠1:=by have:=(lR (n:=y) (by omega)).1;omega
      refine cW ?_
      rw [hE,if_neg hy1]
      exact dQ [] rfl rfl rfl rfl rfl cX (.agg (.cons (.pure rfl) (.cons (.pure (aO _)) (.cons (.pure (aO _)) .nil))))
    ·have hy1:y≠1:=fun e=>by rw [e,uZ] at h45;exact h45 rfl
     refine mV ?_
     rw [hE,if_neg hy1]
     exact dQ [] rfl rfl rfl rfl rfl cX (.agg (.cons (.pure rfl) (.cons (.pure (aO _)) (.cons (.pure (aO _)) .nil))))
open H0 in
theorem zM (n:Int) (h1:-9223372036854775808≤n) (h2:n≤9223372036854775807):aM Tryz.prog 127 [iL n] (.tup [bW n.natAbs,bL (decide (n<0))]):=by
 refine dI Tryz.func127 ?_
 refine eA ?_
 refine aK rfl (fun h5r h5=>?_) (fun h5r h5=>?_)
 ·refine cO ?_
  refine aB rfl (.neg rfl) ?_
  refine aB rfl (.cv64 (n:=(-(n+1)).toNat) Tryz.underlying2 Tryz.underlying161 (by simp only [e1,p1,p2,Nat.reduceBEq];rw [aGf h1 h5]) (by omega)) ?_
  refine aB rfl (.bin rfl rfl (aMi (show (-(n+1)).toNat+1<18446744073709551616 by omega))) ?_
  refine cp dC (wC ((-(n+1)).toNat+1) (by omega)) ?_
  refine dB ?_
  rw [decide_eq_true h5,show n.natAbs=(-(n+1)).toNat+1 by omega]
  exact tE rfl (.pure (aO _)) rfl (.pure rfl)
 ·refine dR ?_
  refine aB rfl (.cv64 (n:=n.natAbs) Tryz.underlying2 Tryz.underlying161 (by simp only [e1,p1,p2,Nat.reduceBEq];rw [show ((n.natAbs:Nat):Int)=n by omega];rfl) (by omega)) ?_
  refine cp dC (wC n.natAbs (by omega)) ?_
  refine dR ?_
  rw [decide_eq_false h5]
  exact tE rfl (.pure (aO _)) rfl (.pure rfl)
open H0 in
theorem aJm (n d:Int) (h1:-9223372036854775808≤n) (h2:n≤9223372036854775807) (h3:-9223372036854775808≤d) (h4:d≤9223372036854775807) (hd:d≠0):aM Tryz.prog 128 [iL n,iL d] (.tup [ratL ((n:Rat)/(d:Rat)),iL 0]):=by
 refine dI Tryz.func128 ?_
 refine eA ?_
 refine aK rfl (fun h11r h11=>?_) (fun h11r h11=>?_)
 ·exact absurd h11 hd
 ·refine dR ?_
  refine cp dC (zM _ (by omega) (by omega)) ?_
  refine cN ?_
  refine cp dC (zM _ (by omega) (by omega)) ?_
  refine gC ?_
  refine cp pS (lU (decide (n<0) != decide (d<0)) n.natAbs d.natAbs (Nat.le_trans (gU.2 (by omega)) (by omega)) (Nat.le_trans (gU.2 (by omega)) (by omega)) (by omega)) ?_
  refine dR ?_
  rw [←zS]
  exact kG [] rfl rfl rfl (aD.csize _) (aJ _) cX (.pure (aD.pure _)) rfl (.pure rfl)
open H0 in
theorem kK (n d:Int) (h1:-9223372036854775808≤n) (h2:n≤9223372036854775807) (h3:-9223372036854775808≤d) (h4:d≤9223372036854775807) (hd:d≠0):aM Tryz.prog 61 [iL n,iL d] (ratL ((n:Rat)/(d:Rat))):=by
 refine dI Tryz.func61 ?_
 refine dU ?_
 refine cp b9 (aJm _ _ (by omega) (by omega) (by omega) (by omega) (by omega)) ?_
 refine iJ ?_
 exact dQ [] rfl rfl rfl (aD.csize _) (aJ _) cX (.pure (aD.pure _))
open H0 in
theorem jE (n:Int) (h1:-9223372036854775808≤n) (h2:n≤9223372036854775807):aM Tryz.prog 60 [iL n] (ratL (n:Rat)):=by
 refine dI Tryz.func60 ?_
 refine eC ?_
 refine cp dC (zM _ (by omega) (by omega)) ?_
 refine mY ?_
 rw [←wG n]
 have hz:n.natAbs=0∨0<n.natAbs:=by omega
 rcases hz with hz | hz
 ·obtain rfl:n=0:=by omega
  rw [show qv (decide ((0:Int)<0)) (0:Int).natAbs 1=0 from sQ _ _,eW]
  exact dQ [] rfl rfl rfl rfl rfl cX (.pure rfl)
 ·rw [uQ _ hz (by omega),Nat.gcd_one_right,Nat.div_one,if_pos (by omega)]
  exact dQ [] rfl rfl rfl rfl rfl cX (.agg (.cons (.pure rfl) (.cons (.pure (aO _)) (.cons (.pure rfl) .nil))))
open H0 in
theorem jO (a b:Rat) (h:rl a+rl b≤1099511627776):aM Tryz.prog 31 [ratL a,ratL b] (bL (decide (a=b))):=by
 have a1:=fO a
 have a3:=eO a
 have c1:=fO b
 have c3:=eO b
 refine dI Tryz.func31 ?_
 refine iJ ?_
 refine dJ 10 rfl (fun h10r h10=>?_) (fun h10r h10=>?_)
 ·refine cO ?_
  refine cp b9 (qY _ _ (by omega) (by omega)) ?_
  refine cP ?_
  refine dJ 18 rfl (fun h18r h18=>?_) (fun h18r h18=>?_)
  ·refine cO ?_
   refine cp b9 (qY _ _ (by omega) (by omega)) ?_
   refine dB ?_
   rw [←aMW h10r h18r]
   exact bM rfl (by first | exact .pure rfl | exact .pure (bA _) | exact .pure (aO _) | exact .pure (aD.pure _) | exact .pure (aG cT _ _) | exact .pure (aG aD _ _))
  ·refine cV ?_
   rw [←aMo h18r]
   exact bM rfl (by first | exact .pure rfl | exact .pure (bA _) | exact .pure (aO _) | exact .pure (aD.pure _) | exact .pure (aG cT _ _) | exact .pure (aG aD _ _))
 ·refine mZ ?_
  rw [←aJK h10r]
  exact bM rfl (by first | exact .pure rfl | exact .pure (bA _) | exact .pure (aO _) | exact .pure (aD.pure _) | exact .pure (aG cT _ _) | exact .pure (aG aD _ _))
open H0 in
theorem aAC (q:Rat):aM Tryz.prog 46 [ratL q] (iL (mE q)):=by
 have hq:=aEo q
 refine dI Tryz.func46 ?_
 refine iJ ?_
 refine aK rfl (fun h6r h6=>?_) (fun h6r h6=>?_)
 ·have hz:q.num.natAbs=0:=eR.1 (List.eq_nil_of_length_eq_zero (by omega))
  refine dL ?_
  rw [hq,if_pos hz]
  exact bM rfl (by first | exact .pure rfl | exact .pure (bA _) | exact .pure (aO _) | exact .pure (aD.pure _) | exact .pure (aG cT _ _) | exact .pure (aG aD _ _))
 ·have hz:q.num.natAbs≠0:=fun e=>by rw [e,i9] at h6;exact h6 rfl
  refine dU ?_
  refine aK rfl (fun h8r h8=>?_) (fun h8r h8=>?_)
  ·refine dL ?_
   rw [hq,if_neg hz,if_pos h8]
   exact bM rfl (by first | exact .pure rfl | exact .pure (bA _) | exact .pure (aO _) | exact .pure (aD.pure _) | exact .pure (aG cT _ _) | exact .pure (aG aD _ _))
  ·refine eC ?_
   rw [hq,if_neg hz,if_neg h8]
   exact bM rfl (by first | exact .pure rfl | exact .pure (bA _) | exact .pure (aO _) | exact .pure (aD.pure _) | exact .pure (aG cT _ _) | exact .pure (aG aD _ _))
open H0 in
theorem aKJ (q:Rat):aM Tryz.prog 119 [ratL q] (ratL (-q)):=by
 refine dI Tryz.func119 ?_
 refine cW ?_
 refine dJ 6 rfl (fun h6r h6=>?_) (fun h6r h6=>?_)
 ·refine dB ?_
  refine bD rfl (.stNegR rfl rfl rfl T4 (by first | exact aNy h6r | exact aNB h6r)) ?_
  refine dU ?_
  exact dQ [] rfl rfl rfl (aD.csize _) (aJ _) cX (.pure (aD.pure _))
 ·refine dB ?_
  refine bD rfl (.stNegR rfl rfl rfl T4 (by first | exact aNy h6r | exact aNB h6r)) ?_
  refine dU ?_
  exact dQ [] rfl rfl rfl (aD.csize _) (aJ _) cX (.pure (aD.pure _))
open H0 in
theorem f8 (a b:Rat) (h:rl a+rl b≤34359738368):aM Tryz.prog 51 [ratL a,ratL b] (ratL (a*b)):=by
 have a1:=fO a
 have a2:=f5 a
 have a3:=eO a
 have c1:=fO b
 have c2:=f5 b
 have c3:=eO b
 have a0:=a.den_pos
 have c0:=b.den_pos
 have m1:=cE a1 c2
 have m2:=cE c1 a2
 have m3:=cE a2 c2
 have m4:=cE a1 c1
 have m5:=cE a2 c1
 have m6:=cE c2 a2
 have np:=Nat.mul_pos a0 c0
 have hE:=z5 (decide (a<0)) (decide (b<0)) a.num.natAbs a.den b.num.natAbs b.den
 rw [eY,eY] at hE
 refine dI Tryz.func51 ?_
 refine eC ?_
 refine aP 16 (by decide +kernel) ?_
 refine dU ?_
 refine cp b9 (m9 _ _ (by omega) (by omega)) ?_
 refine bE ?_
 refine cp dC (jS _) ?_
 refine bE ?_
 refine cp dC (jS _) ?_
 refine cp b9 (m9 _ _ (by omega) (by omega)) ?_
 refine cp pS (lU _ _ _ (by omega) (by omega) np) ?_
 refine cO ?_
 rw [hE]
 exact dQ [] rfl rfl rfl (aD.csize _) (aJ _) cX (.pure (aD.pure _))
open H0 in
theorem aI4 (a b:Rat) (h:rl a+rl b≤34359738368):aM Tryz.prog 154 [ratL a,ratL b] (.tup [ratL (a/b),iL (if b=0 then 3 else 0)]):=by
 have a1:=fO a
 have a2:=f5 a
 have a3:=eO a
 have c1:=fO b
 have c2:=f5 b
 have c3:=eO b
 have a0:=a.den_pos
 have c0:=b.den_pos
 have m1:=cE a1 c2
 have m2:=cE c1 a2
 have m3:=cE a2 c2
 have m4:=cE a1 c1
 have m5:=cE a2 c1
 have m6:=cE c2 a2
 have np:=Nat.mul_pos a0 c0
 have hE:=aAo (decide (a<0)) (decide (b<0)) a.num.natAbs a.den b.num.natAbs b.den
 rw [eY,eY] at hE
 refine dI Tryz.func154 ?_
 refine nY ?_
 refine aK rfl (fun h9r h9=>?_) (fun h9r h9=>?_)
 ·have hz:=xY (q:=b) (by omega)
  refine dU ?_
  subst hz
  rw [show a/0=0 by rw [Rat.div_def];simp,eW]
  exact kG [] rfl rfl rfl rfl rfl cX (.pure rfl) rfl (.pure rfl)
 ·have hb0:0<b.num.natAbs:=zY.1 (by omega)
  have hz:b≠0:=by rintro rfl;exact absurd hb0 (by decide)
  refine cP ?_
  refine aP 16 (by decide +kernel) ?_
  refine eC ?_
  refine cp dC (jS _) ?_
  refine cp b9 (m9 _ _ (by omega) (by omega)) ?_
  refine bE ?_
  refine cp dC (jS _) ?_
  refine cY ?_
  refine cp b9 (m9 _ _ (by omega) (by omega)) ?_
  refine cp pS (lU _ _ _ (by omega) (by omega) (Nat.mul_pos a0 hb0)) ?_
  refine dR ?_
  rw [hE,if_neg hz]
  exact kG [] rfl rfl rfl (aD.csize _) (aJ _) cX (.pure (aD.pure _)) rfl (.pure rfl)
open H0 in
theorem aIs (a b:Rat) (h:rl a+rl b≤34359738368):aM Tryz.prog 87 [ratL a,ratL b] (ratL (a/b)):=by
 refine dI Tryz.func87 ?_
 refine cV ?_
 refine cp b9 (aI4 _ _ (by omega)) ?_
 refine iJ ?_
 exact dQ [] rfl rfl rfl (aD.csize _) (aJ _) cX (.pure (aD.pure _))
namespace Zq36
theorem dG {p q:Prop} (k:q) (e:p=q:=by simp only [e1,e2,e3,e4,p1,p2,p3,q1,q2,q3,l1,t0,t1,r1,r2,r3,r4,Nat.zero_add,Nat.reduceMul,Nat.reduceAdd,b1,b2,b3,b4,b5,b6,i1,i2,i3,i4,i5,i6,Nat.reduceBEq,aV,eSb];exact rfl):p:=e.mpr k
end Zq36
open Zq36 in
theorem jI (a b:Rat) (h:rl a+rl b≤34359738368):aM Tryz.prog 59 [ratL a,ratL b] (ratL (a+b)):=by
 have a1:=fO a
 have a2:=f5 a
 have a3:=eO a
 have c1:=fO b
 have c2:=f5 b
 have c3:=eO b
 have a0:=a.den_pos
 have c0:=b.den_pos
 have m1:=cE a1 c2
 have m2:=cE c1 a2
 have m3:=cE a2 c2
 have m4:=cE a1 c1
 have m5:=cE a2 c1
 have m6:=cE c2 a2
 have np:=Nat.mul_pos a0 c0
 have m7:(a7 (a.num.natAbs*b.den+b.num.natAbs*a.den)).length≤rl a+rl b+1:=aAg m1 (by omega)
 have ls1:(a7 (a.num.natAbs*b.den-b.num.natAbs*a.den)).length≤rl a+rl b:=Nat.le_trans (dE (Nat.sub_le _ _)) m1
 have ls2:(a7 (b.num.natAbs*a.den-a.num.natAbs*b.den)).length≤rl b+rl a:=Nat.le_trans (dE (Nat.sub_le _ _)) m2
 refine dI Tryz.func59 ?_
 have eSb:True:=trivial
 refine mY ?_
 refine aK rfl (fun h15r h15=>?_) (fun h15r h15=>?_)
 ·have hz:=xY (q:=a) (by omega)
  refine eC ?_
  rw [hz,Rat.zero_add]
  exact dQ [] rfl rfl rfl (aD.csize _) (aJ _) cX (.pure (aD.pure _))
 ·refine cV ?_
  refine aK rfl (fun h20r h20=>?_) (fun h20r h20=>?_)
  ·have hz:=xY (q:=b) (by omega)
   refine eC ?_
   rw [hz,Rat.add_zero]
   exact dQ [] rfl rfl rfl (aD.csize _) (aJ _) cX (.pure (aD.pure _))
  ·refine cP ?_
   refine aP 12 (by decide +kernel) ?_
   refine cP ?_
   refine cp dC (jS _) ?_
   refine cp b9 (m9 _ _ (by omega) (by omega)) ?_
   refine cP ?_
   refine cp dC (jS _) ?_
   refine cp b9 (m9 _ _ (by omega) (by omega)) ?_
   refine dR ?_
   refine aP 6 (by decide +kernel) ?_
   refine bE ?_
   refine cp dC (jS _) ?_
   refine bE ?_
   refine cp dC (jS _) ?_
   refine cp b9 (m9 _ _ (by omega) (by omega)) ?_
   refine eA ?_
   refine aK rfl (fun h41r h41=>?_) (fun h41r h41=>?_)
   ·refine bE ?_
    refine aP 7 (by decide +kernel) ?_
    refine cO ?_
    refine cp b9 (aLv _ _ (by omega) (by omega)) ?_
    refine bE ?_
    refine cp pS (lU _ _ _ (by omega) (by omega) np) ?_
    refine dR ?_
    have E:=w5 (k:=1) (x:=a.num.natAbs*b.den) (y:=b.num.natAbs*a.den) (d:=a.den*b.den) (by omega) (Nat.mul_one _) (Nat.mul_one _) (Nat.mul_one _) (eq_of_beq h41r)
    rw [rS,←eq_of_beq h41r] at E
    rw [E]
    exact dQ [] rfl rfl rfl (aD.csize _) (aJ _) cX (.pure (aD.pure _))
   ·refine dL ?_
    refine cp b9 (qY _ _ (by omega) (by omega)) ?_
    refine cP ?_
    refine aK rfl (fun h52r h52=>?_) (fun h52r h52=>?_)
    ·have hlt:a.num.natAbs*b.den<b.num.natAbs*a.den:=by unfold kD at h52;split at h52;assumption;split at h52<;>omega
     have eSb:=rY (Nat.le_of_lt hlt)
     refine cO ?_
     refine cp b9 (aGr _ _ (by omega) (by omega)) ?_
     refine eA ?_
     refine cp pS (lU _ _ _ (by omega) (by omega) np) ?_
     refine dR ?_
     have E:=aCk (k:=1) (x:=a.num.natAbs*b.den) (y:=b.num.natAbs*a.den) (d:=a.den*b.den) (by omega) (Nat.mul_one _) (Nat.mul_one _) (Nat.mul_one _) (lV h41r) (Nat.le_of_lt hlt)
     rw [rS] at E
     rw [E]
     exact dQ [] rfl rfl rfl (aD.csize _) (aJ _) cX (.pure (aD.pure _))
    ·have hle:b.num.natAbs*a.den≤a.num.natAbs*b.den:=by
      rcases Nat.lt_or_ge (a.num.natAbs*b.den) (b.num.natAbs*a.den) with h | h
      ·rw [hY h] at h52;omega
      ·exact h
     have eSb:=rY hle
     refine dB ?_
     refine cp b9 (aGr _ _ (by omega) (by omega)) ?_
     refine eA ?_
     refine cp pS (lU _ _ _ (by omega) (by omega) np) ?_
     refine cO ?_
     have E:=aCq (k:=1) (x:=a.num.natAbs*b.den) (y:=b.num.natAbs*a.den) (d:=a.den*b.den) (by omega) (Nat.mul_one _) (Nat.mul_one _) (Nat.mul_one _) (lV h41r) hle
     rw [rS] at E
     rw [E]
     exact dQ [] rfl rfl rfl (aD.csize _) (aJ _) cX (.pure (aD.pure _))
open H0 in
theorem nW (a b:Rat) (h:rl a+rl b≤34359738368):aM Tryz.prog 49 [ratL a,ratL b] (ratL (a-b)):=by
 refine dI Tryz.func49 ?_
 refine eC ?_
 refine aP 4 (by decide +kernel) ?_
 refine cY ?_
 refine cp dC (aKJ _) ?_
 refine cp b9 (jI _ _ (by rw [aF2];omega)) ?_
 refine cO ?_
 rw [Rat.sub_eq_add_neg]
 exact dQ [] rfl rfl rfl (aD.csize _) (aJ _) cX (.pure (aD.pure _))
open H0 in
theorem aAc (a b:Rat) (h:rl a+rl b≤34359738368):aM Tryz.prog 50 [ratL a,ratL b] (iL (mD a b)):=by
 have a1:=fO a
 have a2:=f5 a
 have a3:=eO a
 have c1:=fO b
 have c2:=f5 b
 have c3:=eO b
 have a0:=a.den_pos
 have c0:=b.den_pos
 have m1:=cE a1 c2
 have m2:=cE c1 a2
 have m3:=cE a2 c2
 have m4:=cE a1 c1
 have m5:=cE a2 c1
 have m6:=cE c2 a2
 have np:=Nat.mul_pos a0 c0
 refine dI Tryz.func50 ?_
 refine dU ?_
 refine aP 6 (by decide +kernel) ?_
 refine bE ?_
 refine cp dC (aAC _) ?_
 refine bE ?_
 refine cp dC (aAC _) ?_
 refine cV ?_
 refine aK rfl (fun h14r h14=>?_) (fun h14r h14=>?_)
 ·refine eC ?_
  refine aK rfl (fun h17r h17=>?_) (fun h17r h17=>?_)
  ·refine eC ?_
   rw [aD4 h17]
   exact bM rfl (by first | exact .pure rfl | exact .pure (bA _) | exact .pure (aO _) | exact .pure (aD.pure _) | exact .pure (aG cT _ _) | exact .pure (aG aD _ _))
  ·refine dU ?_
   rw [aDF (by omega)]
   exact bM rfl (by first | exact .pure rfl | exact .pure (bA _) | exact .pure (aO _) | exact .pure (aD.pure _) | exact .pure (aG cT _ _) | exact .pure (aG aD _ _))
 ·have hss:mE a=mE b:=by omega
  obtain⟨c,hc⟩:∃ c,c=kD (a.num.natAbs*b.den) (b.num.natAbs*a.den):=⟨_,rfl⟩
  refine cP ?_
  refine aP 12 (by decide +kernel) ?_
  refine cP ?_
  refine cp dC (jS _) ?_
  refine cp b9 (m9 _ _ (by omega) (by omega)) ?_
  refine cP ?_
  refine cp dC (jS _) ?_
  refine cp b9 (m9 _ _ (by omega) (by omega)) ?_
  refine cp b9 (qY _ _ (by omega) (by omega)) ?_
  refine cN ?_
  refine aK rfl (fun h30r h30=>?_) (fun h30r h30=>?_)
  ·refine dU ?_
   rw [sJ hss,if_pos h30,←yU rfl]
   exact bM rfl (by first | exact .pure rfl | exact .pure (bA _) | exact .pure (aO _) | exact .pure (aD.pure _) | exact .pure (aG cT _ _) | exact .pure (aG aD _ _))
  ·refine dU ?_
   rw [sJ hss,if_neg h30]
   exact bM rfl (by first | exact .pure rfl | exact .pure (bA _) | exact .pure (aO _) | exact .pure (aD.pure _) | exact .pure (aG cT _ _) | exact .pure (aG aD _ _))
end Go.Proofs.YtfpdccbgngdhkaaGreat
namespace Go.Lg
open Go.Proofs.YtfpdccbgngdhkaaGreat in
theorem OpP.build0 {P:Program} {H:dA} {ρ:Operand→LV} {T:TypeId} (hT:dY P T [(1,false),(1,false),(1,false)]) (hz:bN P T (.agg [.v (.bool false),.list 1 [],.list 1 []])):OpP P H ρ (.build T #[]) (ratL 0):=by
 rw [eW]
 exact OpP.build (zs:=[.v (.bool false),.list 1 [],.list 1 []]) (ps:=#[]) hT hz (by intro p hp;cases hp)
end Go.Lg
namespace Go.Proofs.YtfpdccbgngdhkaaGreat
open Go.Lg
theorem gW:(default:Rat)=0:=rfl
def stp (t:Rat):List Rat→List Rat
 | x :: y :: r=>((1-t)*x+t*y) :: stp t (y :: r)
 | _=>[]
theorem jG (t:Rat):∀ p:List Rat,(stp t p).length=p.length-1
 | []=>rfl
 | [_]=>rfl
 | x :: y :: r=>by simp [stp,jG t (y :: r)]
theorem rJ (t:Rat):∀ (p:List Rat) (i:Nat),i+1<p.length→(stp t p).getD i 0=(1-t)*p.getD i 0+t*p.getD (i+1) 0
 | [],i,h=>by simp at h
 | [_],i,h=>by simp at h
 | x :: y :: r,0,_=>by simp [stp]
 | x :: y :: r,i+1,h=>by
   have:=rJ t (y :: r) i (by simpa using h)
   simpa [stp] using this
theorem cC {p:List Rat} {i:Nat} (h:i<p.length):p.getD i 0∈p:=by
 rw [List.getD_eq_getElem?_getD,List.getElem?_eq_getElem h];exact List.getElem_mem h
theorem aB3 {p:List Rat} {x:Rat} (h:x∈p):∃ i,i<p.length∧p.getD i 0=x:=by
 obtain⟨i,hi,rfl⟩:=List.getElem_of_mem h
 exact⟨i,hi,by rw [List.getD_eq_getElem?_getD,List.getElem?_eq_getElem hi];rfl⟩
def loF (t:Rat):Nat→List Rat→List Rat
 | 0,_=>[]
 | k+1,p=>p.getD 0 0 :: loF t k (stp t p)
def hiF (t:Rat):Nat→List Rat→List Rat→List Rat
 | 0,q,tl=>q++tl
 | k+1,q,tl=>hiF t k (stp t q) (q.getD k 0 :: tl)
def loP (p:List Rat) (t:Rat):List Rat:=loF t p.length p
def hiP (p:List Rat) (t:Rat):List Rat:=hiF t p.length p []
theorem aAJ (t:Rat):∀ (k:Nat) (p:List Rat),(loF t k p).length=k
 | 0,_=>rfl
 | k+1,p=>by simp [loF,aAJ t k]
theorem aIy (p:List Rat) (t:Rat):(loP p t).length=p.length:=aAJ t _ _
theorem aEp {α:Type} (A B:List α) (x v:α) {n:Nat} (h:n=A.length):(A++x :: B).set n v=A++v :: B:=by subst h;simp
theorem qH {α:Type} (A B:List α) (d:α) {i:Nat} (h:i<A.length):(A++B).getD i d=A.getD i d:=by simp [List.getD_eq_getElem?_getD,List.getElem?_append_left h]
theorem qE {α:Type} (A B:List α) (d:α) {i:Nat} (h:A.length≤i):(A++B).getD i d=B.getD (i-A.length) d:=by simp [List.getD_eq_getElem?_getD,List.getElem?_append_right h]
theorem oL (l:List Rat) (k p:Nat):(l.drop k).getD p 0=l.getD (k+p) 0:=by
 rw [List.getD_eq_getElem?_getD,List.getD_eq_getElem?_getD,List.getElem?_drop]
theorem aIP {t:Rat} {q tl:List Rat} {i:Nat} (h:i+1<q.length) :
  ((stp t q).take i++(q.drop i++tl)).getD i 0=q.getD i 0∧((stp t q).take i++(q.drop i++tl)).getD (i+1) 0=q.getD (i+1) 0:=by
 have hl:((stp t q).take i).length=i:=by rw [List.length_take,jG];omega
 constructor
 ·rw [qE _ _ _ (by omega),hl,Nat.sub_self,qH _ _ _ (by simp;omega),oL,Nat.add_zero]
 ·rw [qE _ _ _ (by omega),hl,qH _ _ _ (by simp;omega),oL];congr 1;omega
theorem aI0 {t:Rat} {q tl:List Rat} {i:Nat} (h:i+1<q.length) :
  ((stp t q).take i++(q.drop i++tl)).set i ((1-t)*q.getD i 0+t*q.getD (i+1) 0)=(stp t q).take (i+1)++(q.drop (i+1)++tl):=by
 have hl:((stp t q).take i).length=i:=by rw [List.length_take,jG];omega
 rw [List.drop_eq_getElem_cons (by omega),List.cons_append,aEp _ _ _ _ hl.symm,←rJ t q i h]
 have hs:i<(stp t q).length:=by rw [jG];omega
 rw [List.take_succ_eq_append_getElem hs,List.append_assoc]
 congr 1
 rw [List.getD_eq_getElem?_getD,List.getElem?_eq_getElem hs]
 simp
theorem aIM {t:Rat} {q tl:List Rat} {k:Nat} (h:q.length=k+1):(stp t q).take k++(q.drop k++tl)=stp t q++(q.getD k 0 :: tl):=by
 rw [List.take_of_length_le (by rw [jG];omega),List.drop_eq_getElem_cons (by omega),List.drop_of_length_le (by omega),List.getD_eq_getElem?_getD,List.getElem?_eq_getElem (by omega)]
 simp
theorem aCM {t:Rat} {q:List Rat} {C M k:Nat} (hC:rl (1-t)+rl t+1≤C) (h:∀ x∈q,(rl x+C)*2 ^ (k+1)≤M):∀ x∈stp t q,(rl x+C)*2 ^ k≤M:=by
 intro x hx
 obtain⟨i,hi,rfl⟩:=aB3 hx
 rw [jG] at hi
 rw [rJ t q i (by omega)]
 have h1:=h _ (cC (p:=q) (i:=i) (by omega))
 have h2:=h _ (cC (p:=q) (i:=i+1) (by omega))
 have e1:=gD ((1-t)*q.getD i 0) (t*q.getD (i+1) 0)
 have e2:=cS (1-t) (q.getD i 0)
 have e3:=cS t (q.getD (i+1) 0)
 rw [Nat.pow_succ] at h1 h2
 have hle:rl ((1-t)*q.getD i 0+t*q.getD (i+1) 0)+C≤(rl (q.getD i 0)+C)+(rl (q.getD (i+1) 0)+C):=by omega
 have:=Nat.mul_le_mul_right (2 ^ k) hle
 have e6:=Nat.add_mul (rl (q.getD i 0)+C) (rl (q.getD (i+1) 0)+C) (2 ^ k)
 have e4:(rl (q.getD i 0)+C)*(2 ^ k*2)=(rl (q.getD i 0)+C)*2 ^ k*2:=by rw [Nat.mul_assoc]
 have e5:(rl (q.getD (i+1) 0)+C)*(2 ^ k*2)=(rl (q.getD (i+1) 0)+C)*2 ^ k*2:=by rw [Nat.mul_assoc]
 omega
theorem aDm {o p:List Rat} {k:Nat} (hk:k<p.length) (hol:o.length=p.length) (ht:o.take k=p.take k):(o.set k (p.getD k 0)).take (k+1)=p.take (k+1):=by
 rw [List.take_succ_eq_append_getElem (by simpa [hol] using hk),List.take_succ_eq_append_getElem hk,List.take_set_of_le (Nat.le_refl _),ht]
 congr 1
 simp [List.getD_eq_getElem?_getD,List.getElem?_eq_getElem hk]
theorem r1r:((1:Int):Rat)=1:=rfl
theorem v4 {x:Rat} {C M k:Nat} (h:(rl x+C)*2 ^ k≤M):rl x+C≤M:=by
 have:1≤2 ^ k:=Nat.pow_pos (by omega)
 exact Nat.le_trans (Nat.le_mul_of_pos_right _ this) h
theorem aHV {p:List Rat} {C:Nat} (hC:1≤C) (h:∀ x∈p,(rl x+C)*2 ^ p.length≤1073741824):p.length≤30:=by
 cases p with
 | nil=>simp
 | cons x r =>
  have h1:=h x (by simp)
  have h2:1*2 ^ (x :: r).length≤(rl x+C)*2 ^ (x :: r).length:=Nat.mul_le_mul_right _ (by omega)
  rcases Nat.lt_or_ge 30 (x :: r).length with h3 | h3
  ·have h4:2 ^ 31≤2 ^ (x :: r).length:=Nat.pow_le_pow_right (by omega) h3
   omega
  ·exact h3
theorem aI8 {t:Rat} {q tl:List Rat} {i:Nat} (h:i<q.length):((stp t q).take i++(q.drop i++tl)).length=q.length+tl.length:=by
 simp [jG];omega
namespace Zq127
theorem dG {p q:Prop} (k:q) (e:p=q:=by simp only [e1,e2,e3,e4,p1,p2,p3,q1,q2,q3,l1,t0,t1,r1,r2,r3,r4,Nat.zero_add,Nat.reduceMul,Nat.reduceAdd,b1,b2,b3,b4,b5,b6,i1,i2,i3,i4,i5,i6,Nat.reduceBEq,gW,Rat.add_zero,aC aD,aS,LV.kill,bB];exact rfl):p:=e.mpr k
end Zq127
open Zq127 in
theorem yW (p:List Rat) (hl:p.length≤1048576) (hpr:∀ x∈p,rl x≤274877906944):f3 Tryz.prog 257 [.list 3 (p.map ratL)] (.ref 1 3 0 p.length) [⟨3,p.map ratL,true⟩]:=by
 refine fnO Tryz.func257 ?_
 refine dU ?_
 refine dD rfl rfl (.mkE (n:=p.length) (m:=p.length) ml ml om om om) ?_
 refine cW ?_
 refine nD (fun(k:Nat) (o:List Rat) L=>(((((St.mk L.slot (hp [(8,⟨3,o.map ratL,true⟩)])).put (some 3) (.ref 8 3 0 p.length)).put (some 9) (.list 3 (p.map ratL))).put (some 10) (aE p.length)).put (some 11) (aE k))) (fun k o=>k≤p.length∧o.length=p.length∧o.take k=p.take k) (fun k o=>p.length-k) 0 (List.replicate p.length 0) ⟨Nat.zero_le _,by simp,rfl⟩ ?_
 rintro k o L1 ⟨hk,hol,ht⟩
 refine dB ?_
 refine aK rfl (fun h12r h12=>?_) (fun h12r h12=>?_)
 ·have hk2:k<p.length:=by omega
  have hrk:=hpr _ (cC hk2)
  refine pP ?_
  refine aB rfl (.build0 tI eH) ?_
  refine cp b9 (lH (p.getD k 0) 0 (by rw [show rl 0=1 from rfl];omega)) ?_
  refine dR ?_
  refine bR (bI.kill _ 5) ?_
  refine cO ?_
  exact lI (k+1) (o.set k (p.getD k 0)) ⟨by omega,by simp [hol],aDm hk2 hol ht⟩
 ·obtain rfl:k=p.length:=by omega
  rw [List.take_length,←hol,List.take_length] at ht
  refine cW ?_
  subst ht
  exact r9 rfl rfl (aH aD _)
namespace Zq130
theorem dG {p q:Prop} (k:q) (e:p=q:=by simp only [e1,e2,e3,e4,p1,p2,p3,q1,q2,q3,l1,t0,t1,r1,r2,r3,r4,Nat.zero_add,Nat.reduceMul,Nat.reduceAdd,b1,b2,b3,b4,b5,b6,i1,i2,i3,i4,i5,i6,Nat.reduceBEq,fW,gW,Rat.add_zero,List.append_nil,List.length_append,r1r,ek,eq0,emg1,emg2,ems,eme,ei1,bJ,cI,bQ,List.length_cons,List.length_nil,aC aD,aS,LV.kill,bB];exact rfl):p:=e.mpr k
end Zq130
open Zq130 in
theorem aHI (p:List Rat) (t:Rat) (cc:Nat) (hC:rl (1-t)+rl t+1≤cc) (hcc:cc≤1073741824) (hs:∀ x∈p,(rl x+cc)*2 ^ p.length≤1073741824):aM Tryz.prog 198 [.list 3 (p.map ratL),ratL t] (.tup [.list 3 ((loP p t).map ratL),.list 3 ((hiP p t).map ratL)]):=by
 have hlen:=aHV (Nat.le_trans (Nat.le_add_left 1 _) hC) hs
 have hpr:∀ x∈p,rl x≤274877906944:=fun x hx=>by have:=v4 (hs x hx);omega
 refine dI Tryz.func198 ?_
 have ek:True:=trivial
 have eq0:True:=trivial
 have emg1:True:=trivial
 have emg2:True:=trivial
 have ems:True:=trivial
 have eme:True:=trivial
 have ei1:True:=trivial
 refine eC ?_
 refine aP 4 (by decide +kernel) ?_
 refine cp dC (rH 1 (by decide) (by decide)) ?_
 refine bE ?_
 refine cp b9 (lK _ _ (by rw [show rl ((1:Int):Rat)=1 from rfl];omega)) ?_
 refine dL ?_
 refine lE [] rfl rfl (.cons (.pure (aG aD _ _)) .nil) (yW p (by omega) hpr) (aH aD _) rfl ?_
 refine dL ?_
 refine dD rfl rfl (.makeM (n:=0) (m:=p.length) aD Tryz.underlying159 Z29 cX lB rfl rfl (by omega) (by omega) (by omega)) ?_
 refine eA ?_
 refine eZ (bI.mv (t:=8) (b:=18) 33 (by decide) (by decide) (by decide) rfl rfl rfl) ?_
 refine lp4 (fun(k:Nat) (q tl lo:List Rat) L=>((((((St.mk L.slot (hp [(3,⟨3,[ratL t],true⟩),(6,⟨3,[ratL (1-t)],true⟩),(1000241,⟨3,(q++tl).map ratL,true⟩),(33,⟨3,lo.map ratL,true⟩)])).put (some 3) (.eptr 3 3 0 0)).put (some 6) (.eptr 6 3 0 0)).put (some 7) (.ref 1000241 3 0 p.length)).put (some 8) (.ref 33 3 0 lo.length)).put (some 9) (iL ((k:Int)-1)))) (fun k q tl lo=>q.length=k∧k+tl.length=p.length∧lo.length+k=p.length∧lo++loF t k q=loP p t∧hiF t k q tl=hiP p t∧∀ x∈q,(rl x+cc)*2 ^ k≤1073741824) (fun k q tl lo=>k) p.length p ([]) ([]) ⟨rfl,by simp,by simp,by simp [loP],rfl,hs⟩ ?_
 rintro k q tl lo L1 ⟨hq,htl,hlo,hL,hH,hsz⟩
 refine dL ?_
 refine aK rfl (fun h23r h23=>?_) (fun h23r h23=>?_)
 ·obtain⟨j,rfl⟩:∃ j,k=j+1:=⟨k-1,by omega⟩
  have ek:(((j+1:Nat):Int)-1)=(j:Int):=by omega
  have eq0:(q++tl).getD 0 0=q.getD 0 0:=qH _ _ _ (by omega)
  have hq0:=v4 (hsz _ (cC (i:=0) (by omega)))
  refine cN ?_
  refine aB rfl (.build0 tI eH) ?_
  simp only [tz0,gW,Nat.zero_add,eq0]
  refine cp b9 (lH _ 0 (by rw [show rl 0=1 from rfl];omega)) ?_
  refine bE ?_
  refine bD rfl (.app (news:=[ratL (q.getD 0 0+0)]) rfl rfl rfl rfl rfl (by simp) (.inl rfl) (by decide) Tryz.underlying159 Tryz.underlying159 eH cX rfl lB (.inl ⟨32,0,_,rfl,by decide,rfl,rfl,by simp,rfl,by simp [aY,aD.pure]⟩) (by simp;omega) (by simp;omega) (by decide)) ?_
  refine cO ?_
  refine bR (bI.kill _ 32) ?_
  refine dR ?_
  refine lX (fun(i:Nat) L=>((((((((St.mk L.slot (hp [(3,⟨3,[ratL t],true⟩),(6,⟨3,[ratL (1-t)],true⟩),(1000241,⟨3,((stp t q).take i++(q.drop i++tl)).map ratL,true⟩),(33,⟨3,(lo++[q.getD 0 0]).map ratL,true⟩)])).put (some 3) (.eptr 3 3 0 0)).put (some 6) (.eptr 6 3 0 0)).put (some 7) (.ref 1000241 3 0 p.length)).put (some 8) (.ref 33 3 0 (lo.length+1))).put (some 9) (aE j)).put (some 34) (aE j)).put (some 35) (aE i))) (fun i=>i≤j) (fun i=>j-i) 0 (Nat.zero_le _) ?_
  rintro i L2 hi
  refine dB ?_
  refine aK rfl (fun h36r h36=>?_) (fun h36r h36=>?_)
  ·have hij:i<j:=by omega
   have ei1:((i:Int)+1).toNat=i+1:=by omega
   obtain⟨emg1,emg2⟩:=aIP (t:=t) (q:=q) (tl:=tl) (i:=i) (by omega)
   have ems:=aI0 (t:=t) (q:=q) (tl:=tl) (i:=i) (by omega)
   have hr1:=v4 (hsz _ (cC (i:=i) (by omega)))
   have hr2:=v4 (hsz _ (cC (i:=i+1) (by omega)))
   have hm1:=cS (1-t) (q.getD i 0)
   have hm2:=cS t (q.getD (i+1) 0)
   have hml:=aI8 (t:=t) (q:=q) (tl:=tl) (i:=i) (by omega)
   refine cN ?_
   refine aP 17 (by decide +kernel) ?_
   refine dL ?_
   simp only [t1,gW,Nat.zero_add,emg1]
   refine cp b9 (fN _ _ (by omega)) ?_
   refine dB ?_
   simp only [ei1,gW,Nat.zero_add,emg2]
   refine cp b9 (fN _ _ (by omega)) ?_
   refine cp b9 (lH _ _ (by omega)) ?_
   refine cN ?_
   exact kE (i+1) (by omega)
  ·obtain rfl:j=i:=by omega
   have eme:=aIM (t:=t) (tl:=tl) hq
   refine cW ?_
   exact nx4 j (stp t q) (q.getD j 0 :: tl) (lo++[q.getD 0 0]) ⟨by rw [jG];omega,by simp;omega,by simp;omega,by rw [List.append_assoc];exact hL,hH,aCM hC hsz⟩
 ·obtain rfl:k=0:=by omega
  obtain rfl:q=[]:=List.eq_nil_of_length_eq_zero hq
  rw [loF,List.append_nil] at hL
  rw [hiF] at hH
  refine gC ?_
  rw [←hL,←hH]
  exact aMq [33,1000241] rfl rfl (cA aD rfl rfl rfl) rfl (cA aD rfl rfl (by simpa using htl.symm))
def fJ (l:List Int) (k:Nat):LV:=.agg [.list 1 (l.map lJ),.v (.int .i64 (k:Nat))]
theorem aR (l:List Int) (k:Nat):aY [fJ l k]=true:=by simp [aY,fJ,LV.pure,aH rE]
theorem aAZ {a b:Int} (h:b≠0):dW .rem .i64 a b=some (.int .i64 (a.tmod b)):=by simp [dW,h]
theorem dfi:(default:Int)=0:=rfl
def lG (l:List Int) (k:Nat) (n:Int):Int:=if k<l.length then l.getD k 0 % n else 0
def iM (l:List Int) (k:Nat):Nat:=if k<l.length then k+1 else k
theorem iO {l:List Int} {k:Nat} {n:Int} (h:0<n):0≤lG l k n∧lG l k n<n:=by
 unfold lG;split
 ·exact⟨Int.emod_nonneg _ (by omega),Int.emod_lt_of_pos _ h⟩
 ·omega
theorem aIO {a m:Int} (hm:0<m):a % m=if a.tmod m<0 then a.tmod m+m else a.tmod m:=by
 have h1:=Int.emod_nonneg a (show m≠0 by omega)
 have h2:=Int.emod_lt_of_pos a hm
 rw [Int.tmod_eq_emod]
 split<;>split<;>omega
theorem sD {P:Program} {L:St} {a:Nat} {T:TypeId} {b sz:Nat} {x y:LV} {m:Bool} {n:Nat} {ag:Bool} {blk:Blk} (h:L.slot a=.eptr b sz 0 0) (hb:L.heap b=some ⟨sz,[x],m⟩)
  (hx:x.csize=sz) (hat:x.at 0 n ag=some x) (hT:cF P T n ag) (hi:Imm L.heap x y) (h0:L.heap 0=some blk) (hm:blk.mt=true) (hp:aY blk.vals=true):aBs P [.cell a T] L y blk :=
 ⟨[x],[y],L.heap,.cons ⟨b,sz,0,0,_,x,n,ag,h,hb,rfl,rfl,hx,hat,hT⟩ .nil,dA.le_refl _,.cons (.imm hi) .nil,h0,hm,hp,rfl⟩
theorem aNz {P:Program} {L:St} {t:Nat} {x y:LV} {blk:Blk} (bs:List Nat) (h0:bs.contains 0=false) (h:L.slot t=x) (hi:Imm (L.frz bs).heap x y) (hb:(L.frz bs).heap 0=some blk) (hm:blk.mt=true) (hp:aY blk.vals=true):aBs P [.tmp t] L y blk :=
 ⟨[x],[y],(L.frz bs).heap,.cons h .nil,kM bs h0,.cons (.imm hi) .nil,hb,hm,hp,rfl⟩
def yB (l:List Int) (k:Nat):Rat × Nat :=
 if lG l (iM l k) 4=3 then(((lG l k 13-6:Int):Rat)/((1+lG l (iM l (iM l k)) 4:Int):Rat),iM l (iM l (iM l k))) else(((lG l k 13-6:Int):Rat),iM l (iM l k))
theorem u7 {n d:Int} (h1:n.natAbs<4294967296) (h2:d.natAbs<4294967296):rl ((n:Rat)/(d:Rat))≤1:=by
 rw [←zS]
 have:=aAU (k:=1) (decide (n<0) != decide (d<0)) (by simpa using h1) (by simpa using h2)
 omega
theorem lN {n:Int} (h1:n.natAbs<4294967296):rl (n:Rat)≤1:=by
 have:=u7 (n:=n) (d:=1) h1 (by decide)
 rwa [show ((1:Int):Rat)=1 from rfl,Rat.div_def,show (1:Rat)⁻¹=1 by grind,Rat.mul_one] at this
theorem aHb (l:List Int) (k:Nat):rl (yB l k).1≤1:=by
 have h1:=iO (l:=l) (k:=k) (n:=13) (by decide)
 have h2:=iO (l:=l) (k:=iM l (iM l k)) (n:=4) (by decide)
 unfold yB;split
 ·exact u7 (by omega) (by omega)
 ·exact lN (by omega)
theorem aIp {P:Program} {L:St} {t b sz:Nat} {blk:Blk} (h:L.slot t=.eptr b sz 0 0) (hb:L.heap b=some blk) (hp:aY blk.vals=true):oX P [.tmp t] L (.eptr 1 sz 0 0) [blk] :=
 ⟨[.eptr b sz 0 0],[.eptr 1 sz 0 0],L.heap,[b],.cons h .nil,dA.le_refl _,.cons (.ptr (k:=0) rfl) .nil,by simp,rfl,fun k c hk=>by
  cases k with
  | zero=>simp at hk;subst hk;exact⟨blk,hb,rfl,hp⟩
  | succ k=>simp at hk,rfl⟩
theorem iB {l:List Int} {k:Nat} (hl:l.length≤500) (hk:k≤500):iM l k≤500:=by unfold iM;split<;>omega
theorem vY {l:List Int} {k:Nat} (hl:l.length≤500) (hk:k≤500):(yB l k).2≤500:=by
 have h1:=iB (l:=l) hl hk
 have h2:=iB (l:=l) hl h1
 unfold yB;split
 ·exact iB hl h2
 ·exact h2
theorem kX (l:List Int) (k b:Nat):(fJ l k).kill b=fJ l k:=LV.kill_pure b _ (by simp [fJ,LV.pure,aY,aH rE])
open H0 in
theorem aGo (n m:Int) (hm:0<m) (hm2:m≤4611686018427387904):aM Tryz.prog 23 [iL n,iL m] (iL (n % m)):=by
 have hE:=aIO (a:=n) hm
 have hb:=Int.tmod_lt_of_pos n hm
 have hb2:=Int.lt_tmod_of_pos n hm
 refine dI Tryz.func23 ?_
 refine dU ?_
 refine aB rfl (.bin rfl rfl (aAZ (by omega))) ?_
 refine cN ?_
 refine eB (fun L=>∃ (r:Int) (L1:St),(r=n % m)∧L=((St.mk L1.slot (hp [])).put (some 0) (iL r))) ?_ ?_
 ·refine aK rfl (fun h9r h9=>?_) (fun h9r h9=>?_)
  ·refine cP ?_
   refine aB rfl (.bin rfl rfl (iS (by omega) (by omega))) ?_
   refine cP ?_
   exact⟨n.tmod m+m,_,by rw [hE,if_pos h9],((aA (bC cl) cl)).symm⟩
  ·refine cY ?_
   exact⟨n.tmod m,_,by rw [hE,if_neg h9],((aA (bC cl) cl)).symm⟩
 ·rintro _ ⟨r,LC9,hr,rfl⟩
  refine eC ?_
  rw [←hr]
  exact bM rfl (by first | exact .pure rfl | exact .pure (bA _) | exact .pure (aO _) | exact .pure (aD.pure _) | exact .pure (aG cT _ _) | exact .pure (aG aD _ _))
open H0 in
theorem aIm (l:List Int) (h:l.length≤9223372036854775807):aM Tryz.prog 7 [.list 1 (l.map lJ)] (bL (decide (l.length≤500))):=by
 refine dI Tryz.func7 ?_
 refine gC ?_
 refine bM (x:=.v (.bool (decide (((l.length:Nat):Int)≤500)))) rfl ?_
 rw [show decide (((l.length:Nat):Int)≤500)=decide (l.length≤500) by rw [decide_eq_decide];omega]
 exact .pure rfl
open H0 in
theorem aFX (l:List Int):f3 Tryz.prog 9 [.list 1 (l.map lJ)] (.eptr 1 2 0 0) [⟨2,[fJ l 0],true⟩]:=by
 refine fnO Tryz.func9 ?_
 refine eC ?_
 refine aB rfl (.build (zs:=[.v (.slice none 0 0),.v (.int .i64 0)]) aMJ Z95 (by simp only [List.forall_mem_cons];exact⟨⟨_,rfl,rfl,uR⟩,fun _ h=>by cases h⟩)) ?_
 refine dD rfl rfl (.box uR) ?_
 refine cO ?_
 exact aIp rfl rfl (aR l 0)
namespace Zq80
theorem dG {p q:Prop} (k:q) (e:p=q:=by simp only [e1,e2,e3,e4,p1,p2,p3,q1,q2,q3,l1,t0,t1,r1,r2,r3,r4,Nat.zero_add,Nat.reduceMul,Nat.reduceAdd,b1,b2,b3,b4,b5,b6,i1,i2,i3,i4,i5,i6,Nat.reduceBEq,l1,ek1,dfi];exact rfl):p:=e.mpr k
end Zq80
open Zq80 in
theorem iF (l:List Int) (k:Nat) (n:Int) (hl:l.length≤500) (hk:k≤500) (hn:0<n) (hn2:n≤1000):gH Tryz.prog 56 ⟨2,[fJ l k],true⟩ [.eptr 0 2 0 0,iL n] (iL (lG l k n)) ⟨2,[fJ l (iM l k)],true⟩:=by
 refine fnM Tryz.func56 ?_
 have ek1:True:=trivial
 refine dL ?_
 refine aP 10 (by decide +kernel) ?_
 refine cW ?_
 refine aK rfl (fun h14r h14=>?_) (fun h14r h14=>?_)
 ·have hk1:¬ k<l.length:=by omega
  refine dL ?_
  rw [lG,if_neg hk1,iM,if_neg hk1]
  exact oM rfl (.imm (.pure rfl)) rfl rfl (aR l _)
 ·have hk1:k<l.length:=by omega
  have ek1:(((k+1:Nat):Int)-1).toNat=k:=by omega
  refine cV ?_
  refine bD rfl (.store (y:=fJ l k) (y':=fJ l (k+1)) rfl rfl rfl rfl rfl rfl rfl T3 uR) ?_
  refine cP ?_
  refine aP 14 (by decide +kernel) ?_
  refine eC ?_
  refine aB rfl (.bin rfl rfl (iK (by first | omega | (simp;omega)) (by first | omega | (simp;omega)))) ?_
  refine cP ?_
  refine cp b9 (aGo _ _ (by omega) (by omega)) ?_
  refine cO ?_
  rw [lG,if_pos hk1,iM,if_pos hk1]
  exact oM rfl (.imm (.pure rfl)) rfl rfl (aR l _)
namespace Zq133
theorem dG {p q:Prop} (k:q) (e:p=q:=by simp only [e1,e2,e3,e4,p1,p2,p3,q1,q2,q3,l1,t0,t1,r1,r2,r3,r4,Nat.zero_add,Nat.reduceMul,Nat.reduceAdd,b1,b2,b3,b4,b5,b6,i1,i2,i3,i4,i5,i6,Nat.reduceBEq,l1];exact rfl):p:=e.mpr k
end Zq133
open Zq133 in
theorem xH (l:List Int) (k:Nat) (hl:l.length≤500) (hk:k≤500):gH Tryz.prog 124 ⟨2,[fJ l k],true⟩ [.eptr 0 2 0 0] (ratL (yB l k).1) ⟨2,[fJ l (yB l k).2],true⟩:=by
 have k1:=iB (l:=l) hl hk
 have k2:=iB (l:=l) hl k1
 have hb1:=iO (l:=l) (k:=k) (n:=13) (by decide)
 have hb2:=iO (l:=l) (k:=iM l (iM l k)) (n:=4) (by decide)
 refine fnM Tryz.func124 ?_
 refine eC ?_
 refine lF 0 rfl rfl rfl (aR l _) (.cons .ptr (.cons (.imm (.pure rfl)) .nil)) .ptr (iF l k 13 (by omega) (by omega) (by decide) (by decide)) rfl (aR l _) ?_
 refine dL ?_
 refine lF 0 rfl rfl rfl (aR l _) (.cons .ptr (.cons (.imm (.pure rfl)) .nil)) .ptr (iF l (iM l k) 4 (by omega) (by omega) (by decide) (by decide)) rfl (aR l _) ?_
 refine cP ?_
 refine aK rfl (fun h8r h8=>?_) (fun h8r h8=>?_)
 ·refine cP ?_
  refine aB rfl (.bin rfl rfl (iK (by omega) (by omega))) ?_
  refine bE ?_
  refine lF 0 rfl rfl rfl (aR l _) (.cons .ptr (.cons (.imm (.pure rfl)) .nil)) .ptr (iF l (iM l (iM l k)) 4 (by omega) (by omega) (by decide) (by decide)) rfl (aR l _) ?_
  refine aB rfl (.bin rfl rfl (iS (by omega) (by omega))) ?_
  refine cp b9 (kK (lG l k 13-6) (1+lG l (iM l (iM l k)) 4) (by omega) (by omega) (by omega) (by omega) (by omega)) ?_
  refine dR ?_
  rw [yB,if_pos h8]
  exact sD rfl rfl (aD.csize _) (aJ _) cX (.pure (aD.pure _)) rfl rfl (aR l _)
 ·refine dR ?_
  refine aB rfl (.bin rfl rfl (iK (by omega) (by omega))) ?_
  refine cp dC (jE (lG l k 13-6) (by omega) (by omega)) ?_
  refine cO ?_
  rw [yB,if_neg h8]
  exact sD rfl rfl (aD.csize _) (aJ _) cX (.pure (aD.pure _)) rfl rfl (aR l _)
theorem aBZ (q:Rat):jA q≠1:=by rw [jP];split<;>omega
theorem yX (n:Nat) (h:(a7 n).length≤4611686018427387904):aM Tryz.prog 223 [bW n] (bL true):=by
 have:=aHR (a7 n) h
 rwa [decide_eq_true] at this
 by_cases h0:(a7 n).length=0
 ·exact .inl h0
 ·exact .inr (kB (qG n) (by omega))
theorem x7 (n:Nat) (h:(a7 n).length≤4611686018427387904):aM Tryz.prog 231 [bW n] (bL true):=by
 have:=aG5 (a7 n) h
 rwa [decide_eq_true] at this
 by_cases h0:(a7 n).length=0
 ·exact .inl h0
 ·exact .inr (kB (qG n) (by omega))
theorem aMO {q:Rat} (h:0<(a7 (jA q)).length):Nat.gcd q.num.natAbs (jA q)=1:=by
 rw [pJ h];exact q.reduced
theorem aMN (q:Rat):Nat.gcd q.num.natAbs q.den=1:=q.reduced
def u8L (n:Nat):LV:=.v (.int .u8 (n:Nat))
theorem u8E:EncOK u8L 1 false:=⟨fun _=>rfl,fun _=>rfl,fun _=>rfl⟩
end Go.Proofs.YtfpdccbgngdhkaaGreat
namespace Go.Lg
open Go.Proofs.YtfpdccbgngdhkaaGreat in
theorem OpP.cv8 {P:Program} {H:dA} {ρ:Operand→LV} {S T:TypeId} {x:Operand} {d:TypeDesc} {k':IntKind} {n:Nat} (hS:P.underlying S=some d) (hD:P.underlying T=some (.int .u8)) (hx:ρ x=.v (.int k' (n:Nat))) (h:n<256) :
  OpP P H ρ (.convert S T x) (u8L n):=by
 have:=OpP.conv (H:=H) hS hD hx
 rwa [IntKind.wrap_u8,show ((n:Nat):Int) % 256=(n:Int) by omega] at this
end Go.Lg
namespace Go.Proofs.YtfpdccbgngdhkaaGreat
open Go.Lg
theorem aNt {a b:Nat} (h:0<b):dW .rem .u32 (a:Nat) (b:Nat)=some (.int .u32 ((a % b:Nat):Int)):=by
 have e:((a:Int)).tmod b=((a % b:Nat):Int):=by rw [Int.tmod_eq_emod_of_nonneg (by omega)];simp
 simp [dW,e];omega
theorem aNk {a b:Nat} (h:0<b) (h1:a<4294967296):dW .quo .u32 (a:Nat) (b:Nat)=some (.int .u32 ((a/b:Nat):Int)):=by
 have e:((a:Int)).tdiv b=((a/b:Nat):Int):=by rw [Int.tdiv_eq_ediv_of_nonneg (by omega)];simp
 have:=Nat.div_le_self a b
 simp only [dW,if_neg (show ¬ ((b:Nat):Int)=0 by omega),e]
 rw [IntKind.wrap_u32]
 generalize a/b=x at *
 congr 2;omega
theorem m10 {m:Nat} (h:m<10):(48+m % 10) % 4294967296=48+m:=by
 rw [Nat.mod_eq_of_lt h,Nat.mod_eq_of_lt (Nat.lt_of_lt_of_le (Nat.add_lt_add_left h 48) (by decide))]
namespace Zq102
theorem dG {p q:Prop} (k:q) (e:p=q:=by simp only [e1,e2,e3,e4,p1,p2,p3,q1,q2,q3,l1,t0,t1,r1,r2,r3,r4,Nat.zero_add,Nat.reduceMul,Nat.reduceAdd,b1,b2,b3,b4,b5,b6,i1,i2,i3,i4,i5,i6,Nat.reduceBEq,aV,fC,tz0];exact rfl):p:=e.mpr k
end Zq102
open Zq102 in
theorem aGv (q:Rat) (h:rl q≤1099511627776):aM Tryz.prog 158 [ratL q] (bL true):=by
 have a1:=fO q
 have a2:=f5 q
 have a3:=eO q
 have hne:=aBZ q
 refine dI Tryz.func158 ?_
 refine cV ?_
 refine cp dC (yX _ (by omega)) ?_
 refine cO ?_
 refine cp dC (yX _ (by omega)) ?_
 refine eC ?_
 refine dJ 18 rfl (fun h18r h18=>?_) (fun h18r h18=>?_)
 ·refine dU ?_
  refine aK rfl (fun h25r h25=>?_) (fun h25r h25=>?_)
  ·exfalso
   have:=(lR (n:=jA q) (by omega)).1
   omega
  ·refine cV ?_
   refine aK rfl (fun h29r h29=>?_) (fun h29r h29=>?_)
   ·refine dB ?_
    refine dJ 33 rfl (fun h33r h33=>?_) (fun h33r h33=>?_)
    ·have hz:=xY (q:=q) (by omega)
     subst hz
     refine cN ?_
     exact bM rfl (by first | exact .pure rfl | exact .pure (bA _) | exact .pure (aO _) | exact .pure (aD.pure _) | exact .pure (aG cT _ _) | exact .pure (aG aD _ _))
    ·exfalso
     have hz:=xY (q:=q) (by omega)
     subst hz
     revert h33r
     decide
   ·refine dU ?_
    refine dJ 43 rfl (fun h43r h43=>?_) (fun h43r h43=>?_)
    ·refine dR ?_
     first | simp only [aV,hg1] | skip
     refine dL ?_
     exact bM rfl (by first | exact .pure rfl | exact .pure (bA _) | exact .pure (aO _) | exact .pure (aD.pure _) | exact .pure (aG cT _ _) | exact .pure (aG aD _ _))
    ·have hg1:=aMO (q:=q) (by omega)
     refine cO ?_
     refine cp b9 (aDj _ _ (aX _) (aX _) (by omega) (by omega)) ?_
     first | simp only [aV,hg1] | skip
     refine cp dC (mH (a7 1) (aX _) (by decide)) ?_
     refine dB ?_
     exact bM rfl (by first | exact .pure rfl | exact .pure (bA _) | exact .pure (aO _) | exact .pure (aD.pure _) | exact .pure (aG cT _ _) | exact .pure (aG aD _ _))
 ·refine aC8 ?_
  refine aK rfl (fun h29r h29=>?_) (fun h29r h29=>?_)
  ·refine dB ?_
   refine dJ 33 rfl (fun h33r h33=>?_) (fun h33r h33=>?_)
   ·have hz:=xY (q:=q) (by omega)
    subst hz
    refine cN ?_
    exact bM rfl (by first | exact .pure rfl | exact .pure (bA _) | exact .pure (aO _) | exact .pure (aD.pure _) | exact .pure (aG cT _ _) | exact .pure (aG aD _ _))
   ·exfalso
    have hz:=xY (q:=q) (by omega)
    subst hz
    revert h33r
    decide
  ·refine dU ?_
   refine dJ 43 rfl (fun h43r h43=>?_) (fun h43r h43=>?_)
   ·refine dR ?_
    first | simp only [aV,hg1] | skip
    refine dL ?_
    exact bM rfl (by first | exact .pure rfl | exact .pure (bA _) | exact .pure (aO _) | exact .pure (aD.pure _) | exact .pure (aG cT _ _) | exact .pure (aG aD _ _))
   ·have hg1:=aMO (q:=q) (by omega)
    refine cO ?_
    refine cp b9 (aDj _ _ (aX _) (aX _) (by omega) (by omega)) ?_
    first | simp only [aV,hg1] | skip
    refine cp dC (mH (a7 1) (aX _) (by decide)) ?_
    refine dB ?_
    exact bM rfl (by first | exact .pure rfl | exact .pure (bA _) | exact .pure (aO _) | exact .pure (aD.pure _) | exact .pure (aG cT _ _) | exact .pure (aG aD _ _))
namespace Zq43
theorem dG {p q:Prop} (k:q) (e:p=q:=by simp only [e1,e2,e3,e4,p1,p2,p3,q1,q2,q3,l1,t0,t1,r1,r2,r3,r4,Nat.zero_add,Nat.reduceMul,Nat.reduceAdd,b1,b2,b3,b4,b5,b6,i1,i2,i3,i4,i5,i6,Nat.reduceBEq,aV,fC,tz0,hdv,hmd,m10 h10,hm100,bJ,cI,bQ,List.length_cons,List.length_nil,List.nil_append,aC u8E,LV.kill,ei0,List.map_cons,List.map_nil,List.length_map];exact rfl):p:=e.mpr k
end Zq43
open Zq43 in
theorem aBF (m:Nat) (h0:0<m) (h10:m<10):aM Tryz.prog 123 [bW m] (.v (.string ⟨#[UInt8.ofNat (48+m)]⟩)):=by
 have hd:=kA h0 (by omega:m<4294967296)
 have hl:(a7 m).length=1:=by rw [hd];rfl
 have hdv:m/1000000000=0:=by omega
 have hmd:m % 1000000000=m:=by omega
 have hm100:m/10=0:=by omega
 refine dI Tryz.func123 ?_
 have ei0:True:=trivial
 refine eA ?_
 refine aK rfl (fun h11r h11=>?_) (fun h11r h11=>?_)
 ·omega
 ·refine dU ?_
  refine eZ (bI.own (t:=3) 39 1 rfl rfl) ?_
  refine nD (fun(a:Nat) (o:List Nat) L=>(((St.mk L.slot (hp [(39,⟨1,o.map u8L,true⟩)])).put (some 0) (bW a)).put (some 3) (.ref 39 1 0 o.length))) (fun a o=>(m=a∧o=[])∨(a=0∧o=[48+m])) (fun a o=>a) m ([]) (.inl ⟨rfl,rfl⟩) ?_
  rintro a o L1 hao
  refine eC ?_
  refine aK rfl (fun h14r h14=>?_) (fun h14r h14=>?_)
  ·have hao2:m=a∧o=[]:=by
    rcases hao with h | h
    ·exact h
    ·rw [h.1] at h14;exact absurd h14 (by decide)
   obtain⟨rfl,rfl⟩:=hao2
   refine dB ?_
   refine cp b9 (y9 m 1000000000 (by omega) (by omega) (by omega)) ?_
   refine gC ?_
   refine lp3 (fun(i r:Nat) (o2:List Nat) L=>((((((St.mk L.slot (hp [(39,⟨1,o2.map u8L,true⟩)])).put (some 0) (bW m)).put (some 3) (.ref 39 1 0 o2.length)).put (some 4) (bW 0)).put (some 5) (oG r)).put (some 6) (aE i))) (fun i r o2=>(i=0∧m=r∧o2=[])∨(i=1∧r=0∧o2=[48+m])) (fun i r o2=>r) 0 m ([]) (.inl ⟨rfl,rfl,rfl⟩) ?_
   rintro i r o2 L2 hio
   refine cY ?_
   refine eB (fun L=>∃ (t:Bool) (L1:St),(t=decide (0<r))∧L=(((((((St.mk L1.slot (hp [(39,⟨1,o2.map u8L,true⟩)])).put (some 0) (bW m)).put (some 3) (.ref 39 1 0 o2.length)).put (some 4) (bW 0)).put (some 5) (oG r)).put (some 6) (aE i)).put (some 30) (bL t))) ?_ ?_
   ·refine cO ?_
    refine dJ 22 rfl (fun h22r h22=>?_) (fun h22r h22=>?_)
    ·refine cP ?_
     refine dJ 25 rfl (fun h25r h25=>?_) (fun h25r h25=>?_)
     ·refine dL ?_
      exact⟨true,_,by symm;rw [decide_eq_true_iff];omega,((aA (aA (aA (aA (aA (aA (bC cl) cl) cl) cl) cl) cl) cl)).symm⟩
     ·refine dL ?_
      exact⟨false,_,by symm;rw [decide_eq_false_iff_not];omega,((aA (aA (aA (aA (aA (aA (bC cl) cl) cl) cl) cl) cl) cl)).symm⟩
    ·exfalso
     omega
   ·rintro _ ⟨t,LR7,ht,rfl⟩
    refine bE ?_
    refine aK rfl (fun h30r h30=>?_) (fun h30r h30=>?_)
    ·rw [ht,decide_eq_true_iff] at h30r
     have hio2:i=0∧m=r∧o2=[]:=by
      rcases hio with h | h
      ·exact h
      ·omega
     obtain⟨rfl,rfl,rfl⟩:=hio2
     refine eC ?_
     refine aB rfl (.bin rfl rfl (aNt (b:=10) (by decide))) ?_
     refine aB rfl (.bin rfl rfl (aGe)) ?_
     refine aB rfl (.cv8 (n:=48+m) Tryz.underlying182 Tryz.underlying5 (by simp only [e1,p1,p2,Nat.reduceBEq,m10 h10];rfl) (by omega)) ?_
     refine dD rfl rfl (.lit1 u8E Tryz.underlying197 Z5 T5 rfl (by decide) (by decide)) ?_
     refine bD rfl (.app (news:=[u8L (48+m)]) rfl rfl rfl rfl rfl (by simp) (.inl rfl) (by decide) Tryz.underlying197 Tryz.underlying197 Z5 T5 rfl B5 (.inl ⟨38,0,_,rfl,by decide,rfl,rfl,by simp,rfl,rfl⟩) (by simp) (by simp) (by decide)) ?_
     refine dR ?_
     refine aB rfl (.bin rfl rfl (aNk (b:=10) (by decide) (by omega))) ?_
     refine cO ?_
     refine bR (bI.kill _ 38) ?_
     refine dR ?_
     exact nx3 1 0 ([48+m]) (.inr ⟨rfl,rfl,rfl⟩) (hm:=h0)
    ·rw [ht,decide_eq_false_iff_not] at h30r
     have hio2:i=1∧r=0∧o2=[48+m]:=by
      rcases hio with h | h
      ·omega
      ·exact h
     obtain⟨rfl,rfl,rfl⟩:=hio2
     refine cV ?_
     exact lI 0 ([48+m]) (.inr ⟨rfl,rfl⟩) (hm:=h0)
  ·have hao2:a=0∧o=[48+m]:=by
    rcases hao with h | h
    ·rw [←h.1] at h14;omega
    ·exact h
   obtain⟨rfl,rfl⟩:=hao2
   refine dU ?_
   refine dD rfl rfl (.makeM (n:=1) (m:=1) u8E Tryz.underlying197 Z5 T5 B5 ml ml om om om) ?_
   refine cN ?_
   refine nD (fun(i:Nat) (w:List Nat) L=>((((St.mk L.slot (hp [(39,⟨1,[48+m].map u8L,true⟩),(45,⟨1,w.map u8L,true⟩)])).put (some 3) (.ref 39 1 0 1)).put (some 7) (.ref 45 1 0 1)).put (some 8) (aE i))) (fun i w=>(i=0∧w=[0])∨(i=1∧w=[48+m])) (fun i w=>1-i) 0 ([0]) (.inl ⟨rfl,rfl⟩) ?_
   rintro i w L3 hiw
   refine dU ?_
   refine aK rfl (fun h49r h49=>?_) (fun h49r h49=>?_)
   ·have hiw2:i=0∧w=[0]:=by
     rcases hiw with h | h
     ·exact h
     ·omega
    obtain⟨rfl,rfl⟩:=hiw2
    have ei0:((1:Int)-1-0).toNat=0:=rfl
    refine eA ?_
    refine aB rfl ixA ?_
    refine aB rfl kS ?_
    refine aB rfl ixA ?_
    refine bD rfl (by exact .storeM u8E rfl rfl rfl T5 om) ?_
    refine dU ?_
    exact lI 1 ([48+m]) (.inr ⟨rfl,rfl⟩)
   ·have hiw2:i=1∧w=[48+m]:=by
     rcases hiw with h | h
     ·omega
     ·exact h
    obtain⟨rfl,rfl⟩:=hiw2
    refine eC ?_
    refine aB rfl (.strR (ns:=[48+m]) Tryz.underlying197 Tryz.underlying5 Tryz.underlying9 rfl rfl rfl rfl (by simp)) ?_
    refine cO ?_
    exact bM rfl (.pure rfl)
namespace Zq42
theorem dG {p q:Prop} (k:q) (e:p=q:=by simp only [e1,e2,e3,e4,p1,p2,p3,q1,q2,q3,l1,t0,t1,r1,r2,r3,r4,Nat.zero_add,Nat.reduceMul,Nat.reduceAdd,b1,b2,b3,b4,b5,b6,i1,i2,i3,i4,i5,i6,Nat.reduceBEq,edd];exact rfl):p:=e.mpr k
end Zq42
open Zq42 in
theorem aIo (q:Rat) (h0:0<q) (hn:q.num.natAbs<10) (hd:q.den<10):aM Tryz.prog 54 [ratL q] (.v (.string (if q.den=1 then⟨#[UInt8.ofNat (48+q.num.natAbs)]⟩ else⟨#[UInt8.ofNat (48+q.num.natAbs),47,UInt8.ofNat (48+q.den)]⟩))):=by
 have hq0:0<q.num.natAbs:=by have:=aEl.1 h0;omega
 have hnn:¬ q<0:=by grind
 have hdp:=q.den_pos
 refine dI Tryz.func54 ?_
 have edd:True:=trivial
 refine cN ?_
 refine cp dC (aBF _ (by omega) (by omega)) ?_
 refine cN ?_
 refine aK rfl (fun h8r h8=>?_) (fun h8r h8=>?_)
 ·exact absurd h8 hnn
 ·refine cV ?_
  refine aK rfl (fun h14r h14=>?_) (fun h14r h14=>?_)
  ·have edd:=pJ (q:=q) (by omega)
   have hd1:q.den≠1:=fun e=>by have:=jP q;rw [if_pos e] at this;omega
   refine cO ?_
   simp only [edd]
   refine cp dC (aBF _ (by omega) (by omega)) ?_
   refine aB rfl (.addS rfl rfl (Nat.le_of_ble_eq_true rfl)) ?_
   refine aB rfl (.addS rfl rfl (Nat.le_of_ble_eq_true rfl)) ?_
   refine cN ?_
   rw [if_neg hd1]
   exact bM rfl (.pure rfl)
  ·have hd1:=qC (q:=q) (by omega)
   refine dU ?_
   rw [if_pos hd1]
   exact bM rfl (.pure rfl)
def HS (p:List Rat) (t:Rat):Prop:=∃ cc,rl (1-t)+rl t+1≤cc∧cc≤1073741824∧∀ x∈p,(rl x+cc)*2 ^ p.length≤1073741824
theorem aEt (p:List Rat) (t:Rat) (h:HS p t):aM Tryz.prog 198 [.list 3 (p.map ratL),ratL t] (.tup [.list 3 ((loP p t).map ratL),.list 3 ((hiP p t).map ratL)]):=by
 obtain⟨cc,h1,h2,h3⟩:=h
 exact aHI p t cc h1 h2 h3
theorem HS.len {p:List Rat} {t:Rat} (h:HS p t):p.length≤30:=by
 obtain⟨cc,h1,h2,h3⟩:=h
 exact aHV (Nat.le_trans (Nat.le_add_left 1 _) h1) h3
theorem HS.rl {p:List Rat} {t:Rat} (h:HS p t):rl t≤1073741824∧∀ x∈p,Go.Lg.rl x≤1073741824:=by
 obtain⟨cc,h1,h2,h3⟩:=h
 exact⟨by omega,fun x hx=>by have:=v4 (h3 x hx);omega⟩
def evP (p:List Rat) (t:Rat):Rat:=(loP p t).getD (p.length-1) 0
theorem pC (o:List Rat) (i x:Nat) (v:Rat) (hi:i<o.length):(o.set i v).getD x 0=if x=i then v else o.getD x 0:=by
 rw [List.getD_eq_getElem?_getD,List.getD_eq_getElem?_getD,List.getElem?_set]
 by_cases h:i=x
 ·subst h;simp [hi]
 ·rw [if_neg h,if_neg (fun e=>h e.symm)]
namespace Zq2
theorem dG {p q:Prop} (k:q) (e:p=q:=by simp only [e1,e2,e3,e4,p1,p2,p3,q1,q2,q3,l1,t0,t1,r1,r2,r3,r4,Nat.zero_add,Nat.reduceMul,Nat.reduceAdd,b1,b2,b3,b4,b5,b6,i1,i2,i3,i4,i5,i6,Nat.reduceBEq,gW,ej,hll];exact rfl):p:=e.mpr k
end Zq2
open Zq2 in
theorem aDB (p:List Rat) (t:Rat) (h:HS p t) (hp0:0<p.length):aM Tryz.prog 131 [.list 3 (p.map ratL),ratL t] (ratL (evP p t)):=by
 have hll:=aIy p t
 have hlen:=h.len
 have hj:(((p.length:Nat):Int)-1).toNat=p.length-1:=by omega
 refine dI Tryz.func131 ?_
 have ej:True:=trivial
 refine gC ?_
 refine aK rfl (fun h9r h9=>?_) (fun h9r h9=>?_)
 ·omega
 ·refine dB ?_
  refine cp b9 (aEt _ _ (by assumption)) ?_
  refine cW ?_
  refine aB rfl (.bin rfl rfl (iG (by omega) (by omega))) ?_
  refine dB ?_
  rw [evP]
  exact dQ [] rfl rfl rfl (aD.csize _) (aJ _) cX (.pure (aD.pure _))
def k5:Nat→Nat→Nat
 | _,0=>1
 | 0,_+1=>0
 | n+1,k+1=>k5 n k+k5 n (k+1)
theorem vG:∀ {n k:Nat},n<k→k5 n k=0
 | 0,k+1,_=>rfl
 | n+1,k+1,h=>by rw [k5,vG (by omega),vG (by omega)]
theorem aBe:∀ n,k5 n n=1
 | 0=>rfl
 | n+1=>by rw [k5,aBe n,vG (by omega)]
theorem wI (n:Nat):k5 n 0=1:=by cases n<;>rfl
theorem aC0:∀ n k,k5 n k≤2 ^ n
 | n,0=>by rw [wI];exact Nat.pow_pos (by omega)
 | 0,k+1=>by simp [k5]
 | n+1,k+1=>by
   have h1:=aC0 n k
   have h2:=aC0 n (k+1)
   rw [k5,Nat.pow_succ];omega
theorem q8 {n:Nat} (k:Nat) (h:n≤40):k5 n k≤1099511627776:=Nat.le_trans (aC0 n k) (Nat.pow_le_pow_right (n:=2) (by omega) h)
def nR (n:Nat):List Int:=(List.range (n+1)).map fun x=>(k5 n x:Int)
def chR (n:Nat):List Rat:=(List.range (n+1)).map fun x=>((k5 n x:Int):Rat)
theorem iD (n:Nat):(nR n).length=n+1:=by simp [nR]
theorem aAs (n:Nat):(chR n).length=n+1:=by simp [chR]
theorem nK {n x:Nat} (h:x≤n):(nR n).getD x 0=(k5 n x:Int):=by
 rw [List.getD_eq_getElem?_getD,List.getElem?_eq_getElem (by rw [iD];omega)];simp [nR]
theorem aDM {n x:Nat} (h:x≤n):(chR n).getD x 0=((k5 n x:Int):Rat):=by
 rw [List.getD_eq_getElem?_getD,List.getElem?_eq_getElem (by rw [aAs];omega)];simp [chR]
theorem aN8 {p q:List Int} (hl:p.length=q.length) (h:∀ i,i<p.length→p.getD i 0=q.getD i 0):p=q:=by
 apply List.ext_getElem hl
 intro i h1 h2
 have:=h i h1
 rw [List.getD_eq_getElem?_getD,List.getD_eq_getElem?_getD,List.getElem?_eq_getElem h1,List.getElem?_eq_getElem h2] at this
 exact this
theorem aH2 (o:List Int) (i x:Nat) (v:Int) (hi:i<o.length):(o.set i v).getD x 0=if x=i then v else o.getD x 0:=by
 rw [List.getD_eq_getElem?_getD,List.getD_eq_getElem?_getD,List.getElem?_set]
 by_cases h:i=x
 ·subst h;simp [hi]
 ·rw [if_neg h,if_neg (fun e=>h e.symm)]
def aEG (k i:Nat) (o:List Int):Prop:=o.length=k+2∧∀ x,x<k+2→o.getD x 0=if i<x∧x≤k then(k5 (k+1) x:Int) else if x≤k then(k5 k x:Int) else 1
theorem aHN (k:Nat):aEG k k (nR k++[1]):=by
 refine⟨by simp [iD],fun x hx=>?_⟩
 rw [if_neg (by omega)]
 by_cases h:x≤k
 ·rw [if_pos h,qH _ _ _ (by rw [iD];omega),nK h]
 ·rw [if_neg h,qE _ _ _ (by rw [iD];omega),iD,show x-(k+1)=0 by omega];rfl
theorem aGm {k i:Nat} {o:List Int} (h:aEG k (i+1) o) (hi:i+1≤k):aEG k i (o.set (i+1) (o.getD (i+1) 0+o.getD i 0)):=by
 obtain⟨h1,h2⟩:=h
 refine⟨by simp [h1],fun x hx=>?_⟩
 rw [aH2 _ _ _ _ (by omega)]
 by_cases hxi:x=i+1
 ·subst hxi
  rw [if_pos rfl,if_pos ⟨by omega,hi⟩,h2 _ (by omega),h2 _ (by omega),if_neg (by omega),if_pos (by omega),if_neg (by omega),if_pos (by omega),k5]
  simp;omega
 ·rw [if_neg hxi,h2 x hx]
  by_cases h3:i+1<x∧x≤k
  ·rw [if_pos h3,if_pos ⟨by omega,h3.2⟩]
  ·rw [if_neg h3,if_neg (show ¬ (i<x∧x≤k) by omega)]
theorem aIf {k:Nat} {o:List Int} (h:aEG k 0 o):o=nR (k+1):=by
 obtain⟨h1,h2⟩:=h
 refine aN8 (by rw [iD,h1]) (fun x hx=>?_)
 rw [h2 x (by omega),nK (by omega)]
 by_cases h3:0<x∧x≤k
 ·rw [if_pos h3]
 ·rw [if_neg h3]
  by_cases h4:x≤k
  ·obtain rfl:x=0:=by omega
   rw [if_pos h4,wI,wI]
  ·obtain rfl:x=k+1:=by omega
   rw [if_neg h4,aBe];rfl
theorem aHX {k i:Nat} {o:List Int} (h:aEG k i o) (hk:k≤39) {x:Nat} (hx:x<k+2):0≤o.getD x 0∧o.getD x 0≤1099511627776:=by
 rw [h.2 x hx]
 have h1:=q8 (n:=k+1) x (by omega)
 have h2:=q8 (n:=k) x (by omega)
 split
 ·omega
 ·split<;>omega
theorem vX {n:Nat} (hn:n≤40):∀ x∈chR n,rl x≤2:=by
 intro x hx
 simp only [chR,List.mem_map] at hx
 obtain⟨k,_,rfl⟩:=hx
 have h:=q8 k hn
 rw [←wG]
 have:=aAU (k:=2) (decide ((k5 n k:Int)<0)) (n:=(k5 n k:Int).natAbs) (d:=1) (by omega) (by decide)
 omega
theorem qA {o p:List Rat} {k:Nat} {v:Rat} (hk:k<p.length) (hol:o.length=p.length) (ht:o.take k=p.take k) (hv:v=p.getD k 0):(o.set k v).take (k+1)=p.take (k+1):=by subst hv;exact aDm hk hol ht
theorem aML (n:Nat) (f:Int→LV):((nR n).map f).take (n+1)=(nR n).map f:=by rw [List.take_of_length_le (by simp [iD])]
theorem aIU {p:List Rat} {k:Nat} (h:p.length≤k):p.getD k 0=0:=by
 rw [List.getD_eq_getElem?_getD,List.getElem?_eq_none h];rfl
theorem aMU {a b:List Rat} (h:a.length=b.length) (h2:∀ k,k<a.length→a.getD k 0=b.getD k 0):a=b:=by
 refine List.ext_getElem h fun k h1 h3=>?_
 have:=h2 k h1
 rw [List.getD_eq_getElem?_getD,List.getD_eq_getElem?_getD,List.getElem?_eq_getElem h1,List.getElem?_eq_getElem h3] at this
 exact this
theorem aHC (o:List Rat) (i:Nat) (v:Rat) (k:Nat) (h:i<o.length):(o.set i v).getD k 0=if i=k then v else o.getD k 0:=by
 rw [List.getD_eq_getElem?_getD,List.getD_eq_getElem?_getD,List.getElem?_set]
 split
 ·rename_i e;subst e;first | rw [if_pos h];rfl | rfl
 ·rfl
theorem fH {o:List Rat} {S:Nat} (h1:1≤S) (h:∀ x∈o,rl x≤S) (k:Nat):rl (o.getD k 0)≤S:=by
 rcases Nat.lt_or_ge k o.length with hk | hk
 ·exact h _ (cC hk)
 ·rw [List.getD_eq_getElem?_getD,List.getElem?_eq_none hk];show rl 0≤S;rw [show rl 0=1 from rfl];exact h1
theorem aGx {o:List Rat} {S:Nat} {i:Nat} {v:Rat} (h:∀ x∈o,rl x≤S) (hv:rl v≤S):∀ x∈o.set i v,rl x≤S:=fun x hx=>by
 rcases List.mem_or_eq_of_mem_set hx with h1 | h1
 ·exact h x h1
 ·rw [h1];exact hv
theorem lM {a b:Nat} (h:a+b≤9223372036854775807):dW .add .i64 (a:Nat) (b:Nat)=some (.int .i64 ((a+b:Nat):Int)):=by
 rw [iS (by omega) (by omega)];congr 2
theorem bV {a:Nat} (h:a+1≤9223372036854775807):dW .add .i64 (a:Nat) 1=some (.int .i64 ((a+1:Nat):Int)):=by
 rw [iS (by omega) (by omega)];congr 2
theorem zK {o:List Rat} {i:Nat} {v:Rat} (h:i<o.length):(o.set i v).getD i 0=v:=by rw [pC _ _ _ _ h,if_pos rfl]
def aHY (x:Rat) (i:Nat) (y:List Rat) (q:List Rat) (o:List Rat):Nat→List Rat
 | 0=>o
 | j+1=>(aHY x i y q o j).set (i+j) ((aHY x i y q o j).getD (i+j) 0+x*(y.getD j 0*q.getD j 0))
def aF1 (p q:List Rat):Nat→List Rat
 | 0=>List.replicate (p.length-1+(q.length-1)+1) 0
 | i+1=>aHY ((chR (p.length-1)).getD i 0*p.getD i 0) i (chR (q.length-1)) q (aF1 p q i) q.length
def aAE (p q:List Rat):List Rat:=(List.range (p.length-1+(q.length-1)+1)).map fun k=>(aF1 p q p.length).getD k 0/(chR (p.length-1+(q.length-1))).getD k 0
theorem aB0 (p q:List Rat):(aAE p q).length=p.length-1+(q.length-1)+1:=by simp [aAE]
theorem aDR {x:Rat} {i R S:Nat} {y q o:List Rat} (hS:1≤S) (ho:∀ v∈o,rl v≤S) (hx:rl x≤R+2) (hy:∀ v∈y,rl v≤2) (hq:∀ v∈q,rl v≤R) (hR:1≤R):∀ j,∀ v∈aHY x i y q o j,rl v≤S+j*(2*R+5)
 | 0,v,hv=>by have:=ho v hv;omega
 | j+1,v,hv=>by
   have ih:=aDR (i:=i) hS ho hx hy hq hR j
   refine aGx (S:=S+(j+1)*(2*R+5)) (fun w hw=>?_) ?_ v hv
   ·have:=ih w hw;rw [Nat.succ_mul];omega
   ·have h1:=fH (by omega) ih (i+j)
    have h2:=fH (by omega) hy j
    have h3:=fH (by omega) hq j
    have e1:=cS (y.getD j 0) (q.getD j 0)
    have e2:=cS x (y.getD j 0*q.getD j 0)
    have e3:=gD ((aHY x i y q o j).getD (i+j) 0) (x*(y.getD j 0*q.getD j 0))
    rw [Nat.succ_mul];omega
theorem aDC {p q:List Rat} {R:Nat} (hpl:p.length≤41) (hql:q.length≤41) (hR:1≤R) (hp':∀ v∈p,rl v≤R) (hq':∀ v∈q,rl v≤R):∀ i,∀ v∈aF1 p q i,rl v≤1+i*(q.length*(2*R+5))
 | 0,v,hv=>by
   simp only [aF1,List.mem_replicate] at hv
   rw [hv.2];show rl 0≤_;rw [show rl 0=1 from rfl];omega
 | i+1,v,hv=>by
   have ih:=aDC hpl hql hR hp' hq' i
   have hx:rl ((chR (p.length-1)).getD i 0*p.getD i 0)≤R+2:=by
    have h1:=fH (by omega) (vX (n:=p.length-1) (by omega)) i
    have h2:=fH hR hp' i
    have:=cS ((chR (p.length-1)).getD i 0) (p.getD i 0)
    omega
   have:=aDR (by omega) ih hx (vX (n:=q.length-1) (by omega)) hq' hR q.length v hv
   rw [Nat.succ_mul];omega
theorem aFJ (n x:Nat):(List.replicate n (0:Rat)).getD x 0=0:=by
 rw [List.getD_eq_getElem?_getD,List.getElem?_replicate];split<;>rfl
def kQ (p:List Rat):List Rat:=if p.length<2 then [0] else(List.range (p.length-1)).map fun i=>(((p.length-1:Nat):Int):Rat)*(p.getD (i+1) 0-p.getD i 0)
theorem oV {p:List Rat}:(kQ p).length=if p.length<2 then 1 else p.length-1:=by unfold kQ;split<;>simp
theorem aA5 {p:List Rat} {i:Nat} (h:i+1<p.length):(kQ p).getD i 0=(((p.length-1:Nat):Int):Rat)*(p.getD (i+1) 0-p.getD i 0):=by
 unfold kQ
 rw [if_neg (by omega),List.getD_eq_getElem?_getD,List.getElem?_eq_getElem (by simp;omega)];simp
theorem rO {p:List Rat} {R:Nat} (hR:1≤R) (hl:p.length≤1000) (h:∀ x∈p,rl x≤R):∀ x∈kQ p,rl x≤2*R+4:=by
 intro x hx
 obtain⟨k,hk,rfl⟩:=aB3 hx
 rw [oV] at hk
 by_cases h2:p.length<2
 ·rw [if_pos h2] at hk
  have:kQ p=[0]:=by unfold kQ;rw [if_pos h2]
  rw [this]
  obtain rfl:k=0:=by omega
  show rl 0≤_
  rw [show rl 0=1 from rfl];omega
 ·rw [if_neg h2] at hk
  rw [aA5 (by omega)]
  have h3:=lN (n:=((p.length-1:Nat):Int)) (by omega)
  have h4:=h _ (cC (i:=k) (by omega))
  have h5:=h _ (cC (i:=k+1) (by omega))
  have h6:=jX (p.getD (k+1) 0) (p.getD k 0)
  have h7:=cS (((p.length-1:Nat):Int):Rat) (p.getD (k+1) 0-p.getD k 0)
  omega
namespace Zq10
theorem dG {p q:Prop} (k:q) (e:p=q:=by simp only [e1,e2,e3,e4,p1,p2,p3,q1,q2,q3,l1,t0,t1,r1,r2,r3,r4,Nat.zero_add,Nat.reduceMul,Nat.reduceAdd,b1,b2,b3,b4,b5,b6,i1,i2,i3,i4,i5,i6,Nat.reduceBEq,gW,List.length_set,aC aD,aS,aZ,LV.kill,bB];exact rfl):p:=e.mpr k
end Zq10
open Zq10 in
theorem aFt (p:List Rat) (hl:p.length≤1000) (hpr:∀ x∈p,rl x≤1073741824):aM Tryz.prog 144 [.list 3 (p.map ratL)] (.list 3 ((kQ p).map ratL)):=by
 refine dI Tryz.func144 ?_
 refine eA ?_
 refine aK rfl (fun h8r h8=>?_) (fun h8r h8=>?_)
 ·have hE:kQ p=[0]:=by unfold kQ;rw [if_pos (by omega)]
  refine cY ?_
  refine aB rfl (.build0 tI eH) ?_
  refine dB ?_
  rw [hE]
  exact kP [10] rfl rfl (cA aD rfl rfl rfl)
 ·have hdl:(kQ p).length=p.length-1:=by rw [oV,if_neg (by omega)]
  refine dB ?_
  refine aB rfl (.bin rfl rfl (iG (by omega) (by omega))) ?_
  refine cp dC (rH ((p.length-1:Nat):Int) (by omega) (by omega)) ?_
  refine eC ?_
  refine aB rfl (.bin rfl rfl (iG (by omega) (by omega))) ?_
  refine dD rfl rfl (.mkE (n:=(p.length-1)) (m:=(p.length-1)) ml ml om om om) ?_
  refine cW ?_
  refine nD (fun(i:Nat) (w:List Rat) L=>(((((((St.mk L.slot (hp [(3,⟨3,[ratL (((p.length-1:Nat):Int):Rat)],true⟩),(18,⟨3,w.map ratL,true⟩)])).put (some 0) (.list 3 (p.map ratL))).put (some 3) (.eptr 3 3 0 0)).put (some 4) (.ref 18 3 0 (p.length-1))).put (some 19) (.ref 18 3 0 (p.length-1))).put (some 20) (aE (p.length-1))).put (some 21) (aE i))) (fun i w=>i≤p.length-1∧w.length=p.length-1∧w.take i=(kQ p).take i) (fun i w=>p.length-1-i) 0 (List.replicate (p.length-1) 0) ⟨Nat.zero_le _,by simp,rfl⟩ ?_
  rintro i w L1 ⟨hi,hwl,hwt⟩
  refine dB ?_
  refine aK rfl (fun h22r h22=>?_) (fun h22r h22=>?_)
  ·have hi2:i<p.length-1:=by omega
   have hr1:=hpr _ (cC (i:=i) (by omega))
   have hr2:=hpr _ (cC (i:=i+1) (by omega))
   have hr3:=jX (p.getD (i+1) 0) (p.getD i 0)
   have hr4:=lN (n:=((p.length-1:Nat):Int)) (by omega)
   refine cN ?_
   refine aP 15 (by decide +kernel) ?_
   refine dR ?_
   refine aB rfl (.bin rfl rfl (bV (by omega))) ?_
   refine dB ?_
   refine cp b9 (lK (p.getD (i+1) 0) (p.getD i 0) (by omega)) ?_
   refine cp b9 (fN (((p.length-1:Nat):Int):Rat) (p.getD (i+1) 0-p.getD i 0) (by omega)) ?_
   refine cN ?_
   exact lI (i+1) (w.set i ((((p.length-1:Nat):Int):Rat)*(p.getD (i+1) 0-p.getD i 0))) ⟨by omega,by simp [hwl],qA (by omega) (by omega) hwt (aA5 (by omega)).symm⟩
  ·obtain rfl:i=p.length-1:=by omega
   have hE:w=kQ p:=by
    rw [List.take_of_length_le (by omega),List.take_of_length_le (by omega)] at hwt
    exact hwt
   subst hE
   refine cW ?_
   exact kP [18] rfl rfl (cA aD rfl rfl hdl.symm)
end Go.Proofs.YtfpdccbgngdhkaaGreat
namespace Go.Lg
theorem bI.imm {L:St} {t:Nat} {x y:LV} (bs:List Nat) (h0:bs.contains 0=false) (h:L.slot t=x) (hi:Imm (L.frz bs).heap x y):bI L ((L.frz bs).put (some t) y):=by
 rintro n W X Z0 a w ⟨hdf,hsz,μ,Z,hc,hr⟩
 obtain⟨Z1,k1,k2⟩:=hc.widen (kM bs h0)
 refine⟨hdf,hsz,μ,Z1,by rw [eE];exact k1,fun s=>?_⟩
 have hfr:Frame Z μ w w:=⟨fun _ _=>rfl,fun _ id _ c _ _ hh=>⟨c,hh,rfl⟩⟩
 have hs:=(hr s).mono k2 (fun _ _ h=>h) hfr
 rw [cQ]
 split
 ·rename_i hst
  subst hst
  rw [h] at hs
  exact bZ.of1 (LV.pure_ne_tup hi.lay.2.2) (hi.soundV k1 hs)
 ·exact hs
end Go.Lg
namespace Go.Proofs.YtfpdccbgngdhkaaGreat
open Go.Lg
theorem aEj {a:Rat} (h:0<a):mE a=1:=by unfold mE;rw [if_neg (by grind),if_neg (by grind)]
def fE (a b:Rat):Nat→(Nat→Rat)→Rat
 | 0,f=>f 0
 | n+1,f=>fE a b n (fun i=>a*f i+b*f (i+1))
theorem aBL (a b:Rat):∀ (n:Nat) (f g:Nat→Rat),(∀ i,i≤n→f i=g i)→fE a b n f=fE a b n g
 | 0,f,g,h=>h 0 (Nat.le_refl _)
 | n+1,f,g,h=>aBL a b n _ _ fun i hi=>by rw [h i (by omega),h (i+1) (by omega)]
theorem aKj (t:Rat):∀ (k:Nat) (q:List Rat),k<q.length→(loF t q.length q).getD k 0=fE (1-t) t k (fun i=>q.getD i 0)
 | 0,q,h=>by
  obtain⟨m,hm⟩:∃ m,q.length=m+1:=⟨q.length-1,by omega⟩
  rw [hm];rfl
 | k+1,q,h=>by
  obtain⟨m,hm⟩:∃ m,q.length=m+1:=⟨q.length-1,by omega⟩
  have hs:(stp t q).length=m:=by rw [jG];omega
  have:=aKj t k (stp t q) (by omega)
  rw [hs] at this
  rw [hm,loF,List.getD_cons_succ,this,fE]
  exact aBL _ _ _ _ _ fun i hi=>rJ t q i (by omega)
theorem aNs {p:List Rat} {t:Rat} (h:0<p.length):evP p t=fE (1-t) t (p.length-1) (fun i=>p.getD i 0):=aKj t _ p (by omega)
theorem aKs {t:Rat} {C M:Nat} (hC:rl (1-t)+rl t+1≤C):∀ (k:Nat) (q:List Rat),q.length=k→(∀ x∈q,(rl x+C)*2 ^ k≤M)→∀ x∈loF t k q,rl x+C≤M
 | 0,q,_,_,x,hx=>by cases hx
 | k+1,q,hq,h,x,hx=>by
  rw [loF,List.mem_cons] at hx
  rcases hx with rfl | hx
  ·exact v4 (h _ (cC (by omega)))
  ·exact aKs hC k (stp t q) (by rw [jG];omega) (aCM hC h) x hx
theorem aKf {t:Rat} {C M:Nat} (hC:rl (1-t)+rl t+1≤C):∀ (k:Nat) (q tl:List Rat),q.length=k→(∀ x∈q,(rl x+C)*2 ^ k≤M)→(∀ x∈tl,rl x+C≤M)→∀ x∈hiF t k q tl,rl x+C≤M
 | 0,q,tl,hq,_,h2,x,hx=>by
  obtain rfl:q=[]:=List.eq_nil_of_length_eq_zero hq
  exact h2 x hx
 | k+1,q,tl,hq,h,h2,x,hx=>by
  refine aKf hC k (stp t q) _ (by rw [jG];omega) (aCM hC h) (fun y hy=>?_) x hx
  rcases List.mem_cons.1 hy with rfl | hy
  ·exact v4 (h _ (cC (by omega)))
  ·exact h2 y hy
theorem HS.lo {p:List Rat} {t:Rat} (h:HS p t):∀ x∈loP p t,Go.Lg.rl x≤1073741824:=fun x hx=>by
 obtain⟨cc,h1,h2,h3⟩:=h
 have:=aKs h1 p.length p rfl h3 x hx
 omega
theorem HS.hi {p:List Rat} {t:Rat} (h:HS p t):∀ x∈hiP p t,Go.Lg.rl x≤1073741824:=fun x hx=>by
 obtain⟨cc,h1,h2,h3⟩:=h
 have:=aKf h1 p.length p [] rfl h3 (fun y hy=>by cases hy) x hx
 omega
theorem HS.ev {p:List Rat} {t:Rat} (h:HS p t):Go.Lg.rl (evP p t)≤1073741824:=fH (by decide) h.lo _
def mnR (a b:Rat):Rat:=if b<a then b else a
def vB (a b:Rat):Rat:=if a<b then b else a
def aBb (s:Rat × Rat) (t:Rat × Rat):Rat × Rat:=(mnR s.1 t.1,vB s.2 t.2)
def bkP (p:List Rat):Nat→Rat × Rat
 | 0=>(0,0)
 | k+1=>aBb (if k=0 then(p.getD k 0,p.getD k 0) else bkP p k) (p.getD k 0,p.getD k 0)
def aEV (p:List Rat):Rat × Rat:=bkP p p.length
theorem aDt (a:Rat):mnR a a=a:=by unfold mnR;split<;>rfl
theorem aDx (a:Rat):vB a a=a:=by unfold vB;split<;>rfl
theorem aNn (a b:Rat):mnR a b≤a∧mnR a b≤b∧(mnR a b=a∨mnR a b=b):=by unfold mnR;split<;>grind
theorem aMt (a b:Rat):a≤vB a b∧b≤vB a b∧(vB a b=a∨vB a b=b):=by unfold vB;split<;>grind
theorem zB (p:List Rat):∀ k,(∀ i,i<k→(bkP p k).1≤p.getD i 0∧p.getD i 0≤(bkP p k).2)∧(0<k→(∃ i,i<k∧(bkP p k).1=p.getD i 0)∧∃ i,i<k∧(bkP p k).2=p.getD i 0)
 | 0=>⟨fun i h=>by omega,fun h=>by omega⟩
 | k+1=>by
  obtain⟨h1,h2⟩:=zB p k
  rw [bkP]
  by_cases hk:k=0
  ·subst hk
   rw [if_pos rfl]
   simp only [aBb,aDt,aDx]
   refine⟨fun i hi=>?_,fun _=>⟨⟨0,by omega,rfl⟩,⟨0,by omega,rfl⟩⟩⟩
   obtain rfl:i=0:=by omega
   exact⟨Rat.le_refl,Rat.le_refl⟩
  ·rw [if_neg hk]
   obtain⟨⟨i,hi,ei⟩,⟨j,hj,ej⟩⟩:=h2 (by omega)
   have a:=aNn (bkP p k).1 (p.getD k 0)
   have b:=aMt (bkP p k).2 (p.getD k 0)
   simp only [aBb]
   refine⟨fun x hx=>?_,fun _=>⟨?_,?_⟩⟩
   ·by_cases hxk:x=k
    ·subst hxk;exact⟨a.2.1,b.2.1⟩
    ·have:=h1 x (by omega)
     exact⟨Rat.le_trans a.1 this.1,Rat.le_trans this.2 b.1⟩
   ·rcases a.2.2 with e | e
    ·exact⟨i,by omega,by rw [e,ei]⟩
    ·exact⟨k,by omega,e⟩
   ·rcases b.2.2 with e | e
    ·exact⟨j,by omega,by rw [e,ej]⟩
    ·exact⟨k,by omega,e⟩
theorem aAK {a b:Rat}:mD a b≤0↔a≤b:=by
 unfold mD;split
 ·rename_i h;exact⟨fun _=>Rat.le_of_lt h,fun _=>by decide⟩
 ·split
  ·rename_i h;exact⟨fun e=>absurd e (by decide),fun e=>absurd h (Rat.not_lt.2 e)⟩
  ·rename_i h;exact⟨fun _=>Rat.not_lt.1 h,fun _=>by decide⟩
def t7 (s:Rat × Rat) (x:Rat):Bool:=decide (s.1≤x) && decide (x≤s.2)
theorem aPo {s:Rat × Rat} {x:Rat} (h:decide (mD s.1 x≤0)=true):decide (mD x s.2≤0)=t7 s x:=by
 unfold t7
 rw [decide_eq_true (aAK.1 (of_decide_eq_true h)),Bool.true_and,decide_eq_decide,aAK]
theorem aPy {s:Rat × Rat} {x:Rat} (h:decide (mD s.1 x≤0)=false):false=t7 s x:=by
 unfold t7
 rw [decide_eq_false (fun e=>of_decide_eq_false h (aAK.2 e)),Bool.false_and]
theorem aLE {m M a b x y:Rat} (ha:0≤a) (hb:0≤b) (hab:a+b=1) (hx:m≤x∧x≤M) (hy:m≤y∧y≤M):m≤a*x+b*y∧a*x+b*y≤M:=by
 have h1:=Rat.mul_nonneg ha (show 0≤x-m by grind)
 have h2:=Rat.mul_nonneg hb (show 0≤y-m by grind)
 have h3:=Rat.mul_nonneg ha (show 0≤M-x by grind)
 have h4:=Rat.mul_nonneg hb (show 0≤M-y by grind)
 have e1:b=1-a:=by grind
 subst e1
 constructor<;>grind
def inR (m M:Rat) (l:List Rat):Prop:=∀ i,i<l.length→m≤l.getD i 0∧l.getD i 0≤M
theorem aJe {t m M:Rat} (h0:0≤t) (h1:t≤1) {p:List Rat} (h:inR m M p):inR m M (stp t p):=fun i hi=>by
 rw [jG] at hi
 rw [rJ t p i (by omega)]
 exact aLE (by grind) h0 (by grind) (h i (by omega)) (h (i+1) (by omega))
theorem aHB {m M x:Rat} {l:List Rat} (hx:m≤x∧x≤M) (h:inR m M l):inR m M (x :: l)
 | 0,_=>hx
 | i+1,hi=>h i (by simpa using hi)
theorem aHn {t m M:Rat} (h0:0≤t) (h1:t≤1):∀ (k:Nat) (p:List Rat),p.length=k→inR m M p→inR m M (loF t k p)
 | 0,_,_,_=>fun i hi=>by simp [loF] at hi
 | k+1,p,hp,h=>aHB (h 0 (by omega)) (aHn h0 h1 k (stp t p) (by rw [jG];omega) (aJe h0 h1 h))
theorem aIY (p:List Rat):inR (aEV p).1 (aEV p).2 p:=fun i hi=>(zB p p.length).1 i hi
theorem aJz {p:List Rat} {x:Rat} (h:(aEV p).1≤x∧x≤(aEV p).2):t7 (aEV p) x=true:=by
 unfold t7;rw [decide_eq_true h.1,decide_eq_true h.2];rfl
theorem aKX {p:List Rat} {t:Rat} (h0:0≤t) (h1:t≤1) (h:0<p.length):t7 (aEV p) (evP p t)=true :=
 aJz (aHn h0 h1 _ p rfl (aIY p) _ (by rw [aAJ];omega))
open H0 in
theorem aJI (a b:Rat) (h:rl a+rl b≤549755813888):aM Tryz.prog 182 [ratL a,ratL b] (spL (mnR a b,vB a b)):=by
 refine dI Tryz.func182 ?_
 refine eC ?_
 refine aP 7 (by decide +kernel) ?_
 refine cY ?_
 refine cp b9 (aHk _ _ (by omega)) ?_
 refine cY ?_
 refine cp b9 (aCv _ _ (by omega)) ?_
 refine dR ?_
 exact dQ [] rfl rfl rfl (jK.csize _) (k6 _) T42 (.pure (jK.pure _))
namespace Zq106
theorem dG {p q:Prop} (k:q) (e:p=q:=by simp only [e1,e2,e3,e4,p1,p2,p3,q1,q2,q3,l1,t0,t1,r1,r2,r3,r4,Nat.zero_add,Nat.reduceMul,Nat.reduceAdd,b1,b2,b3,b4,b5,b6,i1,i2,i3,i4,i5,i6,Nat.reduceBEq,aDt,aDx];exact rfl):p:=e.mpr k
end Zq106
open Zq106 in
theorem nP (a:Rat) (h:rl a+rl a≤549755813888):aM Tryz.prog 109 [ratL a] (spL (a,a)):=by
 refine dI Tryz.func109 ?_
 refine cN ?_
 refine cp b9 (aJI _ _ (by omega)) ?_
 refine cO ?_
 exact dQ [] rfl rfl rfl (jK.csize _) (k6 _) T42 (.pure (jK.pure _))
open H0 in
theorem aAu (s t:Rat × Rat) (h1:rl s.1+rl t.1≤549755813888) (h2:rl s.2+rl t.2≤549755813888):aM Tryz.prog 171 [spL s,spL t] (spL (aBb s t)):=by
 refine dI Tryz.func171 ?_
 refine eC ?_
 refine aP 11 (by decide +kernel) ?_
 refine cO ?_
 refine cp b9 (aHk _ _ (by omega)) ?_
 refine cO ?_
 refine cp b9 (aCv _ _ (by omega)) ?_
 refine dR ?_
 exact dQ [] rfl rfl rfl (jK.csize _) (k6 _) T42 (.pure (jK.pure _))
open H0 in
theorem aKG (a b:Rat) (h:rl a+rl b≤34359738368):aM Tryz.prog 236 [ratL a,ratL b] (ratL (mnR a b)):=by
 refine dI Tryz.func236 ?_
 refine cW ?_
 refine cp b9 (aAc _ _ (by omega)) ?_
 refine cP ?_
 refine aK rfl (fun h8r h8=>?_) (fun h8r h8=>?_)
 ·have hE:mnR a b=b:=if_pos (rR.1 h8)
  refine eC ?_
  rw [hE]
  exact dQ [] rfl rfl rfl (aD.csize _) (aJ _) cX (.pure (aD.pure _))
 ·have hE:mnR a b=a:=if_neg (fun e=>h8 (rR.2 e))
  refine dU ?_
  rw [hE]
  exact dQ [] rfl rfl rfl (aD.csize _) (aJ _) cX (.pure (aD.pure _))
open H0 in
theorem aFR (a b:Rat) (h:rl a+rl b≤34359738368):aM Tryz.prog 86 [ratL a,ratL b] (ratL (vB a b)):=by
 refine dI Tryz.func86 ?_
 refine cW ?_
 refine cp b9 (aAc _ _ (by omega)) ?_
 refine cP ?_
 refine aK rfl (fun h8r h8=>?_) (fun h8r h8=>?_)
 ·have hE:vB a b=b:=if_pos (sN.1 h8)
  refine eC ?_
  rw [hE]
  exact dQ [] rfl rfl rfl (aD.csize _) (aJ _) cX (.pure (aD.pure _))
 ·have hE:vB a b=a:=if_neg (fun e=>h8 (sN.2 e))
  refine dU ?_
  rw [hE]
  exact dQ [] rfl rfl rfl (aD.csize _) (aJ _) cX (.pure (aD.pure _))
open H0 in
theorem nJ (a:Rat):aM Tryz.prog 174 [ratL a] (spL (a,a)):=by
 refine dI Tryz.func174 ?_
 refine iJ ?_
 exact dQ [] rfl rfl rfl (jK.csize _) (k6 _) T42 (.pure (jK.pure _))
open H0 in
theorem aAF (s t:Rat × Rat) (h1:rl s.1+rl t.1≤34359738368) (h2:rl s.2+rl t.2≤34359738368):aM Tryz.prog 173 [spL s,spL t] (spL (aBb s t)):=by
 refine dI Tryz.func173 ?_
 refine eC ?_
 refine aP 11 (by decide +kernel) ?_
 refine cO ?_
 refine cp b9 (aKG _ _ (by omega)) ?_
 refine cO ?_
 refine cp b9 (aFR _ _ (by omega)) ?_
 refine dR ?_
 exact dQ [] rfl rfl rfl (jK.csize _) (k6 _) T42 (.pure (jK.pure _))
open H0 in
theorem s9 (s:Rat × Rat) (h1:rl s.1≤17179869184) (h2:rl s.2≤17179869184):aM Tryz.prog 91 [spL s,spL s] (bL true):=by
 refine dI Tryz.func91 ?_
 refine eA ?_
 refine cp b9 (jO _ _ (by omega)) ?_
 refine bE ?_
 refine aB (aL (v:=true) rfl rfl ((decide_eq_true rfl)) rfl) mC ?_
 refine aB (aL (v:=true) rfl rfl ((decide_eq_true rfl)) rfl) kS ?_
 refine aB (aL (v:=true) rfl rfl ((decide_eq_true rfl)) rfl) mC ?_
 refine aB (aL (v:=true) rfl rfl ((decide_eq_true rfl)) rfl) kS ?_
 refine dX (aL (v:=true) rfl rfl ((decide_eq_true rfl)) rfl) (.cons kR (.cons kR .nil)) (jO _ _ (by omega)) ?_
 refine aB rfl (.pickT rfl ((decide_eq_true rfl))) ?_
 refine cO ?_
 exact bM (x:=bL true) rfl (.pure rfl)
def v3a (p q:V3):V3:=⟨p.x+q.x,p.y+q.y,p.z+q.z⟩
def pU (p q:V3):V3:=⟨p.x-q.x,p.y-q.y,p.z-q.z⟩
def v3m (r:Rat) (p:V3):V3:=⟨r*p.x,r*p.y,r*p.z⟩
def fL (p q:V3):Rat:=0+p.x*q.x+p.y*q.y+p.z*q.z
def jF (R:Nat) (p:V3):Prop:=rl p.x≤R∧rl p.y≤R∧rl p.z≤R
theorem jF.le {R S:Nat} {p:V3} (h:jF R p) (hRS:R≤S):jF S p:=⟨Nat.le_trans h.1 hRS,Nat.le_trans h.2.1 hRS,Nat.le_trans h.2.2 hRS⟩
theorem nC {R:Nat} {p q:V3} (hp:jF R p) (hq:jF R q):jF (2*R+1) (pU p q):=by
 have h1:=jX p.x q.x
 have h2:=jX p.y q.y
 have h3:=jX p.z q.z
 obtain⟨a1,a2,a3⟩:=hp
 obtain⟨b1,b2,b3⟩:=hq
 exact⟨by show rl (p.x-q.x)≤_;omega,by show rl (p.y-q.y)≤_;omega,by show rl (p.z-q.z)≤_;omega⟩
theorem rI {R S:Nat} {p q:V3} (hp:jF R p) (hq:jF S q):rl (fL p q)≤3*(R+S)+4:=by
 obtain⟨a1,a2,a3⟩:=hp
 obtain⟨b1,b2,b3⟩:=hq
 have h1:=cS p.x q.x
 have h2:=cS p.y q.y
 have h3:=cS p.z q.z
 have h4:=gD 0 (p.x*q.x)
 have h5:=gD (0+p.x*q.x) (p.y*q.y)
 have h6:=gD (0+p.x*q.x+p.y*q.y) (p.z*q.z)
 have h0:rl 0=1:=rfl
 unfold fL
 omega
def sgR (a b p:V3):Rat :=
 if fL (pU p a) (pU b a)≤0 then fL (pU p a) (pU p a)
 else if fL (pU b a) (pU b a)≤fL (pU p a) (pU b a) then fL (pU p b) (pU p b)
 else fL (pU p (v3a a (v3m (fL (pU p a) (pU b a)/fL (pU b a) (pU b a)) (pU b a)))) (pU p (v3a a (v3m (fL (pU p a) (pU b a)/fL (pU b a) (pU b a)) (pU b a))))
def pY (R:Nat) (q:PoR):Prop:=jF R q.p∧rl q.w≤R∧0<q.w
theorem bG (q:V3) (b:Nat):(fA q).kill b=fA q:=LV.kill_pure b _ (fF.pure q)
theorem bF (q:PoR) (b:Nat):(gZ q).kill b=gZ q:=LV.kill_pure b _ (eI.pure q)
namespace Zq129
theorem dG {p q:Prop} (k:q) (e:p=q:=by simp only [e1,e2,e3,e4,p1,p2,p3,q1,q2,q3,l1,t0,t1,r1,r2,r3,r4,Nat.zero_add,Nat.reduceMul,Nat.reduceAdd,b1,b2,b3,b4,b5,b6,i1,i2,i3,i4,i5,i6,Nat.reduceBEq,fW];exact rfl):p:=e.mpr k
end Zq129
open Zq129 in
theorem aLr (f:Nat) (g:Rat→Rat→Rat) (p q:V3) (h1:aM Tryz.prog f [ratL p.x,ratL q.x] (ratL (g p.x q.x))) (h2:aM Tryz.prog f [ratL p.y,ratL q.y] (ratL (g p.y q.y))) (h3:aM Tryz.prog f [ratL p.z,ratL q.z] (ratL (g p.z q.z))):aM Tryz.prog 215 [fA p,fA q,.clo f []] (fA ⟨g p.x q.x,g p.y q.y,g p.z q.z⟩):=by
 refine dI Tryz.func215 (ht:=(fun r=>LV.ren_pure r _ (fF.pure _))) ?_
 refine mZ ?_
 refine aW ?_
 refine dB ?_
 refine bK (b:=_) rfl (by decide) ?_
 refine cN ?_
 refine aP 10 (by decide +kernel) ?_
 refine eC ?_
 refine eP [] rfl rfl (.clo (f:=f) (cap:=[]) (args:=[ratL p.x,ratL q.x]) rfl (.cons kR (.cons kR .nil)) ⟨rfl,fun _ h=>by cases h⟩ h1.1 (by decide) (fun _ h=>by cases h)) (h1.2 _) ?_
 refine cN ?_
 refine aW ?_
 refine dB ?_
 refine bK (b:=_) rfl (by decide) ?_
 refine cN ?_
 refine aP 10 (by decide +kernel) ?_
 refine eC ?_
 refine eP [] rfl rfl (.clo (f:=f) (cap:=[]) (args:=[ratL p.y,ratL q.y]) rfl (.cons kR (.cons kR .nil)) ⟨rfl,fun _ h=>by cases h⟩ h2.1 (by decide) (fun _ h=>by cases h)) (h2.2 _) ?_
 refine cN ?_
 refine aW ?_
 refine dB ?_
 refine bK (b:=_) rfl (by decide) ?_
 refine cN ?_
 refine aP 10 (by decide +kernel) ?_
 refine eC ?_
 refine eP [] rfl rfl (.clo (f:=f) (cap:=[]) (args:=[ratL p.z,ratL q.z]) rfl (.cons kR (.cons kR .nil)) ⟨rfl,fun _ h=>by cases h⟩ h3.1 (by decide) (fun _ h=>by cases h)) (h3.2 _) ?_
 refine cN ?_
 refine aW ?_
 refine dB ?_
 refine bX (b:=_) rfl (by decide) ?_
 refine cW ?_
 exact dQ [] rfl rfl rfl cs (dN cs rfl) sW (.pure pu)
open H0 in
theorem zD (p q:V3) (R:Nat) (hR:R≤100000000000) (hp:jF R p) (hq:jF R q):aM Tryz.prog 149 [fA p,fA q] (fA (pU p q)):=by
 obtain⟨a1,a2,a3⟩:=hp
 obtain⟨b1,b2,b3⟩:=hq
 refine dI Tryz.func149 (ht:=(fun r=>LV.ren_pure r _ (fF.pure _))) ?_
 refine cV ?_
 refine cp pS (aLr 82 (·-·) p q (lK _ _ (by omega)) (lK _ _ (by omega)) (lK _ _ (by omega))) ?_
 refine cO ?_
 exact dQ [] rfl rfl rfl cs (dN cs rfl) sW (.pure pu)
open H0 in
theorem aCZ (p q:V3) (R:Nat) (hR:R≤1000000000) (hp:jF R p) (hq:jF R q):aM Tryz.prog 83 [fA p,fA q] (ratL (fL p q)):=by
 obtain⟨a1,a2,a3⟩:=hp
 obtain⟨b1,b2,b3⟩:=hq
 have m1:=cS p.x q.x
 have m2:=cS p.y q.y
 have m3:=cS p.z q.z
 have s1:=gD 0 (p.x*q.x)
 have s2:=gD (0+p.x*q.x) (p.y*q.y)
 have hz0:rl 0=1:=rfl
 refine dI Tryz.func83 ?_
 refine mZ ?_
 refine aW ?_
 refine dB ?_
 refine bK (b:=_) rfl (by decide) ?_
 refine cN ?_
 refine aP 9 (by decide +kernel) ?_
 refine dL ?_
 refine cp b9 (fN p.x q.x (by omega)) ?_
 refine cp b9 (lH 0 (p.x*q.x) (by omega)) ?_
 refine dU ?_
 refine aW ?_
 refine dB ?_
 refine bK (b:=_) rfl (by decide) ?_
 refine cN ?_
 refine aP 9 (by decide +kernel) ?_
 refine dL ?_
 refine cp b9 (fN p.y q.y (by omega)) ?_
 refine cp b9 (lH (0+p.x*q.x) (p.y*q.y) (by omega)) ?_
 refine dU ?_
 refine aW ?_
 refine dB ?_
 refine bK (b:=_) rfl (by decide) ?_
 refine cN ?_
 refine aP 9 (by decide +kernel) ?_
 refine dL ?_
 refine cp b9 (fN p.z q.z (by omega)) ?_
 refine cp b9 (lH (0+p.x*q.x+p.y*q.y) (p.z*q.z) (by omega)) ?_
 refine dU ?_
 refine aW ?_
 refine dB ?_
 refine bX (b:=_) rfl (by decide) ?_
 refine cW ?_
 exact dQ [] rfl rfl rfl (aD.csize _) (aJ _) cX (.pure (aD.pure _))
open H0 in
theorem aCY (p q:V3) (R:Nat) (hR:R≤1000000000) (hp:jF R p) (hq:jF R q):aM Tryz.prog 47 [fA p,fA q] (ratL (fL p q)):=by
 obtain⟨a1,a2,a3⟩:=hp
 obtain⟨b1,b2,b3⟩:=hq
 have m1:=cS p.x q.x
 have m2:=cS p.y q.y
 have m3:=cS p.z q.z
 have s1:=gD 0 (p.x*q.x)
 have s2:=gD (0+p.x*q.x) (p.y*q.y)
 have hz0:rl 0=1:=rfl
 refine dI Tryz.func47 ?_
 refine mZ ?_
 refine aW ?_
 refine dL ?_
 refine bK (b:=_) rfl (by decide) ?_
 refine cO ?_
 refine aP 9 (by decide +kernel) ?_
 refine dL ?_
 refine cp b9 (f8 p.x q.x (by omega)) ?_
 refine cp b9 (jI 0 (p.x*q.x) (by omega)) ?_
 refine cN ?_
 refine aW ?_
 refine dL ?_
 refine bK (b:=_) rfl (by decide) ?_
 refine cO ?_
 refine aP 9 (by decide +kernel) ?_
 refine dL ?_
 refine cp b9 (f8 p.y q.y (by omega)) ?_
 refine cp b9 (jI (0+p.x*q.x) (p.y*q.y) (by omega)) ?_
 refine cN ?_
 refine aW ?_
 refine dL ?_
 refine bK (b:=_) rfl (by decide) ?_
 refine cO ?_
 refine aP 9 (by decide +kernel) ?_
 refine dL ?_
 refine cp b9 (f8 p.z q.z (by omega)) ?_
 refine cp b9 (jI (0+p.x*q.x+p.y*q.y) (p.z*q.z) (by omega)) ?_
 refine cN ?_
 refine aW ?_
 refine dL ?_
 refine bX (b:=_) rfl (by decide) ?_
 refine cW ?_
 exact dQ [] rfl rfl rfl (aD.csize _) (aJ _) cX (.pure (aD.pure _))
open H0 in
theorem uV (p q:V3) (R:Nat) (hR:R≤1000000000) (hp:jF R p) (hq:jF R q):aM Tryz.prog 118 [fA p,fA q] (fA (pU p q)):=by
 obtain⟨a1,a2,a3⟩:=hp
 obtain⟨b1,b2,b3⟩:=hq
 refine dI Tryz.func118 (ht:=(fun r=>LV.ren_pure r _ (fF.pure _))) ?_
 refine gC ?_
 refine aW ?_
 refine dL ?_
 refine bK (b:=_) rfl (by decide) ?_
 refine cO ?_
 refine aP 9 (by decide +kernel) ?_
 refine dL ?_
 refine cp b9 (nW p.x q.x (by omega)) ?_
 refine cV ?_
 refine aW ?_
 refine dL ?_
 refine bK (b:=_) rfl (by decide) ?_
 refine cO ?_
 refine aP 9 (by decide +kernel) ?_
 refine dL ?_
 refine cp b9 (nW p.y q.y (by omega)) ?_
 refine cV ?_
 refine aW ?_
 refine dL ?_
 refine bK (b:=_) rfl (by decide) ?_
 refine cO ?_
 refine aP 9 (by decide +kernel) ?_
 refine dL ?_
 refine cp b9 (nW p.z q.z (by omega)) ?_
 refine cV ?_
 refine aW ?_
 refine dL ?_
 refine bX (b:=_) rfl (by decide) ?_
 refine cW ?_
 exact dQ [] rfl rfl rfl cs (dN cs rfl) sW (.pure pu)
open H0 in
theorem aFb (r:Rat) (p:V3) (R:Nat) (hR:R≤1000000000) (hr:rl r≤R) (hp:jF R p):aM Tryz.prog 148 [ratL r,fA p] (fA (v3m r p)):=by
 obtain⟨a1,a2,a3⟩:=hp
 refine dI Tryz.func148 (ht:=(fun r=>LV.ren_pure r _ (fF.pure _))) ?_
 refine gC ?_
 refine aW ?_
 refine dL ?_
 refine bK (b:=_) rfl (by decide) ?_
 refine cO ?_
 refine aP 7 (by decide +kernel) ?_
 refine dR ?_
 refine cp b9 (f8 r p.x (by omega)) ?_
 refine cV ?_
 refine aW ?_
 refine dL ?_
 refine bK (b:=_) rfl (by decide) ?_
 refine cO ?_
 refine aP 7 (by decide +kernel) ?_
 refine dR ?_
 refine cp b9 (f8 r p.y (by omega)) ?_
 refine cV ?_
 refine aW ?_
 refine dL ?_
 refine bK (b:=_) rfl (by decide) ?_
 refine cO ?_
 refine aP 7 (by decide +kernel) ?_
 refine dR ?_
 refine cp b9 (f8 r p.z (by omega)) ?_
 refine cV ?_
 refine aW ?_
 refine dL ?_
 refine bX (b:=_) rfl (by decide) ?_
 refine cW ?_
 exact dQ [] rfl rfl rfl cs (dN cs rfl) sW (.pure pu)
theorem aDZ {a b:Rat}:0≤mD a b↔b≤a:=by
 unfold mD
 constructor
 ·intro h
  split at h
  ·exact absurd h (by decide)
  ·grind
 ·intro h
  split
  ·exfalso;grind
  ·split<;>decide
end Go.Proofs.YtfpdccbgngdhkaaGreat
namespace Go.Lg
theorem aEE {P:Program} {f:FuncId} {args:List LV} {sz n:Nat} {vals:List LV} {mt:Bool} (h:f3 P f args (.ref 1 sz 0 n) [⟨sz,vals,mt⟩]) (hp:aY vals=true) (hn:vals.length=n):aM P f args (.list sz vals):=by
 refine⟨⟨h.1,fun W Z0 vs hz hr=>Calls.mono (h.2 W Z0 vs hz hr) (fun e w'=>?_)⟩,fun g=>LV.ren_pure g _ (by simp [LV.pure,hp])⟩
 rintro⟨v,μ,Z,he,hc,hv⟩
 have hle:dA.le (eN [⟨sz,vals,mt⟩]) (eN [⟨sz,vals,false⟩]):=fun b blk hb=>by
  unfold eN at hb ⊢
  by_cases h0:b=0
  ·rw [if_pos h0] at hb;cases hb
  ·rw [if_neg h0] at hb
   rcases Nat.lt_or_ge (b-1) 1 with h1 | h1
   ·have e:b-1=0:=by omega
    rw [e] at hb
    simp only [List.getElem?_cons_zero,Option.some.injEq] at hb
    subst hb
    exact⟨false,by rw [if_neg h0,e];rfl,fun _=>rfl,fun _ _=>h0⟩
   ·rw [List.getElem?_eq_none (by simpa using h1)] at hb;cases hb
 obtain⟨Z1,k1,k2⟩:=hc.widen hle
 have hfr:Frame Z μ w' w':=⟨fun _ _=>rfl,fun _ id _ c _ _ hh=>⟨c,hh,rfl⟩⟩
 have hv1:=hv.mono k2 (fun _ _ h=>h) hfr
 have hi:Imm (eN [⟨sz,vals,false⟩]) (.ref 1 sz 0 n) (.list sz vals):=by
  have:=Imm.ref (H:=eN [⟨sz,vals,false⟩]) (b:=1) (off:=0) (len:=n) (blk:=⟨sz,vals,false⟩) rfl rfl hp (by simp [hn]) rfl
  simpa [←hn] using this
 refine⟨v,iI μ 1,Z1,he,?_,bZ.of1 (fun l h=>by cases h) (hi.soundV k1 hv1)⟩
 have kk:=Core.kill (L:=⟨fun _=>.any,eN [⟨sz,vals,false⟩]⟩) 1 (by decide) k1
 refine kk.reheap fun b id hb=>?_
 have hb1:b≠1:=fun e=>by rw [e] at hb;simp [iI] at hb
 have hb2:μ b=some id:=by unfold iI at hb;split at hb<;>first | exact hb | cases hb
 obtain⟨blk,g1,_⟩:=k1.heap b id hb2
 unfold eN at g1
 split at g1
 ·cases g1
 ·rw [List.getElem?_eq_none (by simp;omega)] at g1;cases g1
end Go.Lg
namespace Go.Proofs.YtfpdccbgngdhkaaGreat
open Go.Lg
theorem aEY (p:List Rat) (hl:p.length≤1048576) (hpr:∀ x∈p,rl x≤274877906944):aM Tryz.prog 257 [.list 3 (p.map ratL)] (.list 3 (p.map ratL)) :=
 aEE (yW p hl hpr) (aH aD _) (by simp)
def aBK (p:List Rat) (i:Nat):Rat:=(if 0<i then((i:Int):Rat)/((p.length:Int):Rat)*p.getD (i-1) 0 else 0)+(if i<p.length then(((p.length:Int)-(i:Int):Int):Rat)/((p.length:Int):Rat)*p.getD i 0 else 0)
def t8 (p:List Rat):List Rat:=(List.range (p.length+1)).map (aBK p)
def itL:Nat→List Rat→List Rat
 | 0,p=>p
 | k+1,p=>itL k (t8 p)
def upP (p:List Rat) (n:Nat):List Rat:=itL (n+1-p.length) p
theorem gG (p:List Rat):(t8 p).length=p.length+1:=by simp [t8]
theorem xG {p:List Rat} {i:Nat} (h:i<p.length+1):(t8 p).getD i 0=aBK p i:=by
 rw [List.getD_eq_getElem?_getD,List.getElem?_eq_getElem (by rw [gG];exact h)];simp [t8]
theorem aD6:∀ (k:Nat) (p:List Rat),(itL k p).length=p.length+k
 | 0,p=>rfl
 | k+1,p=>by rw [itL,aD6 k,gG];omega
theorem aAh {p:List Rat} {n:Nat} (h:p.length≤n+1):(upP p n).length=n+1:=by rw [upP,aD6];omega
theorem aIA {p:List Rat} {i:Nat} (h0:0<i) (h1:i<p.length):aBK p i=((i:Int):Rat)/((p.length:Int):Rat)*p.getD (i-1) 0+(((p.length:Int)-(i:Int):Int):Rat)/((p.length:Int):Rat)*p.getD i 0:=by
 rw [aBK,if_pos h0,if_pos h1]
theorem aIR {p:List Rat} {i:Nat} (h0:0<i) (h1:¬ i<p.length):aBK p i=((i:Int):Rat)/((p.length:Int):Rat)*p.getD (i-1) 0:=by
 rw [aBK,if_pos h0,if_neg h1,Rat.add_zero]
theorem aJF {p:List Rat} {i:Nat} (h0:¬ 0<i) (h1:i<p.length):aBK p i=(((p.length:Int)-(i:Int):Int):Rat)/((p.length:Int):Rat)*p.getD i 0:=by
 rw [aBK,if_neg h0,if_pos h1,Rat.zero_add]
def upS (p:List Rat) (n:Nat):Prop:=(∀ x∈p,rl x≤1073741824)∧∀ k,p.length+k≤n+1→∀ x∈itL k p,rl x≤1073741824
theorem aCt {p:List Rat} {n:Nat} (h:upS p n) (k:Nat):rl (p.getD k 0)≤1073741824:=fH (by decide) h.1 k
theorem aGR {p:List Rat} {n:Nat} (hl:p.length≤n) (h:upS p n):upS (t8 p) n:=⟨h.2 1 (by omega),fun k hk=>h.2 (k+1) (by rw [gG] at hk;omega)⟩
theorem wZ {p:List Rat} {n:Nat} (h:n+1≤p.length):upP p n=p:=by rw [upP,show n+1-p.length=0 by omega];rfl
theorem aGw {p:List Rat} {n:Nat} (h:p.length≤n):itL (n+1-(t8 p).length) (t8 p)=itL (n+1-p.length) p:=by
 rw [show n+1-p.length=(n+1-(t8 p).length)+1 by rw [gG];omega];rfl
def wO (g:Rat→Rat→Rat) (a b:List Rat):List Rat:=(List.range a.length).map fun i=>g (a.getD i 0) (b.getD i 0)
theorem aA8 (g:Rat→Rat→Rat) (a b:List Rat):(wO g a b).length=a.length:=by simp [wO]
namespace Zq148
theorem dG {p q:Prop} (k:q) (e:p=q:=by simp only [e1,e2,e3,e4,p1,p2,p3,q1,q2,q3,l1,t0,t1,r1,r2,r3,r4,Nat.zero_add,Nat.reduceMul,Nat.reduceAdd,b1,b2,b3,b4,b5,b6,i1,i2,i3,i4,i5,i6,Nat.reduceBEq,gW,List.length_set,List.set_set,egs,egz,eim,Rat.zero_add,aC aD,aS,LV.kill,bB];exact rfl):p:=e.mpr k
end Zq148
open Zq148 in
theorem aPn (p:List Rat) (n:Nat) (hp0:0<p.length) (hn:n≤1000) (hl:p.length≤1001) (hs:upS p n):aM Tryz.prog 281 [.list 3 (p.map ratL),aE n] (.list 3 ((upP p n).map ratL)):=by
 refine dI Tryz.func281 ?_
 have egs:True:=trivial
 have egz:True:=trivial
 have eim:True:=trivial
 refine eC ?_
 refine cp dC (aEY p (by omega) (fun x hx=>by have:=aCt hs;have h9:=List.getElem_of_mem hx;obtain⟨k,hk,rfl⟩:=h9;have h8:=this k;rw [List.getD_eq_getElem?_getD,List.getElem?_eq_getElem hk] at h8;exact Nat.le_trans h8 (by decide))) ?_
 refine dR ?_
 refine lX (fun(o:List Rat) L=>(((St.mk L.slot (hp [])).put (some 1) (aE n)).put (some 5) (.list 3 (o.map ratL)))) (fun o=>0<o.length∧o.length≤1001∧upS o n∧itL (n+1-o.length) o=upP p n) (fun o=>n+1-o.length) p ⟨hp0,hl,hs,rfl⟩ ?_
 rintro o L1 ⟨ho0,hol,hos,hit⟩
 refine dL ?_
 refine dJ 18 rfl (fun h18r h18=>?_) (fun h18r h18=>?_)
 ·refine dL ?_
  refine aK rfl (fun h23r h23=>?_) (fun h23r h23=>?_)
  ·have hon:o.length≤n:=by omega
   refine eA ?_
   refine aB rfl (.bin rfl rfl (bV (by omega))) ?_
   refine dD rfl rfl (.mkE (n:=(o.length+1)) (m:=(o.length+1)) ml ml om om om) ?_
   refine cW ?_
   refine nD (fun(i:Nat) (w:List Rat) L=>((((((((St.mk L.slot (hp [(28,⟨3,w.map ratL,true⟩)])).put (some 1) (aE n)).put (some 5) (.list 3 (o.map ratL))).put (some 6) (aE o.length)).put (some 7) (.ref 28 3 0 (o.length+1))).put (some 29) (.ref 28 3 0 (o.length+1))).put (some 30) (aE (o.length+1))).put (some 31) (aE i))) (fun i w=>i≤o.length+1∧w.length=o.length+1∧w.take i=(t8 o).take i∧∀ x,i≤x→w.getD x 0=0) (fun i w=>o.length+1-i) 0 (List.replicate (o.length+1) 0) ⟨Nat.zero_le _,by simp,rfl,fun x _=>by simp [List.getD_eq_getElem?_getD,List.getElem?_replicate];split<;>rfl⟩ ?_
   rintro i w L2 ⟨hi,hwl,hwt,hz⟩
   refine dB ?_
   refine aK rfl (fun h32r h32=>?_) (fun h32r h32=>?_)
   ·have hi2:i<o.length+1:=by omega
    have hf1:=u7 (n:=(i:Int)) (d:=(o.length:Int)) (by omega) (by omega)
    have hf2:=u7 (n:=(o.length:Int)-(i:Int)) (d:=(o.length:Int)) (by omega) (by omega)
    have hr1:=aCt hos (i-1)
    have hr2:=aCt hos i
    have hm1:=cS (((i:Int):Rat)/((o.length:Int):Rat)) (o.getD (i-1) 0)
    have hm2:=cS ((((o.length:Int)-(i:Int):Int):Rat)/((o.length:Int):Rat)) (o.getD i 0)
    have egs:=fun v=>zK (o:=w) (i:=i) (v:=v) (by omega)
    have egz:=hz i (Nat.le_refl _)
    have eim:((i:Int)-1).toNat=i-1:=by omega
    have hr0:rl 0=1:=rfl
    refine nY ?_
    refine aK rfl (fun h35r h35=>?_) (fun h35r h35=>?_)
    ·have hi0:0<i:=by omega
     refine cO ?_
     refine cp b9 (z6 (i:Int) (o.length:Int) (by omega) (by omega) (by omega) (by omega) (by omega)) ?_
     refine eC ?_
     refine aP 10 (by decide +kernel) ?_
     refine eC ?_
     try simp only [t1,gW,eim]
     refine cp b9 (fN _ _ (by omega)) ?_
     refine cW ?_
     refine aK rfl (fun h55r h55=>?_) (fun h55r h55=>?_)
     ·have hi1:i<o.length:=by omega
      refine cO ?_
      refine aB rfl (.bin rfl rfl (iK (by omega) (by omega))) ?_
      refine bE ?_
      refine cp b9 (z6 ((o.length:Int)-(i:Int)) (o.length:Int) (by omega) (by omega) (by omega) (by omega) (by omega)) ?_
      refine eC ?_
      refine aP 14 (by decide +kernel) ?_
      refine cV ?_
      try simp only [t1,gW]
      refine cp b9 (fN _ _ (by omega)) ?_
      try simp only [t1,gW,Nat.zero_add,egs,egz]
      refine cp b9 (lH _ _ (by omega)) ?_
      refine dR ?_
      refine bR ((bI.kill _ 9).trans (bI.kill _ 11)) ?_
      refine cO ?_
      exact lI (i+1) (w.set i (((i:Int):Rat)/((o.length:Int):Rat)*o.getD (i-1) 0+(((o.length:Int)-(i:Int):Int):Rat)/((o.length:Int):Rat)*o.getD i 0)) ⟨by omega,by simp [hwl],qA (by rw [gG];omega) (by rw [gG];omega) hwt (by rw [xG (by omega),aIA hi0 hi1]),fun x hx=>by rw [pC _ _ _ _ (by omega),if_neg (by omega)];exact hz x (by omega)⟩
     ·have hi1:¬ i<o.length:=by omega
      refine cP ?_
      refine bR ((bI.kill _ 9).trans (bI.kill _ 11)) ?_
      refine cO ?_
      exact lI (i+1) (w.set i (((i:Int):Rat)/((o.length:Int):Rat)*o.getD (i-1) 0)) ⟨by omega,by simp [hwl],qA (by rw [gG];omega) (by rw [gG];omega) hwt (by rw [xG (by omega),aIR hi0 hi1]),fun x hx=>by rw [pC _ _ _ _ (by omega),if_neg (by omega)];exact hz x (by omega)⟩
    ·have hi0:¬ 0<i:=by omega
     refine cN ?_
     refine aK rfl (fun h55r h55=>?_) (fun h55r h55=>?_)
     ·have hi1:i<o.length:=by omega
      refine cO ?_
      refine aB rfl (.bin rfl rfl (iK (by omega) (by omega))) ?_
      refine bE ?_
      refine cp b9 (z6 ((o.length:Int)-(i:Int)) (o.length:Int) (by omega) (by omega) (by omega) (by omega) (by omega)) ?_
      refine eC ?_
      refine aP 14 (by decide +kernel) ?_
      refine cV ?_
      try simp only [t1,gW]
      refine cp b9 (fN _ _ (by omega)) ?_
      try simp only [t1,gW,Nat.zero_add,egs,egz]
      refine cp b9 (lH _ _ (by omega)) ?_
      refine dR ?_
      refine bR ((bI.kill _ 9).trans (bI.kill _ 11)) ?_
      refine cO ?_
      exact lI (i+1) (w.set i ((((o.length:Int)-(i:Int):Int):Rat)/((o.length:Int):Rat)*o.getD i 0)) ⟨by omega,by simp [hwl],qA (by rw [gG];omega) (by rw [gG];omega) hwt (by rw [xG (by omega),aJF hi0 hi1]),fun x hx=>by rw [pC _ _ _ _ (by omega),if_neg (by omega)];exact hz x (by omega)⟩
     ·have hi1:¬ i<o.length:=by omega
      refine cP ?_
      refine bR ((bI.kill _ 9).trans (bI.kill _ 11)) ?_
      refine cO ?_
      exact lI (i+1) w (False.elim (by omega))
   ·obtain rfl:i=o.length+1:=by omega
    have hE:w=t8 o:=by
     rw [List.take_of_length_le (by omega),List.take_of_length_le (by rw [gG];omega)] at hwt
     exact hwt
    subst hE
    refine dR ?_
    refine bR ((bI.imm (t:=7) [28] rfl rfl (cA aD rfl rfl (by rw [gG]))).trans (bI.kill _ 28)) ?_
    refine dR ?_
    exact kE (t8 o) ⟨by rw [gG];omega,by rw [gG];omega,aGR (by omega) hos,by rw [aGw (by omega)];exact hit⟩ (hm:=by rw [gG];omega)
  ·refine cW ?_
   have hE:upP p n=o:=by rw [←hit,show n+1-o.length=0 by omega];rfl
   rw [hE]
   exact bM rfl (by first | exact .pure rfl | exact .pure (bA _) | exact .pure (aO _) | exact .pure (aD.pure _) | exact .pure (aG cT _ _) | exact .pure (aG aD _ _))
 ·refine mV ?_
  have hE:upP p n=o:=by rw [←hit,show n+1-o.length=0 by omega];rfl
  rw [hE]
  exact bM rfl (by first | exact .pure rfl | exact .pure (bA _) | exact .pure (aO _) | exact .pure (aD.pure _) | exact .pure (aG cT _ _) | exact .pure (aG aD _ _))
def cR (n k:Nat):Rat:=((k5 n k:Nat):Int)
def sq (p:List Rat) (k:Nat):Rat:=cR (p.length-1) k*p.getD k 0
theorem aM8 {p:List Rat} {k:Nat} (h:p.length≤k):sq p k=0:=by unfold sq;rw [aIU h,Rat.mul_zero]
def sm:Nat→(Nat→Rat)→Rat
 | 0,_=>0
 | n+1,f=>sm n f+f n
theorem pE:∀ (n:Nat) (f g:Nat→Rat),(∀ i,i<n→f i=g i)→sm n f=sm n g
 | 0,_,_,_=>rfl
 | n+1,f,g,h=>by rw [sm,sm,pE n f g (fun i hi=>h i (by omega)),h n (by omega)]
theorem aHZ:∀ (n:Nat) (f g:Nat→Rat),sm n (fun i=>f i+g i)=sm n f+sm n g
 | 0,_,_=>by show (0:Rat)=0+0;grind
 | n+1,f,g=>by rw [sm,sm,sm,aHZ n];grind
theorem aEb (n:Nat) (f:Nat→Rat) (h:∀ i,i<n→f i=0):sm n f=0:=by
 induction n with
 | zero=>rfl
 | succ n ih=>rw [sm,ih (fun i hi=>h i (by omega)),h n (by omega)];exact Rat.add_zero 0
theorem aDb (n:Nat) (f:Nat→Rat) (h:∀ i,n≤i→f i=0):∀ m,sm (n+m) f=sm n f
 | 0=>rfl
 | m+1=>by rw [←Nat.add_assoc,sm,aDb n f h m,h _ (by omega)];grind
def cf (f g:Nat→Rat) (k:Nat):Rat:=sm (k+1) fun i=>f i*g (k-i)
theorem aF7 {x y:Rat} (hx:0<x) (h:x≤y):0<1/y∧1/y≤1/x:=by
 have hy:0<y:=by grind
 have e1:1/x*x=1:=by grind
 have e2:1/y*y=1:=by grind
 have r0:0<1/x:=by rw [Rat.div_def,Rat.one_mul];exact Rat.inv_pos.2 hx
 have s0:0<1/y:=by rw [Rat.div_def,Rat.one_mul];exact Rat.inv_pos.2 hy
 revert e1 e2 r0 s0
 generalize 1/x=r
 generalize 1/y=s
 intro e1 e2 r0 s0
 refine⟨s0,?_⟩
 have h1:=Rat.mul_le_mul_of_nonneg_left h (Rat.le_of_lt (Rat.mul_pos s0 r0))
 have e3:s*r*x=s:=by rw [Rat.mul_assoc,e1,Rat.mul_one]
 have e4:s*r*y=r:=by rw [Rat.mul_comm s r,Rat.mul_assoc,e2,Rat.mul_one]
 rwa [e3,e4] at h1
open H0 in
theorem aKY (p:List Rat) (n:Nat) (hp0:0<p.length) (hn:n≤40) (hpn:p.length≤n+1) (hps:upS p n):aM Tryz.prog 277 [.list 3 (p.map ratL),aE n] (.tup [.list 3 ((upP p n).map ratL),iL 0]):=by
 refine dI Tryz.func277 ?_
 refine cW ?_
 refine aB rfl (.bin rfl rfl (iK (by omega) (by omega))) ?_
 refine cY ?_
 refine dJ 11 rfl (fun h11r h11=>?_) (fun h11r h11=>?_)
 ·refine gC ?_
  exfalso
  omega
 ·refine dR ?_
  refine aK rfl (fun h14r h14=>?_) (fun h14r h14=>?_)
  ·omega
  ·refine dB ?_
   refine cp b9 (aPn p n hp0 (by omega) (by omega) hps) ?_
   refine dR ?_
   exact tE rfl (.pure (aG aD _ _)) rfl (.pure rfl)
end Go.Proofs.YtfpdccbgngdhkaaGreat
namespace Go.Lg
theorem bI.cell {L:St} (b:Nat) {sz:Nat} {x y:LV} {mt:Bool} (hb:L.heap b=some ⟨sz,[x],mt⟩) (h:∀ Z μ w cs,cL Z μ w x cs→cL Z μ w y cs):bI L (L.setB b (some ⟨sz,[y],mt⟩)):=by
 rintro n W X Z0 a w ⟨hdf,hsz,μ,Z,hc,hr⟩
 refine⟨hdf,hsz,μ,Z,?_,hr⟩
 have hs:∀ c,(L.setB b (some ⟨sz,[y],mt⟩)).heap c=if c=b then some ⟨sz,[y],mt⟩ else L.heap c:=fun c=>rfl
 refine⟨hc.keep,hc.zone,hc.zsup,hc.zsub,hc.inj,hc.own,hc.x0,hc.xlt,hc.x1,fun c id blk g1 g2=>?_,fun c id blk g1 g2=>?_,fun c id g1=>?_⟩
 ·rw [hs] at g2
  split at g2
  ·rename_i e;subst e;cases g2;exact hc.mutz c id ⟨sz,[x],mt⟩ g1 hb
  ·exact hc.mutz c id blk g1 g2
 ·rw [hs] at g2
  split at g2
  ·rename_i e;subst e;cases g2;exact hc.frz c id ⟨sz,[x],mt⟩ g1 hb
  ·exact hc.frz c id blk g1 g2
 ·obtain⟨blk,k1,k2⟩:=hc.heap c id g1
  rw [hs]
  by_cases e:c=b
  ·subst e
   rw [if_pos rfl]
   rw [hb] at k1
   cases k1
   refine⟨_,rfl,?_⟩
   obtain⟨cs,T,part,rest,e1,e2,e3⟩:=k2
   refine⟨cs,T,part,rest,e1,e2,?_⟩
   simp only [aQ] at e3 ⊢
   obtain⟨c1,c2,q1,q2,q3,q4⟩:=e3
   exact⟨c1,c2,q1,q2,h _ _ _ _ q3,q4⟩
  ·rw [if_neg e];exact⟨blk,k1,k2⟩
theorem bI.newB (L:St) (d sz:Nat) (hd:L.heap d=none):bI L (L.setB d (some ⟨sz,[],true⟩)):=by
 rintro n W X Z0 a w ⟨hdf,hsz,μ,Z,hc,hr⟩
 refine⟨hdf,hsz,μ,Z,?_,hr⟩
 refine hc.reheap fun c id hcd=>?_
 have:c≠d:=by rintro rfl;rw [iX hc hd] at hcd;cases hcd
 simp [St.setB,this]
theorem oB (d sz:Nat) (x y:LV) (Z:Nat→Prop) (μ:Nat→Option Nat) (w:World) (cs:List Value) (h:cL Z μ w (.agg [x,y,.v (.slice none 0 0)]) cs):cL Z μ w (.agg [x,y,.ref d sz 0 0]) cs:=by
 simp only [cL,cH] at h ⊢
 obtain⟨c1,c2,e1,e2,e3,c3,c4,e4,e5,e6,c5,c6,e7,e8,e9,e10⟩:=h
 exact⟨c1,c2,e1,e2,e3,c3,c4,e4,e5,e6,c5,c6,e7,e8,.inl ⟨e9.1,trivial⟩,e10⟩
end Go.Lg
namespace Go.Proofs.YtfpdccbgngdhkaaGreat
open Go.Lg
def _root_.Go.Lg.V3.at (p:V3):Nat→Rat
 | 0=>p.x
 | 1=>p.y
 | _=>p.z
def f7 (po:List PoR) (k:Nat):List Rat:=po.map fun q=>q.w*q.p.at k
def gI (po:List PoR):List Rat:=po.map fun q=>q.w
theorem fI (po:List PoR) (k:Nat):(f7 po k).length=po.length:=by simp [f7]
theorem k9 (po:List PoR):(gI po).length=po.length:=by simp [gI]
theorem x9 {R:Nat} {p:V3} (h:jF R p):∀ k,rl (p.at k)≤R
 | 0=>h.1
 | 1=>h.2.1
 | _+2=>h.2.2
theorem aF4 {R:Nat} {po:List PoR} (h:∀ q∈po,pY R q) (k:Nat):∀ x∈f7 po k,rl x≤2*R:=fun x hx=>by
 obtain⟨q,hq,rfl⟩:=List.mem_map.1 hx
 obtain⟨h1,h2,_⟩:=h q hq
 have h3:=x9 h1 k
 have h4:=cS q.w (q.p.at k)
 show rl (q.w*q.p.at k)≤_
 omega
theorem aFU {R:Nat} {po:List PoR} (h:∀ q∈po,pY R q):∀ x∈gI po,rl x≤R:=fun x hx=>by
 obtain⟨q,hq,rfl⟩:=List.mem_map.1 hx
 exact(h q hq).2.1
def trP (po:List PoR) (k:Nat):List Rat:=wO (·-·) (aAE (kQ (f7 po k)) (gI po)) (aAE (f7 po k) (kQ (gI po)))
theorem aBB {p q:List Rat} {R:Nat} (h:p.length-1+(q.length-1)≤40) (hpl:p.length≤41) (hql:q.length≤41) (hR1:1≤R) (hR:R≤100) (hpR:∀ x∈p,rl x≤R) (hqR:∀ x∈q,rl x≤R):∀ x∈aAE p q,rl x≤344700:=fun x hx=>by
 obtain⟨k,hk,rfl⟩:=List.mem_map.1 hx
 have hS:=aDC hpl hql hR1 hpR hqR p.length
 have hbd:p.length*(q.length*(2*R+5))≤41*(41*205):=Nat.mul_le_mul hpl (Nat.mul_le_mul hql (by omega))
 have hg1:=fH (by omega) hS k
 have hg2:=fH (S:=2) (by decide) (vX (n:=p.length-1+(q.length-1)) h) k
 have h3:=pQ ((aF1 p q p.length).getD k 0) ((chR (p.length-1+(q.length-1))).getD k 0)
 omega
theorem aJn {R:Nat} {p q:List Rat} {g:Rat→Rat→Rat} (hg:∀ a b,rl (g a b)≤rl a+rl b+1) (hR:1≤R) (hp:∀ x∈p,rl x≤R) (hq:∀ x∈q,rl x≤R):∀ x∈wO g p q,rl x≤2*R+1:=fun x hx=>by
 obtain⟨i,_,rfl⟩:=List.mem_map.1 hx
 have h1:=fH hR hp i
 have h2:=fH hR hq i
 have h3:=hg (p.getD i 0) (q.getD i 0)
 omega
structure cvF (po:List PoR) (d:Nat):Prop where
 hl:po.length=d+1
 hd:1≤d
 h6:d≤6
 ok:∀ q∈po,pY 1 q
section
variable {po:List PoR} {d:Nat} (h:cvF po d)
theorem cvF.n (h:cvF po d) (k:Nat):(f7 po k).length=d+1∧∀ x∈f7 po k,rl x≤2:=⟨by rw [fI,h.hl],aF4 h.ok k⟩
theorem cvF.w (h:cvF po d):(gI po).length=d+1∧∀ x∈gI po,rl x≤2:=⟨by rw [k9,h.hl],fun x hx=>Nat.le_trans (aFU h.ok x hx) (by decide)⟩
theorem cvF.dn (h:cvF po d) (k:Nat):(kQ (f7 po k)).length=d∧∀ x∈kQ (f7 po k),rl x≤8:=by
 obtain⟨h1,h2⟩:=h.n k
 have:=h.hd
 have:=h.h6
 exact⟨by rw [oV,h1,if_neg (by omega)];omega,rO (by decide) (by omega) h2⟩
theorem cvF.dw (h:cvF po d):(kQ (gI po)).length=d∧∀ x∈kQ (gI po),rl x≤8:=by
 obtain⟨h1,h2⟩:=h.w
 have:=h.hd
 have:=h.h6
 exact⟨by rw [oV,h1,if_neg (by omega)];omega,rO (by decide) (by omega) h2⟩
theorem cvF.m1 (h:cvF po d) (k:Nat):(aAE (kQ (f7 po k)) (gI po)).length=2*d-1+1∧∀ x∈aAE (kQ (f7 po k)) (gI po),rl x≤344700:=by
 obtain⟨h1,h2⟩:=h.dn k
 obtain⟨h3,h4⟩:=h.w
 have:=h.hd
 have:=h.h6
 exact⟨by rw [aB0,h1,h3];omega,aBB (R:=8) (by omega) (by omega) (by omega) (by decide) (by decide) h2 (fun x hx=>Nat.le_trans (h4 x hx) (by decide))⟩
theorem cvF.m2 (h:cvF po d) (k:Nat):(aAE (f7 po k) (kQ (gI po))).length=2*d-1+1∧∀ x∈aAE (f7 po k) (kQ (gI po)),rl x≤344700:=by
 obtain⟨h1,h2⟩:=h.n k
 obtain⟨h3,h4⟩:=h.dw
 have:=h.hd
 have:=h.h6
 exact⟨by rw [aB0,h1,h3];omega,aBB (R:=8) (by omega) (by omega) (by omega) (by decide) (by decide) (fun x hx=>Nat.le_trans (h2 x hx) (by decide)) h4⟩
theorem cvF.t (h:cvF po d) (k:Nat):(trP po k).length=2*d-1+1∧∀ x∈trP po k,rl x≤689401:=by
 obtain⟨h1,h2⟩:=h.m1 k
 obtain⟨_,h4⟩:=h.m2 k
 exact⟨by rw [trP,aA8,h1],fun x hx=>aJn jX (by decide) h2 h4 x hx⟩
end
theorem fY {po:List PoR} {j:Nat} (h:j<po.length):po.getD j default∈po:=by
 rw [List.getD_eq_getElem?_getD,List.getElem?_eq_getElem h];exact List.getElem_mem h
namespace Zq39
theorem dG {p q:Prop} (k:q) (e:p=q:=by simp only [e1,e2,e3,e4,p1,p2,p3,q1,q2,q3,l1,t0,t1,r1,r2,r3,r4,Nat.zero_add,Nat.reduceMul,Nat.reduceAdd,b1,b2,b3,b4,b5,b6,i1,i2,i3,i4,i5,i6,Nat.reduceBEq,gW,aC aD,aS,aZ,LV.kill,bB];exact rfl):p:=e.mpr k
end Zq39
open Zq39 in
theorem aGV (p q:List Rat) (hl:p.length≤1048576) (hl2:q.length≤1048576) (hpr:∀ x∈p,rl x≤137438953472) (hqr:∀ x∈q,rl x≤137438953472):aM Tryz.prog 79 [.list 3 (p.map ratL),.list 3 (q.map ratL)] (bL (decide (p=q))):=by
 refine dI Tryz.func79 ?_
 refine iJ ?_
 refine aK rfl (fun h10r h10=>?_) (fun h10r h10=>?_)
 ·have hne:p≠q:=fun e=>by rw [e] at h10;exact h10 rfl
  refine dL ?_
  rw [decide_eq_false hne]
  exact bM rfl (by first | exact .pure rfl | exact .pure (bA _) | exact .pure (aO _) | exact .pure (aD.pure _) | exact .pure (aG cT _ _) | exact .pure (aG aD _ _))
 ·have hle:p.length=q.length:=by omega
  refine dU ?_
  refine lX (fun(k:Nat) L=>((((St.mk L.slot (hp [])).put (some 0) (.list 3 (p.map ratL))).put (some 1) (.list 3 (q.map ratL))).put (some 5) (aE k))) (fun k=>k≤p.length∧∀ i,i<k→p.getD i 0=q.getD i 0) (fun k=>p.length-k) 0 ⟨Nat.zero_le _,fun i h=>absurd h (Nat.not_lt_zero i)⟩ ?_
  rintro k L1 ⟨hk,hg⟩
  refine dU ?_
  refine aK rfl (fun h14r h14=>?_) (fun h14r h14=>?_)
  ·have hk2:k<p.length:=by omega
   have hr1:=hpr _ (cC (i:=k) hk2)
   have hr2:=hqr _ (cC (i:=k) (by omega))
   refine dR ?_
   refine aP 10 (by decide +kernel) ?_
   refine eC ?_
   refine cp b9 (jO (p.getD k 0) (q.getD k 0) (by omega)) ?_
   refine cP ?_
   refine aK rfl (fun h26r h26=>?_) (fun h26r h26=>?_)
   ·have hne:p≠q:=fun e=>by rw [e] at h26;exact h26 rfl
    refine cV ?_
    rw [decide_eq_false hne]
    exact bM rfl (by first | exact .pure rfl | exact .pure (bA _) | exact .pure (aO _) | exact .pure (aD.pure _) | exact .pure (aG cT _ _) | exact .pure (aG aD _ _))
   ·have heq:p.getD k 0=q.getD k 0:=h26
    refine dU ?_
    exact kE (k+1) ⟨by omega,fun i hi=>by rcases Nat.lt_or_ge i k with h | h;exact hg i h;rw [show i=k by omega];exact heq⟩
  ·obtain rfl:k=p.length:=by omega
   have hE:p=q:=aMU hle hg
   refine cV ?_
   rw [decide_eq_true hE]
   exact bM rfl (by first | exact .pure rfl | exact .pure (bA _) | exact .pure (aO _) | exact .pure (aD.pure _) | exact .pure (aG cT _ _) | exact .pure (aG aD _ _))
end Go.Proofs.YtfpdccbgngdhkaaGreat
namespace Go.Lg
end Go.Lg
namespace Go.Proofs.YtfpdccbgngdhkaaGreat
open Go.Lg
theorem uS {n:Nat} (k:Nat) (hn:n≤40):rl (((k5 n k:Nat):Int):Rat)≤2:=by
 rcases Nat.lt_or_ge n k with h | h
 ·rw [vG h];decide
 ·have h1:=vX hn _ (cC (i:=k) (by rw [aAs];omega))
  rw [aDM h] at h1;exact h1
def lin (α β:Rat):Rat→List Rat→List Rat
 | c,[]=>[β*c]
 | c,x :: l=>(β*c+α*x) :: lin α β x l
inductive KS:Nat→List Rat→Prop
 | z {s:Int} {l:List Rat}:l≠[]→s=1∨s=-1→(∀ x∈l,mE x=s)→KS 0 l
 | r {n:Nat} {l:List Rat} {a b:Rat}:KS n l→0<a→0<b→KS (n+1) (lin (-a) b 0 l)
theorem aNg {P:Program} {L:St} {a u:Nat} {T U:TypeId} {b c sz sy:Nat} {x y x' y':LV} {m m':Bool} {n n':Nat} {ag ag':Bool} (bs:List Nat) (h0:bs.contains 0=false) (h:L.slot a=.eptr b sz 0 0) (hb:L.heap b=some ⟨sz,[x],m⟩)
  (hx:x.csize=sz) (hat:x.at 0 n ag=some x) (hT:cF P T n ag) (hi:Imm (L.frz bs).heap x y) (h':L.slot u=.eptr c sy 0 0) (hc:L.heap c=some ⟨sy,[x'],m'⟩)
  (hx':x'.csize=sy) (hat':x'.at 0 n' ag'=some x') (hT':cF P U n' ag') (hi':Imm (L.frz bs).heap x' y'):oX P [.cell a T,.cell u U] L (.tup [y,y']) [] :=
 ⟨[x,x'],[y,y'],(L.frz bs).heap,[],.cons ⟨b,sz,0,0,_,x,n,ag,h,hb,rfl,rfl,hx,hat,hT⟩ (.cons ⟨c,sy,0,0,_,x',n',ag',h',hc,rfl,rfl,hx',hat',hT'⟩ .nil),kM bs h0,.cons (.imm hi) (.cons (.imm hi') .nil),List.nodup_nil,rfl,fun k b h=>by simp at h,rfl⟩
section
variable {P:Program} {H:dA} {ρ:Operand→LV} {T E:TypeId}
end
theorem aK8 (po:List PoR) (i:Nat):(po.map (·.p)).getD i default=(po.getD i default).p:=by
 rw [List.getD_eq_getElem?_getD,List.getD_eq_getElem?_getD,List.getElem?_map]
 cases po[i]?<;>rfl
def uE {α:Type} (pr:α→Bool) (l:List α):Int:=if l.any pr then(l.findIdx pr:Nat) else -1
theorem wS {α:Type} [Inhabited α] {pr:α→Bool} {l:List α} {i:Nat} (hi:i<l.length) (h0:∀ j,j<i→pr (l.getD j default)=false) (h:pr (l.getD i default)=true):uE pr l=(i:Int):=by
 have hg:∀ j (hj:j<l.length),l.getD j default=l[j]:=fun j hj=>by rw [List.getD_eq_getElem?_getD,List.getElem?_eq_getElem hj];rfl
 have e:l.findIdx pr=i:=by
  rw [List.findIdx_eq hi]
  refine⟨by rw [←hg i hi];exact h,fun j hj=>?_⟩
  rw [←hg j (by omega)];exact h0 j hj
 have ha:l.any pr=true:=List.any_eq_true.2 ⟨l[i],List.getElem_mem hi,by rw [←hg i hi];exact h⟩
 unfold uE
 rw [if_pos ha,e]
theorem tG {α:Type} [Inhabited α] {pr:α→Bool} {l:List α} (h0:∀ j,j<l.length→pr (l.getD j default)=false):uE pr l=-1:=by
 have ha:l.any pr=false:=by
  rw [List.any_eq_false]
  intro x hx
  obtain⟨i,hi,rfl⟩:=List.mem_iff_getElem.1 hx
  have:=h0 i hi
  rw [List.getD_eq_getElem?_getD,List.getElem?_eq_getElem hi] at this
  simpa using this
 unfold uE
 rw [if_neg (by rw [ha];decide)]
theorem xM {α:Type} (pr:α→Bool) (l:List α):decide (uE pr l≥0)=l.any pr:=by
 unfold uE
 split
 ·rename_i h
  rw [h];exact decide_eq_true (by omega)
 ·rename_i h
  rw [Bool.not_eq_true] at h
  rw [h];rfl
theorem pX {α:Type} [Inhabited α] {l:List α} {i:Nat} (h:i<l.length):l.getD i default∈l:=by
 rw [List.getD_eq_getElem?_getD,List.getElem?_eq_getElem h];exact List.getElem_mem h
namespace Zq65
theorem dG {p q:Prop} (k:q) (e:p=q:=by simp only [e1,e2,e3,e4,p1,p2,p3,q1,q2,q3,l1,t0,t1,r1,r2,r3,r4,Nat.zero_add,Nat.reduceMul,Nat.reduceAdd,b1,b2,b3,b4,b5,b6,i1,i2,i3,i4,i5,i6,Nat.reduceBEq,List.set_cons_zero,List.set_cons_succ,Nat.reduceEqDiff,reduceIte,if_true,if_false,bG,bF,aC fF,aC eI,aC aD,aS,aZ,LV.kill,bB,List.length_map];exact rfl):p:=e.mpr k
end Zq65
open Zq65 in
theorem aK5 (f:Nat) (pr:Rat→Bool) (l:List Rat) (hl:l.length≤1048576) (hf:∀ x∈l,aM Tryz.prog f [ratL x] (bL (pr x))):aM Tryz.prog 222 [.list 3 (l.map ratL),.clo f []] (iL (uE pr l)):=by
 refine dI Tryz.func222 ?_
 refine gC ?_
 refine lX (fun(i:Nat) L=>((((((St.mk L.slot (hp [])).put (some 0) (.list 3 (l.map ratL))).put (some 1) (.clo f [])).put (some 6) (.list 3 (l.map ratL))).put (some 7) (aE l.length)).put (some 8) (aE i))) (fun i=>i≤l.length∧∀ j,j<i→pr (l.getD j default)=false) (fun i=>l.length-i) 0 ⟨Nat.zero_le _,fun j hj=>absurd hj (Nat.not_lt_zero j)⟩ ?_
 rintro i L1 ⟨hi,h0⟩
 refine dB ?_
 refine aK rfl (fun h9r h9=>?_) (fun h9r h9=>?_)
 ·have hi2:i<l.length:=by omega
  have hc:=hf _ (pX hi2)
  refine nY ?_
  refine eP [] rfl rfl (.clo (f:=f) (cap:=[]) (args:=[ratL (l.getD i 0)]) rfl (.cons kR .nil) ⟨rfl,fun _ h=>by cases h⟩ hc.1 (by decide) (fun _ h=>by cases h)) (hc.2 _) ?_
  refine cY ?_
  refine aK rfl (fun h16r h16=>?_) (fun h16r h16=>?_)
  ·have hV:uE pr l=(i:Int):=wS hi2 h0 (by first | exact h16r | exact h16)
   refine cW ?_
   rw [hV]
   exact bM rfl (.pure rfl)
  ·have hn:∀ j,j<i+1→pr (l.getD j default)=false:=fun j hj=>by
    rcases Nat.lt_succ_iff_lt_or_eq.1 hj with e | rfl
    ·exact h0 j e
    ·first | exact h16r | (simpa using h16)
   refine cO ?_
   refine aB rfl (.bin rfl rfl (bV (by omega))) ?_
   refine cP ?_
   exact kE (i+1) ⟨by omega,hn⟩
 ·obtain rfl:i=l.length:=by omega
  refine cV ?_
  rw [tG h0]
  exact bM rfl (.pure rfl)
namespace Zq62
theorem dG {p q:Prop} (k:q) (e:p=q:=by simp only [e1,e2,e3,e4,p1,p2,p3,q1,q2,q3,l1,t0,t1,r1,r2,r3,r4,Nat.zero_add,Nat.reduceMul,Nat.reduceAdd,b1,b2,b3,b4,b5,b6,i1,i2,i3,i4,i5,i6,Nat.reduceBEq,List.set_cons_zero,List.set_cons_succ,Nat.reduceEqDiff,reduceIte,if_true,if_false,bG,bF,aC fF,aC eI,aC aD,aS,aZ,LV.kill,bB];exact rfl):p:=e.mpr k
end Zq62
open Zq62 in
theorem aGF (f:Nat) (pr:Rat→Bool) (l:List Rat) (hl:l.length≤1048576) (hf:∀ x∈l,aM Tryz.prog f [ratL x] (bL (pr x))):aM Tryz.prog 156 [.list 3 (l.map ratL),.clo f []] (bL (l.any pr)):=by
 refine dI Tryz.func156 ?_
 refine dU ?_
 refine cp b9 (aK5 f pr l hl hf) ?_
 refine dR ?_
 rw [←xM]
 exact bM rfl (.pure rfl)
namespace Zq64
theorem dG {p q:Prop} (k:q) (e:p=q:=by simp only [e1,e2,e3,e4,p1,p2,p3,q1,q2,q3,l1,t0,t1,r1,r2,r3,r4,Nat.zero_add,Nat.reduceMul,Nat.reduceAdd,b1,b2,b3,b4,b5,b6,i1,i2,i3,i4,i5,i6,Nat.reduceBEq,List.set_cons_zero,List.set_cons_succ,Nat.reduceEqDiff,reduceIte,if_true,if_false,bG,bF,aC fF,aC eI,aC aD,aS,aZ,LV.kill,bB,List.length_map];exact rfl):p:=e.mpr k
end Zq64
open Zq64 in
theorem aKS (f:Nat) (pr:PoR→Bool) (l:List PoR) (hl:l.length≤1048576) (hf:∀ x∈l,aM Tryz.prog f [gZ x] (bL (pr x))):aM Tryz.prog 230 [.list 12 (l.map gZ),.clo f []] (iL (uE pr l)):=by
 refine dI Tryz.func230 ?_
 refine gC ?_
 refine lX (fun(i:Nat) L=>((((((St.mk L.slot (hp [])).put (some 0) (.list 12 (l.map gZ))).put (some 1) (.clo f [])).put (some 6) (.list 12 (l.map gZ))).put (some 7) (aE l.length)).put (some 8) (aE i))) (fun i=>i≤l.length∧∀ j,j<i→pr (l.getD j default)=false) (fun i=>l.length-i) 0 ⟨Nat.zero_le _,fun j hj=>absurd hj (Nat.not_lt_zero j)⟩ ?_
 rintro i L1 ⟨hi,h0⟩
 refine dB ?_
 refine aK rfl (fun h9r h9=>?_) (fun h9r h9=>?_)
 ·have hi2:i<l.length:=by omega
  have hc:=hf _ (pX hi2)
  refine nY ?_
  refine eP [] rfl rfl (.clo (f:=f) (cap:=[]) (args:=[gZ (l.getD i default)]) rfl (.cons kR .nil) ⟨rfl,fun _ h=>by cases h⟩ hc.1 (by decide) (fun _ h=>by cases h)) (hc.2 _) ?_
  refine cY ?_
  refine aK rfl (fun h16r h16=>?_) (fun h16r h16=>?_)
  ·have hV:uE pr l=(i:Int):=wS hi2 h0 (by first | exact h16r | exact h16)
   refine cW ?_
   rw [hV]
   exact bM rfl (.pure rfl)
  ·have hn:∀ j,j<i+1→pr (l.getD j default)=false:=fun j hj=>by
    rcases Nat.lt_succ_iff_lt_or_eq.1 hj with e | rfl
    ·exact h0 j e
    ·first | exact h16r | (simpa using h16)
   refine cO ?_
   refine aB rfl (.bin rfl rfl (bV (by omega))) ?_
   refine cP ?_
   exact kE (i+1) ⟨by omega,hn⟩
 ·obtain rfl:i=l.length:=by omega
  refine cV ?_
  rw [tG h0]
  exact bM rfl (.pure rfl)
namespace Zq61
theorem dG {p q:Prop} (k:q) (e:p=q:=by simp only [e1,e2,e3,e4,p1,p2,p3,q1,q2,q3,l1,t0,t1,r1,r2,r3,r4,Nat.zero_add,Nat.reduceMul,Nat.reduceAdd,b1,b2,b3,b4,b5,b6,i1,i2,i3,i4,i5,i6,Nat.reduceBEq,List.set_cons_zero,List.set_cons_succ,Nat.reduceEqDiff,reduceIte,if_true,if_false,bG,bF,aC fF,aC eI,aC aD,aS,aZ,LV.kill,bB];exact rfl):p:=e.mpr k
end Zq61
open Zq61 in
theorem aLw (f:Nat) (pr:PoR→Bool) (l:List PoR) (hl:l.length≤1048576) (hf:∀ x∈l,aM Tryz.prog f [gZ x] (bL (pr x))):aM Tryz.prog 161 [.list 12 (l.map gZ),.clo f []] (bL (l.any pr)):=by
 refine dI Tryz.func161 ?_
 refine dU ?_
 refine cp b9 (aKS f pr l hl hf) ?_
 refine dR ?_
 rw [←xM]
 exact bM rfl (.pure rfl)
theorem aPX {α:Type} (e:α→LV) (l:List α) (a b c d:α):l.map e++[e a,e b,e c,e d]=(l++[a,b,c,d]).map e:=by simp
theorem aD9 {a b:Nat} (h:a7 a=a7 b):a=b:=by rw [←aV a,h,aV]
section
variable {a b:Rat}
theorem aOK (h2:decide (a7 a.num.natAbs=a7 b.num.natAbs)=false):false=decide (a=b):=by
 symm;rw [decide_eq_false_iff_not];rintro rfl;simp at h2
theorem aNY (h:(decide (a<0)==decide (b<0))=true) (h2:decide (a7 a.num.natAbs=a7 b.num.natAbs)=true):decide (a7 (jA a)=a7 (jA b))=decide (a=b):=by
 rw [decide_eq_decide,sF]
 exact⟨fun h3=>⟨eq_of_beq h,aD9 (of_decide_eq_true h2),aD9 h3⟩,fun h3=>by rw [h3.2.2]⟩
end
def s7 (q:Rat):Nat:=max (eG q.num.natAbs) (eG q.den)
theorem aEq {q:Rat} {R:Nat} (h:rl q≤R):s7 q≤32*R:=by
 have h1:=fO q
 have h2:=f5 q
 have e1:eG q.num.natAbs≤32*R:=by
  rw [iY,Nat.pow_mul]
  exact dP (Nat.le_trans h1 h)
 have e2:eG q.den≤32*R:=by
  rw [iY,Nat.pow_mul]
  exact dP (Nat.le_trans h2 h)
 unfold s7;omega
def lT (k:List Rat) (t:Rat):Nat→Nat
 | 0=>0
 | i+1=>lT k t i+(if k.getD i 0=t then 1 else 0)
theorem v7 (k:List Rat) (t:Rat):∀ i,lT k t i≤i
 | 0=>Nat.le_refl _
 | i+1=>by have:=v7 k t i;rw [lT];split<;>omega
def fB (k:List Rat):Nat→List Rat
 | 0=>[]
 | i+1=>if i=0∨k.getD i 0≠k.getD (i-1) 0 then fB k i++[k.getD i 0] else fB k i
theorem wA (k:List Rat):∀ i,(fB k i).length≤i
 | 0=>Nat.le_refl _
 | i+1=>by
  have:=wA k i
  rw [fB];split
  ·simp;omega
  ·omega
theorem uP (k:List Rat):∀ i,0<i→0<(fB k i).length
 | 1,_=>by rw [fB,if_pos (.inl rfl)];simp
 | i+2,_=>by
  have:=uP k (i+1) (by omega)
  rw [fB];split
  ·simp
  ·exact this
theorem rX (k:List Rat):∀ i,i≤k.length→∀ x∈fB k i,x∈k
 | 0,_,x,h=>by cases h
 | i+1,hi,x,h=>by
  rw [fB] at h
  split at h
  ·rcases List.mem_append.1 h with h | h
   ·exact rX k i (by omega) x h
   ·rw [List.mem_singleton.1 h];exact cC (by omega)
  ·exact rX k i (by omega) x h
structure kOK (k:List Rat) (d:Nat):Prop where
 d1:1≤d
 d6:d≤6
 len:2*d+2≤k.length
 max:k.length≤d+41
 srt:∀ i,i+1<k.length→k.getD i 0≤k.getD (i+1) 0
 ne:k.getD 0 0≠k.getD (k.length-1) 0
 endk:∀ t∈k,(t=k.getD 0 0∨t=k.getD (k.length-1) 0)→lT k t k.length=d+1
 ink:∀ t∈k,t≠k.getD 0 0→t≠k.getD (k.length-1) 0→lT k t k.length≤d
 sz:∀ x∈k,rl x≤64
theorem zZ {k:List Rat}:∀ i,i≤k.length→(∀ j,1≤j→j<i→k.getD j 0≠k.getD (j-1) 0)→fB k i=k.take i
 | 0,_,_=>rfl
 | i+1,hi,h=>by
  rw [fB,zZ i (by omega) (fun j h1 h2=>h j h1 (by omega)),if_pos (by
   by_cases e:i=0
   ·exact .inl e
   ·exact .inr (h i (by omega) (by omega))),List.take_add_one,List.getD_eq_getElem?_getD,List.getElem?_eq_getElem (by omega)];rfl
theorem aO3 {k:List Rat} {i:Nat} (h0:0<i) (h:k.getD i 0≠k.getD (i-1) 0):fB k (i+1)=fB k i++[k.getD i 0]:=by rw [fB,if_pos (.inr h)]
theorem aNe {k:List Rat} {i:Nat} (h0:0<i) (h:k.getD i 0=k.getD (i-1) 0):fB k (i+1)=fB k i:=by rw [fB,if_neg (fun e=>e.elim (fun e=>by omega) (fun e=>e h))]
theorem aKQ {w:List Rat} {m n:Nat} (hm:m≤n) (hw:w.length=n):(w.map ratL).take m++List.replicate (n-m) (ratL 0)++(w.map ratL).drop (m+(n-m))=(w.take m++List.replicate (n-m) 0).map ratL:=by
 rw [List.drop_of_length_le (by simp;omega)]
 simp [List.map_take]
theorem aCC {l:List Rat} {k:Nat} (h:k<l.length):l.take k++[l.getD k 0]=l.take (k+1):=by
 rw [List.take_add_one,List.getElem?_eq_getElem h,List.getD_eq_getElem?_getD,List.getElem?_eq_getElem h];rfl
theorem aIX {α:Type} {e:α→LV} {ag:Bool} {bs:List Nat} {L:St} {b sz len:Nat} {l m:List α} {t:Bool} (he:EncOK e sz ag) (hb:L.heap b=some ⟨sz,(l++m).map e,t⟩) (hbs:bs.contains b=true) (hl:len=l.length):Imm (L.frz bs).heap (.ref b sz 0 len) (.list sz (l.map e)):=by
 have:=uM (off:=0) (len:=len) hb hbs (aH he _) (by simp;omega)
 subst hl
 rwa [List.drop_zero,←List.map_take,List.take_left] at this
open H0 in
theorem mM (a b:Rat) (h:rl a+rl b≤1099511627776):aM Tryz.prog 175 [ratL a,ratL b] (bL (decide (a=b))):=by
 have a1:=fO a
 have a3:=eO a
 have c1:=fO b
 have c3:=eO b
 refine dI Tryz.func175 ?_
 refine iJ ?_
 refine dJ 10 rfl (fun h10r h10=>?_) (fun h10r h10=>?_)
 ·refine cO ?_
  refine cp b9 (u5 _ _ (by omega) (by omega)) ?_
  refine cY ?_
  refine dJ 17 rfl (fun h17r h17=>?_) (fun h17r h17=>?_)
  ·refine cO ?_
   refine cp b9 (u5 _ _ (by omega) (by omega)) ?_
   refine dR ?_
   rw [←aNY h10r h17r]
   exact bM rfl (by first | exact .pure rfl | exact .pure (bA _) | exact .pure (aO _) | exact .pure (aD.pure _) | exact .pure (aG cT _ _) | exact .pure (aG aD _ _))
  ·refine cN ?_
   rw [←aOK h17r]
   exact bM rfl (by first | exact .pure rfl | exact .pure (bA _) | exact .pure (aO _) | exact .pure (aD.pure _) | exact .pure (aG cT _ _) | exact .pure (aG aD _ _))
 ·refine nY ?_
  rw [←aJK h10r]
  exact bM rfl (by first | exact .pure rfl | exact .pure (bA _) | exact .pure (aO _) | exact .pure (aD.pure _) | exact .pure (aG cT _ _) | exact .pure (aG aD _ _))
namespace Zq95
theorem dG {p q:Prop} (k:q) (e:p=q:=by simp only [e1,e2,e3,e4,p1,p2,p3,q1,q2,q3,l1,t0,t1,r1,r2,r3,r4,Nat.zero_add,Nat.reduceMul,Nat.reduceAdd,b1,b2,b3,b4,b5,b6,i1,i2,i3,i4,i5,i6,Nat.reduceBEq,aV];exact rfl):p:=e.mpr k
end Zq95
open Zq95 in
theorem aJG (q:Rat) (h:rl q≤1000000):aM Tryz.prog 164 [ratL q] (aE (s7 q)):=by
 have a1:=fO q
 have a2:=f5 q
 have a3:=eO q
 refine dI Tryz.func164 ?_
 refine dL ?_
 refine aP 8 (by decide +kernel) ?_
 refine cY ?_
 refine cp dC (mH _ (aX _) (by omega)) ?_
 refine bE ?_
 refine cp dC (pR _) ?_
 refine cp dC (mH _ (aX _) (by omega)) ?_
 refine dR ?_
 rw [s7]
 refine bM ?_ (.pure rfl)
 simp only [e1,e2,e3,e4,p1,p2,p3,q1,q2,q3,Nat.reduceBEq,aV]
 congr 2
 omega
namespace Zq67
theorem dG {p q:Prop} (k:q) (e:p=q:=by simp only [e1,e2,e3,e4,p1,p2,p3,q1,q2,q3,l1,t0,t1,r1,r2,r3,r4,Nat.zero_add,Nat.reduceMul,Nat.reduceAdd,b1,b2,b3,b4,b5,b6,i1,i2,i3,i4,i5,i6,Nat.reduceBEq,gW,eij,eii,List.set_cons_zero,List.set_cons_succ,Nat.reduceEqDiff,reduceIte,if_true,if_false,bG,bF,aC fF,aC eI,aC aD,aS,aZ,LV.kill,bB];exact rfl):p:=e.mpr k
end Zq67
open Zq67 in
theorem aCI (f:Nat) (k:List Rat) (h0:0<k.length) (hl:k.length≤1048576) (hs:∀ i,i+1<k.length→k.getD i 0≤k.getD (i+1) 0) (hf:∀ x∈k,∀ y∈k,aM Tryz.prog f [ratL x,ratL y] (iL (mD x y))):aM Tryz.prog 224 [.list 3 (k.map ratL),.clo f []] (bL true):=by
 refine dI Tryz.func224 ?_
 have eij:True:=trivial
 have eii:True:=trivial
 refine cN ?_
 refine aB rfl (.bin rfl rfl (iG (by omega) (by omega))) ?_
 refine cO ?_
 refine lX (fun(i:Nat) L=>((((St.mk L.slot (hp [])).put (some 0) (.list 3 (k.map ratL))).put (some 1) (.clo f [])).put (some 5) (aE i))) (fun i=>i<k.length) (fun i=>i) (k.length-1) (by omega) ?_
 rintro i L1 hi
 refine dL ?_
 refine aK rfl (fun h10r h10=>?_) (fun h10r h10=>?_)
 ·have hi2:0<i:=by omega
  have eij:((i:Int)-1).toNat=i-1:=by omega
  have eii:((i:Int)).toNat=i:=by omega
  have hc:=hf _ (cC (p:=k) (i:=i) hi) _ (cC (p:=k) (i:=i-1) (by omega))
  have hge:=hs (i-1) (by omega)
  rw [Nat.sub_add_cancel (by omega)] at hge
  have hcg:0≤mD (k.getD i 0) (k.getD (i-1) 0):=aDZ.2 hge
  refine dR ?_
  refine aP 12 (by decide +kernel) ?_
  refine dL ?_
  refine aB rfl (.bin rfl rfl (iG (by omega) (by omega))) ?_
  refine cY ?_
  refine eP [] rfl rfl (.clo (f:=f) (cap:=[]) (args:=[ratL (k.getD i 0),ratL (k.getD (i-1) 0)]) rfl (.cons kR (.cons kR .nil)) ⟨rfl,fun _ h=>by cases h⟩ hc.1 (by decide) (fun _ h=>by cases h)) (hc.2 _) ?_
  refine cP ?_
  refine aK rfl (fun h24r h24=>?_) (fun h24r h24=>?_)
  ·omega
  ·refine dR ?_
   refine aB rfl (.bin rfl rfl (iG (by omega) (by omega))) ?_
   refine cP ?_
   exact kE (i-1) (by omega)
 ·refine cV ?_
  exact bM rfl (.pure rfl)
namespace Zq69
theorem dG {p q:Prop} (k:q) (e:p=q:=by simp only [e1,e2,e3,e4,p1,p2,p3,q1,q2,q3,l1,t0,t1,r1,r2,r3,r4,Nat.zero_add,Nat.reduceMul,Nat.reduceAdd,b1,b2,b3,b4,b5,b6,i1,i2,i3,i4,i5,i6,Nat.reduceBEq,gW,List.set_cons_zero,List.set_cons_succ,Nat.reduceEqDiff,reduceIte,if_true,if_false,bG,bF,aC fF,aC eI,aC aD,aS,aZ,LV.kill,bB];exact rfl):p:=e.mpr k
end Zq69
open Zq69 in
theorem aHJ (k:List Rat) (hl:k.length≤1048576) (hr:∀ x∈k,rl x≤549755813888) (t:Rat) (ht:rl t≤549755813888):aM Tryz.prog 226 [.list 3 (k.map ratL),ratL t] (aE (lT k t k.length)):=by
 refine dI Tryz.func226 ?_
 refine mV ?_
 refine lX (fun(i:Nat) L=>((((((St.mk L.slot (hp [(3,⟨3,[ratL t],true⟩)])).put (some 3) (.eptr 3 3 0 0)).put (some 5) (aE (lT k t i))).put (some 8) (.list 3 (k.map ratL))).put (some 9) (aE k.length)).put (some 10) (aE i))) (fun i=>i≤k.length) (fun i=>k.length-i) 0 (Nat.zero_le _) ?_
 rintro i L1 hi
 refine dB ?_
 refine aK rfl (fun h11r h11=>?_) (fun h11r h11=>?_)
 ·have hi2:i<k.length:=by omega
  have hx:=hr _ (cC (i:=i) (by omega))
  have htl:=v7 k t i
  refine mY ?_
  refine cp b9 (mM (k.getD i 0) t (by omega)) ?_
  refine cY ?_
  refine aK rfl (fun h16r h16=>?_) (fun h16r h16=>?_)
  ·have hT:lT k t (i+1)=lT k t i+1:=by rw [lT,if_pos h16]
   refine cY ?_
   refine aB rfl (.bin rfl rfl (bV (by omega))) ?_
   refine cO ?_
   refine bR (bI.kill _ 7) ?_
   refine aB rfl (.bin rfl rfl (bV (by omega))) ?_
   refine cP ?_
   exact kE (i+1) (by omega)
  ·have hT:lT k t (i+1)=lT k t i:=by rw [lT,if_neg h16];rfl
   refine cP ?_
   refine bR (bI.kill _ 7) ?_
   refine aB rfl (.bin rfl rfl (bV (by omega))) ?_
   refine cP ?_
   exact kE (i+1) (by omega)
 ·obtain rfl:i=k.length:=by omega
  refine cW ?_
  exact bM rfl (.pure rfl)
namespace Zq4
theorem dG {p q:Prop} (k:q) (e:p=q:=by simp only [e1,e2,e3,e4,p1,p2,p3,q1,q2,q3,l1,t0,t1,r1,r2,r3,r4,Nat.zero_add,Nat.reduceMul,Nat.reduceAdd,b1,b2,b3,b4,b5,b6,i1,i2,i3,i4,i5,i6,Nat.reduceBEq,gW,eij,eii,eik,eia,ecl,eyl,ewa,ewb,Nat.zero_add,Nat.add_zero,List.length_set,List.length_map,List.set_cons_zero,List.set_cons_succ,Nat.reduceEqDiff,reduceIte,if_true,if_false,bG,bF,aC fF,aC eI,aC aD,aS,aZ,LV.kill,bB];exact rfl):p:=e.mpr k
end Zq4
open Zq4 in
theorem aET (f:Nat) (l:List Rat) (h0:0<l.length) (hl:l.length≤1048576) (hf:∀ x∈l,∀ y∈l,aM Tryz.prog f [ratL x,ratL y] (bL (decide (x=y)))):gH Tryz.prog 268 ⟨3,l.map ratL,true⟩ [.ref 0 3 0 l.length,.clo f []] (.ref 0 3 0 (fB l l.length).length) ⟨3,((fB l l.length)++List.replicate (l.length-(fB l l.length).length) 0).map ratL,true⟩:=by
 refine fnM Tryz.func268 ?_
 have eij:True:=trivial
 have eii:True:=trivial
 have eik:True:=trivial
 have eia:True:=trivial
 have ecl:True:=trivial
 have eyl:True:=trivial
 have ewa:True:=trivial
 have ewb:True:=trivial
 refine eA ?_
 refine aK rfl (fun h10r h10=>?_) (fun h10r h10=>?_)
 ·obtain rfl1:l.length=1:=by omega
  have hE:(fB l l.length)=l:=by rw [zZ _ (Nat.le_refl _) (fun j h1 h2=>by omega),List.take_length]
  refine eC ?_
  first | (rw [hE,Nat.sub_self,List.replicate_zero,List.append_nil];exact oM rfl .ref rfl rfl (aH aD _)) | (exact oM rfl .ref (by first | rfl | (simp;done)) rfl (aH aD _))
 ·refine dU ?_
  refine lX (fun(i:Nat) L=>((((St.mk L.slot (hp [(0,⟨3,l.map ratL,true⟩)])).put (some 0) (.ref 0 3 0 l.length)).put (some 1) (.clo f [])).put (some 5) (aE i))) (fun i=>1≤i∧i≤l.length∧∀ j,1≤j→j<i→l.getD j 0≠l.getD (j-1) 0) (fun i=>l.length-i) 1 ⟨Nat.le_refl _,by omega,fun j h1 h2=>by omega⟩ ?_
  rintro i L1 ⟨hi1,hil,hne⟩
  refine dU ?_
  refine aK rfl (fun h15r h15=>?_) (fun h15r h15=>?_)
  ·have hi2:i<l.length:=by omega
   have eij:((i:Int)-1).toNat=i-1:=by omega
   have eii:((i:Int)).toNat=i:=by omega
   have hc:=hf _ (cC (p:=l) (i:=i) hi2) _ (cC (p:=l) (i:=i-1) (by omega))
   refine dR ?_
   refine aP 11 (by decide +kernel) ?_
   refine dL ?_
   refine aB rfl (.bin rfl rfl (iG (by omega) (by omega))) ?_
   refine cY ?_
   try simp only [t1,gW,eij,eii,Nat.zero_add]
   refine eP [] rfl rfl (.clo (f:=f) (cap:=[]) (args:=[ratL (l.getD i 0),ratL (l.getD (i-1) 0)]) rfl (.cons kR (.cons kR .nil)) ⟨rfl,fun _ h=>by cases h⟩ hc.1 (by decide) (fun _ h=>by cases h)) (hc.2 _) ?_
   refine cY ?_
   refine aK rfl (fun h28r h28=>?_) (fun h28r h28=>?_)
   ·have hdi:fB l (i+1)=fB l i:=aNe (by omega) h28
    have hdt:fB l i=l.take i:=zZ i hil hne
    have hln:(l.take i).length=i:=by rw [List.length_take];omega
    have hst:1≤1∧i+1≤l.length∧l.length=l.length∧(fB l (i+1)).length+1≤i+1∧l.take (fB l (i+1)).length=fB l (i+1)∧∀ x,i+1-1≤x→l.getD x 0=l.getD x 0:=⟨Nat.le_refl _,by omega,rfl,by rw [hdi,hdt,hln];omega,by rw [hdi,hdt,hln],fun _ _=>rfl⟩
    have eia:(fB l (i+1)).length=i:=by rw [hdi,hdt,hln]
    refine cO ?_
    refine aB rfl (.sliceR (a:=i) (h:=l.length) rfl Tryz.underlying36 cX (fun y hy=>by cases hy;exact⟨_,rfl⟩) (fun h=>by cases h) (fun y hy=>by cases hy) (fun _=>rfl) om om om) ?_
    refine cN ?_
    refine nD (fun(j:Nat) (w:List Rat) L=>((((((St.mk L.slot (hp [(0,⟨3,w.map ratL,true⟩)])).put (some 0) (.ref 0 3 0 l.length)).put (some 1) (.clo f [])).put (some 5) (aE (fB l (i+j)).length)).put (some 6) (.ref 0 3 i (l.length-i))).put (some 7) (aE j))) (fun j w=>1≤j∧i+j≤l.length∧w.length=l.length∧(fB l (i+j)).length+1≤i+j∧w.take (fB l (i+j)).length=(fB l (i+j))∧∀ x,i+j-1≤x→w.getD x 0=l.getD x 0) (fun j w=>l.length-(i+j)) 1 l hst ?_
    rintro j w L2 ⟨hj1,hij,hwl,hdl,hwt,hwx⟩
    refine dU ?_
    refine aK rfl (fun h35r h35=>?_) (fun h35r h35=>?_)
    ·have hi3:i+j<l.length:=by omega
     have ewa:w.getD (i+j) 0=l.getD (i+j) 0:=hwx _ (by omega)
     have ewb:w.getD (i+(j-1)) 0=l.getD (i+j-1) 0:=by rw [show i+(j-1)=i+j-1 by omega];exact hwx _ (by omega)
     have eik:((j:Int)-1).toNat=j-1:=by omega
     have hc:=hf _ (cC (p:=l) (i:=i+j) hi3) _ (cC (p:=l) (i:=i+j-1) (by omega))
     have hd2:(fB l (i+j)).length<l.length:=by omega
     refine dR ?_
     refine aP 12 (by decide +kernel) ?_
     refine dL ?_
     refine aB rfl (.bin rfl rfl (iG (by omega) (by omega))) ?_
     refine cY ?_
     try simp only [t1,gW,eik,ewa,ewb]
     refine eP [] rfl rfl (.clo (f:=f) (cap:=[]) (args:=[ratL (l.getD (i+j) 0),ratL (l.getD (i+j-1) 0)]) rfl (.cons kR (.cons kR .nil)) ⟨rfl,fun _ h=>by cases h⟩ hc.1 (by decide) (fun _ h=>by cases h)) (hc.2 _) ?_
     refine cP ?_
     refine aK rfl (fun h49r h49=>?_) (fun h49r h49=>?_)
     ·have hy:=aO3 (k:=l) (i:=i+j) (by omega) h49
      have eyl:(fB l (i+(j+1))).length=(fB l (i+j)).length+1:=by rw [←Nat.add_assoc,hy];simp
      have hyl:(fB l (i+j+1)).length=(fB l (i+j)).length+1:=by rw [hy];simp
      have hnA:1≤j+1∧i+(j+1)≤l.length∧(w.set (fB l (i+j)).length (l.getD (i+j) 0)).length=l.length∧(fB l (i+(j+1))).length+1≤i+(j+1)∧(w.set (fB l (i+j)).length (l.getD (i+j) 0)).take (fB l (i+(j+1))).length=fB l (i+(j+1))∧∀ x,i+(j+1)-1≤x→(w.set (fB l (i+j)).length (l.getD (i+j) 0)).getD x 0=l.getD x 0:=⟨by omega,by omega,by simp [hwl],by rw [←Nat.add_assoc,hyl];omega,by rw [←Nat.add_assoc,hyl,hy,List.take_add_one,List.take_set_of_le (Nat.le_refl _),hwt,List.getElem?_set_self (by omega)];rfl,fun x hx=>by rw [pC _ _ _ _ (by omega),if_neg (by omega)];exact hwx x (by omega)⟩
      refine dU ?_
      try simp only [t1,gW,ewa,Nat.zero_add]
      refine dR ?_
      refine aB rfl (.bin rfl rfl (bV (by omega))) ?_
      refine dB ?_
      refine aB rfl (.bin rfl rfl (bV (by omega))) ?_
      refine cP ?_
      exact lI (j+1) (w.set (fB l (i+j)).length (l.getD (i+j) 0)) hnA
     ·have hy:=aNe (k:=l) (i:=i+j) (by omega) h49
      have eyl:(fB l (i+(j+1))).length=(fB l (i+j)).length:=by rw [←Nat.add_assoc,hy]
      have hnB:1≤j+1∧i+(j+1)≤l.length∧w.length=l.length∧(fB l (i+(j+1))).length+1≤i+(j+1)∧w.take (fB l (i+(j+1))).length=fB l (i+(j+1))∧∀ x,i+(j+1)-1≤x→w.getD x 0=l.getD x 0:=⟨by omega,by omega,hwl,by rw [←Nat.add_assoc,hy];omega,by rw [←Nat.add_assoc,hy];exact hwt,fun x hx=>hwx x (by omega)⟩
      refine dR ?_
      refine aB rfl (.bin rfl rfl (bV (by omega))) ?_
      refine cP ?_
      exact lI (j+1) w hnB
    ·obtain rfl:j=l.length-i:=by omega
     have eia:i+(l.length-i)=l.length:=by omega
     have hdr:=hdl
     rw [eia] at hdl hwt
     have ecl:=aKQ (w:=w) (m:=(fB l l.length).length) (n:=l.length) (by omega) hwl
     rw [hwt] at ecl
     refine dU ?_
     refine aB rfl (.sliceR (a:=(fB l (i+(l.length-i))).length) (h:=l.length) rfl Tryz.underlying36 cX (fun y hy=>by cases hy;exact⟨_,rfl⟩) (fun h=>by cases h) (fun y hy=>by cases hy) (fun _=>rfl) om om om) ?_
     refine bD rfl (.clr (n:=l.length-(fB l (i+(l.length-i))).length) (off:=0+(fB l (i+(l.length-i))).length) (z:=ratL 0) (blk:=⟨3,w.map ratL,true⟩) rfl rfl rfl rfl (by rw [List.length_map];omega) Tryz.underlying36 (eW ▸ eH) (aD.csize 0)) ?_
     refine dB ?_
     refine aB rfl (.sliceRh rfl Tryz.underlying36 cX rfl om om) ?_
     refine dU ?_
     first | (rw [hE,Nat.sub_self,List.replicate_zero,List.append_nil];exact oM rfl .ref rfl rfl (aH aD _)) | (exact oM rfl .ref (by first | rfl | (simp;done)) rfl (aH aD _))
   ·have hnx:∀ j,1≤j→j<i+1→l.getD j 0≠l.getD (j-1) 0:=fun j h1 h2=>by
     rcases Nat.lt_succ_iff_lt_or_eq.1 h2 with e | rfl
     ·exact hne j h1 e
     ·exact h28
    refine dR ?_
    refine aB rfl (.bin rfl rfl (bV (by omega))) ?_
    refine cP ?_
    exact kE (i+1) ⟨by omega,by omega,hnx⟩
  ·obtain rfl:i=l.length:=by omega
   have hE:(fB l l.length)=l:=by rw [zZ _ (Nat.le_refl _) hne,List.take_length]
   refine cW ?_
   first | (rw [hE,Nat.sub_self,List.replicate_zero,List.append_nil];exact oM rfl .ref rfl rfl (aH aD _)) | (exact oM rfl .ref (by first | rfl | (simp;done)) rfl (aH aD _))
namespace Zq70
theorem dG {p q:Prop} (k:q) (e:p=q:=by simp only [e1,e2,e3,e4,p1,p2,p3,q1,q2,q3,l1,t0,t1,r1,r2,r3,r4,Nat.zero_add,Nat.reduceMul,Nat.reduceAdd,b1,b2,b3,b4,b5,b6,i1,i2,i3,i4,i5,i6,Nat.reduceBEq,gW,Rat.add_zero,ers,etk,Nat.zero_add,bJ,cI,bQ,List.length_cons,List.length_nil,List.nil_append,List.map_nil,List.take_nil,List.append_nil,List.set_cons_zero,List.set_cons_succ,Nat.reduceEqDiff,reduceIte,if_true,if_false,bG,bF,aC fF,aC eI,aC aD,aS,aZ,LV.kill,bB];exact rfl):p:=e.mpr k
end Zq70
open Zq70 in
theorem aDf (p:List Rat) (hl:p.length≤1048576) (hpr:∀ x∈p,rl x≤274877906944):f3 Tryz.prog 269 [.list 3 (p.map ratL)] (.ref 1 3 0 p.length) [⟨3,p.map ratL,true⟩]:=by
 refine fnO Tryz.func269 ?_
 have ers:True:=trivial
 have etk:True:=trivial
 refine dU ?_
 refine dD rfl rfl (.mkE (n:=0) (m:=p.length) ml ml om om om) ?_
 refine cW ?_
 refine lX (fun(k:Nat) L=>(((((St.mk L.slot (hp [(8,⟨3,(p.take k).map ratL,true⟩)])).put (some 3) (.ref 8 3 0 k)).put (some 9) (.list 3 (p.map ratL))).put (some 10) (aE p.length)).put (some 11) (aE k))) (fun k=>k≤p.length) (fun k=>p.length-k) 0 (Nat.zero_le _) ?_
 rintro k L1 hk
 refine dB ?_
 refine aK rfl (fun h12r h12=>?_) (fun h12r h12=>?_)
 ·have hk2:k<p.length:=by omega
  have hrk:=hpr _ (cC hk2)
  have hA:=lH (p.getD k 0) 0 (by rw [show rl 0=1 from rfl];omega)
  rw [Rat.add_zero] at hA
  have ers:=aCC (l:=p) hk2
  have etk:((p.take k).map ratL).take k=(p.take k).map ratL:=List.take_of_length_le (by rw [List.length_map,List.length_take];omega)
  refine iJ ?_
  refine aB rfl (.build0 tI eH) ?_
  refine cp b9 (hA) ?_
  refine bE ?_
  refine bD rfl (.appX (d:=8) (news:=[ratL (p.getD k 0)]) rfl rfl rfl rfl (by simp;omega) (.inl rfl) (by decide) Tryz.underlying36 Tryz.underlying36 eH cX rfl lB (.inl ⟨19,0,_,rfl,by decide,rfl,rfl,by simp,rfl,by simp [aY,aD.pure]⟩) (by simp;omega) (by simp;omega) (by decide)) ?_
  refine cO ?_
  refine bR ((bI.kill _ 5).trans (bI.kill _ 19)) ?_
  refine aB rfl (.bin rfl rfl (bV (by omega))) ?_
  refine cP ?_
  exact kE (k+1) (by omega)
 ·obtain rfl:k=p.length:=by omega
  have hE:p.take p.length=p:=List.take_length
  refine cW ?_
  rw [hE]
  exact r9 rfl rfl (aH aD _)
namespace Zq11
theorem dG {p q:Prop} (k:q) (e:p=q:=by simp only [e1,e2,e3,e4,p1,p2,p3,q1,q2,q3,l1,t0,t1,r1,r2,r3,r4,Nat.zero_add,Nat.reduceMul,Nat.reduceAdd,b1,b2,b3,b4,b5,b6,i1,i2,i3,i4,i5,i6,Nat.reduceBEq,List.set_cons_zero,List.set_cons_succ,Nat.reduceEqDiff,reduceIte,if_true,if_false,bG,bF,aC fF,aC eI,aC aD,aS,aZ,LV.kill,bB];exact rfl):p:=e.mpr k
end Zq11
open Zq11 in
theorem aCJ (k:List Rat) (h0:0<k.length) (hl:k.length≤1048576) (hr:∀ x∈k,rl x≤274877906944):aM Tryz.prog 225 [.list 3 (k.map ratL)] (.list 3 ((fB k k.length).map ratL)):=by
 refine dI Tryz.func225 ?_
 refine eC ?_
 refine lE [] rfl rfl (.cons (.pure (aG aD _ _)) .nil) (aDf k hl hr) (aH aD _) rfl ?_
 refine lF 1000065 rfl rfl rfl (aH aD _) (.cons .ref (.cons (.imm (.pure rfl)) .nil)) (.ref h0) (aET 175 k h0 hl (fun x hx y hy=>mM x y (by have:=hr x hx;have:=hr y hy;omega))) rfl (aH aD _) ?_
 refine cO ?_
 exact kP [1000065] rfl rfl (aIX aD rfl rfl rfl)
open H0 in
theorem aAT (k:List Rat) (d:Nat) (h:d+1≤k.length) (hl:k.length≤1048576):aM Tryz.prog 227 [.list 3 (k.map ratL),aE d] (aE (k.length-d-1)):=by
 refine dI Tryz.func227 ?_
 refine cN ?_
 refine aB rfl (.bin rfl rfl (iK (by omega) (by omega))) ?_
 refine aB rfl (.bin rfl rfl (iK (by omega) (by omega))) ?_
 refine cO ?_
 refine bM ?_ (.pure rfl)
 simp only [e1,e2,e3,e4,p1,p2,p3,q1,q2,q3,Nat.reduceBEq]
 congr 2
 omega
namespace Zq68
theorem dG {p q:Prop} (k:q) (e:p=q:=by simp only [e1,e2,e3,e4,p1,p2,p3,q1,q2,q3,l1,t0,t1,r1,r2,r3,r4,Nat.zero_add,Nat.reduceMul,Nat.reduceAdd,b1,b2,b3,b4,b5,b6,i1,i2,i3,i4,i5,i6,Nat.reduceBEq,gW,hix,List.set_cons_zero,List.set_cons_succ,Nat.reduceEqDiff,reduceIte,if_true,if_false,bG,bF,aC fF,aC eI,aC aD,aS,aZ,LV.kill,bB];exact rfl):p:=e.mpr k
end Zq68
open Zq68 in
theorem aA7 (k:List Rat) (d:Nat) (h:kOK k d):aM Tryz.prog 159 [.list 3 (k.map ratL),aE d] (iL 0):=by
 have hd1:=h.d1
 have hd6:=h.d6
 have hlen:=h.len
 have hmax:=h.max
 have hr:∀ x∈k,rl x≤274877906944:=fun x hx=>Nat.le_trans (h.sz x hx) (by decide)
 have hix:((k.length:Int)-1).toNat=k.length-1:=by omega
 have hr0:=h.sz _ (cC (p:=k) (i:=0) (by omega))
 have hr1:=h.sz _ (cC (p:=k) (i:=k.length-1) (by omega))
 have hS:aM Tryz.prog 224 [.list 3 (k.map ratL),.clo 152 []] (bL true):=aCI 152 k (by omega) (by omega) h.srt (fun x hx y hy=>w7 x y (by have:=h.sz x hx;have:=h.sz y hy;omega))
 refine dI Tryz.func159 ?_
 refine cV ?_
 refine aB rfl (.bin rfl rfl (iK (by omega) (by omega))) ?_
 refine aB rfl (.bin rfl rfl (iK (by omega) (by omega))) ?_
 refine dU ?_
 refine dJ 18 rfl (fun h18r h18=>?_) (fun h18r h18=>?_)
 ·omega
 ·refine dB ?_
  refine aK rfl (fun h15r h15=>?_) (fun h15r h15=>?_)
  ·omega
  ·refine dR ?_
   refine aB rfl (.bin rfl rfl (tX (by omega) (by omega))) ?_
   refine aB rfl (.bin rfl rfl (iS (by omega) (by omega))) ?_
   refine cO ?_
   refine aK rfl (fun h22r h22=>?_) (fun h22r h22=>?_)
   ·omega
   ·refine dL ?_
    refine aK rfl (fun h29r h29=>?_) (fun h29r h29=>?_)
    ·omega
    ·refine dR ?_
     refine aP 15 (by decide +kernel) ?_
     refine bE ?_
     refine cp b9 (hS) ?_
     refine eC ?_
     refine aB (aL (v:=false) rfl rfl (rfl) rfl) (.bin rfl rfl (iK (by omega) (by omega))) ?_
     refine cY ?_
     try simp only [t1,gW,hix]
     refine cp b9 (mM (k.getD 0 0) (k.getD (k.length-1) 0) (by omega)) ?_
     refine cP ?_
     refine bX (b:=_) rfl (decide_eq_false h.ne) ?_
     refine dB ?_
     refine cp dC (aCJ k (by omega) (by omega) hr) ?_
     refine dR ?_
     refine lX (fun(i:Nat) L=>((((((St.mk L.slot (hp [])).put (some 0) (.list 3 (k.map ratL))).put (some 1) (aE d)).put (some 48) (.list 3 ((fB k k.length).map ratL))).put (some 49) (aE (fB k k.length).length)).put (some 50) (aE i))) (fun i=>i≤(fB k k.length).length) (fun i=>(fB k k.length).length-i) 0 (Nat.zero_le _) ?_
     rintro i L1 hi
     refine dB ?_
     refine aK rfl (fun h51r h51=>?_) (fun h51r h51=>?_)
     ·have hdl:=wA k k.length
      have hi2:i<(fB k k.length).length:=by omega
      have hm:=rX k k.length (Nat.le_refl _) _ (cC hi2)
      have hrt:=h.sz _ hm
      have he1:=h.endk _ hm
      have he2:=h.ink _ hm
      refine mY ?_
      refine cp b9 (aHJ k (by omega) (fun x hx=>Nat.le_trans (hr x hx) (by decide)) ((fB k k.length).getD i 0) (by omega)) ?_
      refine cO ?_
      refine aP 16 (by decide +kernel) ?_
      refine cO ?_
      refine cp b9 (mM ((fB k k.length).getD i 0) (k.getD 0 0) (by omega)) ?_
      refine bE ?_
      refine dJ 62 rfl (fun h62r h62=>?_) (fun h62r h62=>?_)
      ·refine dL ?_
       try simp only [t1,gW,hix]
       refine cV ?_
       refine aB (aL (v:=true) rfl rfl (rfl) rfl) (.bin rfl rfl (iS (by omega) (by omega))) ?_
       refine cP ?_
       refine dJ 79 rfl (fun h79r h79=>?_) (fun h79r h79=>?_)
       ·have:=he1 (by first | exact .inl h62 | exact .inr h73)
        omega
       ·refine cP ?_
        refine kZ (aL (v:=false) rfl rfl ((by first | rfl | (rw [h73r];rfl))) rfl) ?_
        refine kZ (aL (v:=false) rfl rfl ((by first | rfl | (rw [h73r];rfl))) rfl) ?_
        refine kZ (aL (v:=false) rfl rfl ((by first | rfl | (rw [h73r];rfl))) rfl) ?_
        refine aB (aL (v:=false) rfl rfl (h79r) rfl) (.pickF rfl ((by first | rfl | (rw [h73r];rfl)))) ?_
        refine dL ?_
        refine bR (bI.kill _ 7) ?_
        refine aB rfl (.bin rfl rfl (bV (by omega))) ?_
        refine cP ?_
        exact kE (i+1) (by omega)
      ·refine cO ?_
       refine aB (aL (v:=false) rfl rfl (h62r) rfl) (.bin rfl rfl (iK (by omega) (by omega))) ?_
       refine cY ?_
       try simp only [t1,gW,hix]
       refine cp b9 (mM ((fB k k.length).getD i 0) (k.getD (k.length-1) 0) (by omega)) ?_
       refine eC ?_
       refine dJ 73 rfl (fun h73r h73=>?_) (fun h73r h73=>?_)
       ·refine cY ?_
        refine aB (aL (v:=true) rfl rfl (h73r) rfl) (.bin rfl rfl (iS (by omega) (by omega))) ?_
        refine cP ?_
        refine dJ 79 rfl (fun h79r h79=>?_) (fun h79r h79=>?_)
        ·have:=he1 (by first | exact .inl h62 | exact .inr h73)
         omega
        ·refine cP ?_
         refine kZ (aL (v:=false) rfl rfl ((by first | rfl | (rw [h73r];rfl))) rfl) ?_
         refine kZ (aL (v:=false) rfl rfl ((by first | rfl | (rw [h73r];rfl))) rfl) ?_
         refine kZ (aL (v:=false) rfl rfl ((by first | rfl | (rw [h73r];rfl))) rfl) ?_
         refine aB (aL (v:=false) rfl rfl (h79r) rfl) (.pickF rfl ((by first | rfl | (rw [h73r];rfl)))) ?_
         refine dL ?_
         refine bR (bI.kill _ 7) ?_
         refine aB rfl (.bin rfl rfl (bV (by omega))) ?_
         refine cP ?_
         exact kE (i+1) (by omega)
       ·refine dU ?_
        refine aB (aL (v:=true) rfl rfl ((by first | rfl | (rw [h73r];rfl))) rfl) (.move _) ?_
        refine aB (aL (v:=true) rfl rfl ((by first | rfl | (rw [h73r];rfl))) rfl) (.move _) ?_
        refine aB (aL (v:=true) rfl rfl ((by first | rfl | (rw [h73r];rfl))) rfl) (.bin rfl rfl rfl) ?_
        refine aB (aL (v:=false) rfl rfl (rfl) rfl) (.pickT rfl ((by first | rfl | (rw [h73r];rfl)))) ?_
        refine cP ?_
        refine aK rfl (fun h87r h87=>?_) (fun h87r h87=>?_)
        ·have:=he2 h62 h73
         omega
        ·refine cP ?_
         refine bR (bI.kill _ 7) ?_
         refine aB rfl (.bin rfl rfl (bV (by omega))) ?_
         refine cP ?_
         exact kE (i+1) (by omega)
     ·refine cV ?_
      exact bM rfl (.pure rfl)
def bdS (R:Nat) (s:Rat × Rat):Prop:=rl s.1≤R∧rl s.2≤R
theorem bdS.le {R S:Nat} {s:Rat × Rat} (h:bdS R s) (k:R≤S):bdS S s:=⟨Nat.le_trans h.1 k,Nat.le_trans h.2 k⟩
theorem aNw {a b:Rat} {R:Nat} (ha:rl a≤R) (hb:rl b≤R):rl (mnR a b)≤R:=by unfold mnR;split<;>assumption
theorem aGs {a b:Rat} {R:Nat} (ha:rl a≤R) (hb:rl b≤R):rl (vB a b)≤R:=by unfold vB;split<;>assumption
theorem aK3 {R:Nat} {s t:Rat × Rat} (hs:bdS R s) (ht:bdS R t):bdS R (aBb s t):=⟨aNw hs.1 ht.1,aGs hs.2 ht.2⟩
structure _root_.Go.Lg.Bx3 where
 x:Rat × Rat
 y:Rat × Rat
 z:Rat × Rat
abbrev bxL (b:Bx3):LV:=.agg [spL b.x,spL b.y,spL b.z]
theorem bxE:EncOK bxL 18 true:=by
 refine⟨fun b=>?_,fun b=>rfl,fun b=>?_⟩
 ·simp [bxL,LV.csize,aT,jK.csize]
 ·simp [bxL,LV.pure,aY,jK.pure]
def bdB (R:Nat) (b:Bx3):Prop:=bdS R b.x∧bdS R b.y∧bdS R b.z
open H0 in
theorem aK6 (s:Rat × Rat) (x:Rat) (h1:rl s.1+rl x≤549755813888) (h2:rl x+rl s.2≤549755813888):aM Tryz.prog 130 [spL s,ratL x] (bL (t7 s x)):=by
 refine dI Tryz.func130 ?_
 refine cW ?_
 refine cp b9 (w7 _ _ (by omega)) ?_
 refine cY ?_
 refine dJ 10 rfl (fun h10r h10=>?_) (fun h10r h10=>?_)
 ·refine cP ?_
  refine cp b9 (w7 _ _ (by omega)) ?_
  refine dB ?_
  rw [←aPo h10r]
  exact bM rfl (by first | exact .pure rfl | exact .pure (bA _) | exact .pure (aO _) | exact .pure (aD.pure _) | exact .pure (aG cT _ _) | exact .pure (aG aD _ _))
 ·refine cN ?_
  rw [←aPy h10r]
  exact bM rfl (by first | exact .pure rfl | exact .pure (bA _) | exact .pure (aO _) | exact .pure (aD.pure _) | exact .pure (aG cT _ _) | exact .pure (aG aD _ _))
namespace Zq34
theorem dG {p q:Prop} (k:q) (e:p=q:=by simp only [e1,e2,e3,e4,p1,p2,p3,q1,q2,q3,l1,t0,t1,r1,r2,r3,r4,Nat.zero_add,Nat.reduceMul,Nat.reduceAdd,b1,b2,b3,b4,b5,b6,i1,i2,i3,i4,i5,i6,Nat.reduceBEq,List.set_cons_zero,List.set_cons_succ,Nat.reduceEqDiff,reduceIte,if_true,if_false,bG,bF,aC fF,aC eI,aC aD,aS,aZ,LV.kill,bB];exact rfl):p:=e.mpr k
end Zq34
open Zq34 in
theorem aEs (p:V3) (h:jF 100000000000 p):aM Tryz.prog 20 [fA p,fA p] (bL true):=by
 obtain⟨a1,a2,a3⟩:=h
 refine dI Tryz.func20 ?_
 refine eA ?_
 refine cp b9 (jO p.x p.x (by omega)) ?_
 refine bE ?_
 refine aB (aL (v:=true) rfl rfl ((decide_eq_true rfl)) rfl) ixA ?_
 refine aB (aL (v:=true) rfl rfl ((decide_eq_true rfl)) rfl) kS ?_
 refine aB (aL (v:=true) rfl rfl ((decide_eq_true rfl)) rfl) ixA ?_
 refine aB (aL (v:=true) rfl rfl ((decide_eq_true rfl)) rfl) kS ?_
 refine dX (aL (v:=true) rfl rfl ((decide_eq_true rfl)) rfl) (.cons kR (.cons kR .nil)) (jO p.y p.y (by omega)) ?_
 refine aB rfl (.pickT rfl ((decide_eq_true rfl))) ?_
 refine bE ?_
 refine aB (aL (v:=true) rfl rfl ((decide_eq_true rfl)) rfl) ixA ?_
 refine aB (aL (v:=true) rfl rfl ((decide_eq_true rfl)) rfl) kS ?_
 refine aB (aL (v:=true) rfl rfl ((decide_eq_true rfl)) rfl) ixA ?_
 refine aB (aL (v:=true) rfl rfl ((decide_eq_true rfl)) rfl) kS ?_
 refine dX (aL (v:=true) rfl rfl ((decide_eq_true rfl)) rfl) (.cons kR (.cons kR .nil)) (jO p.z p.z (by omega)) ?_
 refine aB rfl (.pickT rfl ((decide_eq_true rfl))) ?_
 refine cO ?_
 refine bM (x:=bL true) ?_ (.pure rfl)
 first | rfl | (simp;done)
namespace Zq18
theorem dG {p q:Prop} (k:q) (e:p=q:=by simp only [e1,e2,e3,e4,p1,p2,p3,q1,q2,q3,l1,t0,t1,r1,r2,r3,r4,Nat.zero_add,Nat.reduceMul,Nat.reduceAdd,b1,b2,b3,b4,b5,b6,i1,i2,i3,i4,i5,i6,Nat.reduceBEq,List.getD_cons_zero,List.getD_cons_succ,List.set_cons_zero,List.set_cons_succ,Nat.reduceEqDiff,reduceIte,if_true,if_false,bG,bF,aC fF,aC eI,aC aD,aS,aZ,LV.kill,bB];exact rfl):p:=e.mpr k
end Zq18
open Zq18 in
theorem aFf (b:Bx3) (h:bdB 1000000 b):aM Tryz.prog 32 [bxL b,bxL b] (bL true):=by
 obtain⟨⟨a1,a2⟩,⟨a3,a4⟩,⟨a5,a6⟩⟩:=h
 refine dI Tryz.func32 ?_
 refine eA ?_
 refine cp b9 (s9 b.x (by omega) (by omega)) ?_
 refine dR ?_
 refine cp b9 (s9 b.y (by omega) (by omega)) ?_
 refine dB ?_
 refine cp b9 (s9 b.z (by omega) (by omega)) ?_
 refine dR ?_
 exact bM rfl (.pure rfl)
def d3V (l:List Int) (k:Nat):V3:=⟨(yB l k).1,(yB l (yB l k).2).1,(yB l (yB l (yB l k).2).2).1⟩
def d3K (l:List Int) (k:Nat):Nat:=(yB l (yB l (yB l k).2).2).2
theorem aKl (l:List Int) (k:Nat):jF 1 (d3V l k):=⟨aHb _ _,aHb _ _,aHb _ _⟩
theorem aFF {l:List Int} {k:Nat} (hl:l.length≤500) (hk:k≤500):d3K l k≤500:=vY hl (vY hl (vY hl hk))
def dwV (l:List Int) (k:Nat):Rat:=((1+(lG l k 3).tmod 3:Int):Rat)
def o6 (l:List Int) (k:Nat):PoR:=⟨d3V l k,dwV l (d3K l k)⟩
def dpK (l:List Int) (k:Nat):Nat:=iM l (d3K l k)
theorem aG4 (l:List Int) (k:Nat):1≤1+(lG l k 3).tmod 3∧1+(lG l k 3).tmod 3≤3:=by
 have h:=iO (l:=l) (k:=k) (n:=3) (by decide)
 rw [Int.tmod_eq_emod_of_nonneg h.1]
 omega
theorem aKb (l:List Int) (k:Nat):rl (dwV l k)≤1:=by
 have:=aG4 l k
 exact lN (by omega)
theorem aG8 (l:List Int) (k:Nat):0<dwV l k:=by
 have:=aG4 l k
 exact Rat.intCast_pos.2 (by omega)
theorem xA {l:List Int} {k:Nat} (hl:l.length≤500) (hk:k≤500):dpK l k≤500:=iB hl (aFF hl hk)
def dqK (l:List Int):Nat→Nat→Nat
 | k,0=>k
 | k,c+1=>dqK l (dpK l k) c
theorem aCl {l:List Int} (hl:l.length≤500):∀ (k c:Nat),k≤500→dqK l k c≤500
 | k,0,h=>h
 | k,c+1,h=>aCl hl _ c (xA hl h)
def kn0 (d:Nat) (t:Rat):List Rat:=List.replicate (d+1) t++List.replicate (d+1) (t+1)
theorem aDk (d:Nat) (t:Rat):(kn0 d t).length=2*(d+1):=by simp [kn0];omega
def yS (l:List Int) (k:Nat):Rat:=((lG l k 4-2:Int):Rat)
theorem aKg (l:List Int) (k:Nat):rl (yS l k)≤1∧rl (yS l k+1)≤1:=by
 have h:=iO (l:=l) (k:=k) (n:=4) (by decide)
 refine⟨lN (by omega),?_⟩
 have e:yS l k+1=((lG l k 4-1:Int):Rat):=by
  unfold yS
  rw [show lG l k 4-1=(lG l k 4-2)+1 by omega,Rat.intCast_add];rfl
 rw [e]
 exact lN (by omega)
def cD (l:List Int) (k:Nat) (n:Nat):Nat:=(1+lG l k (n:Int)).toNat
theorem aJ3 (l:List Int) (k:Nat) {n:Nat} (hn:0<n):1≤cD l k n∧cD l k n≤n∧(cD l k n:Int)=1+lG l k (n:Int):=by
 have h:=iO (l:=l) (k:=k) (n:=(n:Int)) (by omega)
 unfold cD
 omega
theorem w9 {P:Program} {ops:Array Oper} {D:Array Bool} {L:St} {K:St→Prop} {fuel:Nat} (i j k:Nat) (o o2 o3:Oper) (hr:Region.ready .any ops D=[i,j,k]) (ho:ops[i]?=some o) (ho2:ops[j]?=some o2) (ho3:ops[k]?=some o3)
  (h:opsL P false ops [o] L (fun L'=>jJ P ops fuel (D.setIfInBounds i true) L' K)) (h2:opsL P false ops [o2] L (fun L'=>jJ P ops fuel (D.setIfInBounds j true) L' K)) (h3:opsL P false ops [o3] L (fun L'=>jJ P ops fuel (D.setIfInBounds k true) L' K)):jJ P ops (fuel+1) D L K:=by
 simp only [opsL] at h h2 h3
 refine⟨fun e=>(by rw [hr] at e;cases e),fun x hx=>?_⟩
 rw [hr] at hx
 simp only [List.mem_cons,List.not_mem_nil,or_false] at hx
 rcases hx with rfl | rfl | rfl
 ·obtain⟨L',h1,h4⟩:=h
  exact⟨o,L',ho,h1,h4⟩
 ·obtain⟨L',h1,h4⟩:=h2
  exact⟨o2,L',ho2,h1,h4⟩
 ·obtain⟨L',h1,h4⟩:=h3
  exact⟨o3,L',ho3,h1,h4⟩
theorem aB5 {α:Type} (n:Nat) (t:α):List.replicate n t++[t]=List.replicate (n+1) t:=by
 rw [List.replicate_succ']
section
variable {P:Program} {H:dA} {ρ:Operand→LV} {T:TypeId}
theorem vZ {o0 o1:Operand} {p:V3} {r:Rat} [z:ZI P T (.agg [.agg [ratL 0,ratL 0,ratL 0],ratL 0])] [s:SI P T [(9,true),(3,true)]] (h0:ρ o0=fA p) (h1:ρ o1=ratL r) :
  OpP P H ρ (.build T #[(0,o0),(1,o1)]) (gZ ⟨p,r⟩):=by
 have:=OpP.bd (H:=H) (ρ:=ρ) (ps:=#[(0,o0),(1,o1)]) (z:=z) (s:=s) (by simp [lay,LV.csize,aT,aD.csize,aD.isAgg,fX]) (by
  intro q hq
  simp only [List.mem_cons,List.not_mem_nil,or_false] at hq
  rcases hq with rfl | rfl
  ·exact⟨_,rfl,by rw [h0];simp [lay,fF.csize,LV.csize,aT,aD.csize];rfl,by rw [h0];exact LV.pure_ne_any (fF.pure _),by rw [h0];exact LV.pure_ne_tup (fF.pure _)⟩
  ·exact⟨_,rfl,by rw [h1];simp [lay,aD.csize,aD.isAgg],by rw [h1];exact LV.pure_ne_any (aD.pure _),by rw [h1];exact LV.pure_ne_tup (aD.pure _)⟩)
 simp only [fU,List.map,List.foldl,List.set,h0,h1] at this
 exact this
end
theorem aK4 {P:Program} {L:St} {a:Nat} {T:TypeId} {b sz:Nat} {x y:LV} {m:Bool} {n:Nat} {ag:Bool} {blk:Blk} (bs:List Nat) (h0:bs.contains 0=false) (h:L.slot a=.eptr b sz 0 0) (hb:L.heap b=some ⟨sz,[x],m⟩)
  (hx:x.csize=sz) (hat:x.at 0 n ag=some x) (hT:cF P T n ag) (hi:Imm (L.frz bs).heap x y) (hc:(L.frz bs).heap 0=some blk) (hm:blk.mt=true) (hp:aY blk.vals=true):aBs P [.cell a T] L y blk :=
 ⟨[x],[y],(L.frz bs).heap,.cons ⟨b,sz,0,0,_,x,n,ag,h,hb,rfl,rfl,hx,hat,hT⟩ .nil,kM bs h0,.cons (.imm hi) .nil,hc,hm,hp,rfl⟩
namespace Zq7
theorem dG {p q:Prop} (k:q) (e:p=q:=by simp only [e1,e2,e3,e4,p1,p2,p3,q1,q2,q3,l1,t0,t1,r1,r2,r3,r4,Nat.zero_add,Nat.reduceMul,Nat.reduceAdd,b1,b2,b3,b4,b5,b6,i1,i2,i3,i4,i5,i6,Nat.reduceBEq,l1,List.set_cons_zero,List.set_cons_succ,Nat.reduceEqDiff,reduceIte,if_true,if_false,bG,bF,aC eI,aC aD,aS,aZ,LV.kill,bB,kX];exact rfl):p:=e.mpr k
end Zq7
open Zq7 in
theorem aHr (l:List Int) (k:Nat) (hl:l.length≤500) (hk:k≤500):gH Tryz.prog 55 ⟨2,[fJ l k],true⟩ [.eptr 0 2 0 0] (fA (d3V l k)) ⟨2,[fJ l (d3K l k)],true⟩:=by
 have k1:=vY (l:=l) hl hk
 have k2:=vY (l:=l) hl k1
 refine fnM Tryz.func55 ?_
 refine eC ?_
 refine cG 0 rfl rfl rfl (aR l _) (.cons .ptr .nil) .ptr (xH l k (by omega) (by omega)) rfl (aR l _) (aD.pure _) ?_
 refine bE ?_
 refine cG 0 rfl rfl rfl (aR l _) (.cons .ptr .nil) .ptr (xH l (yB l k).2 (by omega) (by omega)) rfl (aR l _) (aD.pure _) ?_
 refine bE ?_
 refine cG 0 rfl rfl rfl (aR l _) (.cons .ptr .nil) .ptr (xH l (yB l (yB l k).2).2 (by omega) (by omega)) rfl (aR l _) (aD.pure _) ?_
 refine dR ?_
 exact sD rfl rfl cs (dN cs rfl) sW (.pure pu) rfl rfl (aR l _)
namespace Zq12
theorem dG {p q:Prop} (k:q) (e:p=q:=by simp only [e1,e2,e3,e4,p1,p2,p3,q1,q2,q3,l1,t0,t1,r1,r2,r3,r4,Nat.zero_add,Nat.reduceMul,Nat.reduceAdd,b1,b2,b3,b4,b5,b6,i1,i2,i3,i4,i5,i6,Nat.reduceBEq,l1,List.set_cons_zero,List.set_cons_succ,Nat.reduceEqDiff,reduceIte,if_true,if_false,bG,bF,aC eI,aC aD,aS,aZ,LV.kill,bB,kX];exact rfl):p:=e.mpr k
end Zq12
open Zq12 in
theorem aEe (l:List Int) (k:Nat) (hl:l.length≤500) (hk:k≤500):gH Tryz.prog 58 ⟨2,[fJ l k],true⟩ [.eptr 0 2 0 0,bL false] (gZ (o6 l k)) ⟨2,[fJ l (dpK l k)],true⟩:=by
 have k1:=aFF (l:=l) hl hk
 have hb:=iO (l:=l) (k:=d3K l k) (n:=3) (by decide)
 have hd:=aG4 l (d3K l k)
 refine fnM Tryz.func58 ?_
 refine eC ?_
 refine cG 0 rfl rfl rfl (aR l _) (.cons .ptr .nil) .ptr (aHr l k (by omega) (by omega)) rfl (aR l _) (fF.pure _) ?_
 refine cN ?_
 refine aK rfl (fun h8r h8=>?_) (fun h8r h8=>?_)
 ·first | exact h8.elim | cases h8r
 ·refine cP ?_
  refine qJ ?_
  refine dO 0 1 _ _ (by decide +kernel) rfl rfl ?_ ?_
  ·refine bE ?_
   refine aF ?_
   refine aN 1 _ (by decide +kernel) rfl ?_
   refine bE ?_
   refine aF ?_
   refine aN 2 _ (by decide +kernel) rfl ?_
   refine cG 0 rfl rfl rfl (aR l _) (.cons .ptr (.cons (.imm (.pure rfl)) .nil)) .ptr (iF l (d3K l k) 3 (by omega) (by omega) (by omega) (by omega)) rfl (aR l _) rfl ?_
   refine aF ?_
   refine aN 3 _ (by decide +kernel) rfl ?_
   refine aB rfl (.bin rfl rfl (aAZ (by decide))) ?_
   refine aF ?_
   refine aN 4 _ (by decide +kernel) rfl ?_
   refine aB rfl (.bin rfl rfl (iS (by omega) (by omega))) ?_
   refine aF ?_
   refine aN 5 _ (by decide +kernel) rfl ?_
   refine cp dC (jE (1+(lG l (d3K l k) 3).tmod 3) (by omega) (by omega)) ?_
   refine aF ?_
   refine aN 6 _ (by decide +kernel) rfl ?_
   refine oQ (vZ rfl rfl) ?_
   refine aF ?_
   refine aN 7 _ (by decide +kernel) rfl ?_
   refine bE ?_
   refine aF ?_
   refine cK (by decide +kernel) ?_
   refine cY ?_
   exact sD rfl rfl cs (dN cs rfl) uC (.pure pu) rfl rfl (aR l _)
  ·refine bE ?_
   refine aF ?_
   refine dO 0 2 _ _ (by decide +kernel) rfl rfl ?_ ?_
   ·refine bE ?_
    refine aF ?_
    refine aN 2 _ (by decide +kernel) rfl ?_
    refine cG 0 rfl rfl rfl (aR l _) (.cons .ptr (.cons (.imm (.pure rfl)) .nil)) .ptr (iF l (d3K l k) 3 (by omega) (by omega) (by omega) (by omega)) rfl (aR l _) rfl ?_
    refine aF ?_
    refine aN 3 _ (by decide +kernel) rfl ?_
    refine aB rfl (.bin rfl rfl (aAZ (by decide))) ?_
    refine aF ?_
    refine aN 4 _ (by decide +kernel) rfl ?_
    refine aB rfl (.bin rfl rfl (iS (by omega) (by omega))) ?_
    refine aF ?_
    refine aN 5 _ (by decide +kernel) rfl ?_
    refine cp dC (jE (1+(lG l (d3K l k) 3).tmod 3) (by omega) (by omega)) ?_
    refine aF ?_
    refine aN 6 _ (by decide +kernel) rfl ?_
    refine oQ (vZ rfl rfl) ?_
    refine aF ?_
    refine aN 7 _ (by decide +kernel) rfl ?_
    refine bE ?_
    refine aF ?_
    refine cK (by decide +kernel) ?_
    refine cY ?_
    exact sD rfl rfl cs (dN cs rfl) uC (.pure pu) rfl rfl (aR l _)
   ·refine cG 0 rfl rfl rfl (aR l _) (.cons .ptr (.cons (.imm (.pure rfl)) .nil)) .ptr (iF l (d3K l k) 3 (by omega) (by omega) (by omega) (by omega)) rfl (aR l _) rfl ?_
    refine aF ?_
    refine dO 0 3 _ _ (by decide +kernel) rfl rfl ?_ ?_
    ·refine bE ?_
     refine aF ?_
     refine aN 3 _ (by decide +kernel) rfl ?_
     refine aB rfl (.bin rfl rfl (aAZ (by decide))) ?_
     refine aF ?_
     refine aN 4 _ (by decide +kernel) rfl ?_
     refine aB rfl (.bin rfl rfl (iS (by omega) (by omega))) ?_
     refine aF ?_
     refine aN 5 _ (by decide +kernel) rfl ?_
     refine cp dC (jE (1+(lG l (d3K l k) 3).tmod 3) (by omega) (by omega)) ?_
     refine aF ?_
     refine aN 6 _ (by decide +kernel) rfl ?_
     refine oQ (vZ rfl rfl) ?_
     refine aF ?_
     refine aN 7 _ (by decide +kernel) rfl ?_
     refine bE ?_
     refine aF ?_
     refine cK (by decide +kernel) ?_
     refine cY ?_
     exact sD rfl rfl cs (dN cs rfl) uC (.pure pu) rfl rfl (aR l _)
    ·refine aB rfl (.bin rfl rfl (aAZ (by decide))) ?_
     refine aF ?_
     refine dO 0 4 _ _ (by decide +kernel) rfl rfl ?_ ?_
     ·refine bE ?_
      refine aF ?_
      refine aN 4 _ (by decide +kernel) rfl ?_
      refine aB rfl (.bin rfl rfl (iS (by omega) (by omega))) ?_
      refine aF ?_
      refine aN 5 _ (by decide +kernel) rfl ?_
      refine cp dC (jE (1+(lG l (d3K l k) 3).tmod 3) (by omega) (by omega)) ?_
      refine aF ?_
      refine aN 6 _ (by decide +kernel) rfl ?_
      refine oQ (vZ rfl rfl) ?_
      refine aF ?_
      refine aN 7 _ (by decide +kernel) rfl ?_
      refine bE ?_
      refine aF ?_
      refine cK (by decide +kernel) ?_
      refine cY ?_
      exact sD rfl rfl cs (dN cs rfl) uC (.pure pu) rfl rfl (aR l _)
     ·refine aB rfl (.bin rfl rfl (iS (by omega) (by omega))) ?_
      refine aF ?_
      refine dO 0 5 _ _ (by decide +kernel) rfl rfl ?_ ?_
      ·refine bE ?_
       refine aF ?_
       refine aN 5 _ (by decide +kernel) rfl ?_
       refine cp dC (jE (1+(lG l (d3K l k) 3).tmod 3) (by omega) (by omega)) ?_
       refine aF ?_
       refine aN 6 _ (by decide +kernel) rfl ?_
       refine oQ (vZ rfl rfl) ?_
       refine aF ?_
       refine aN 7 _ (by decide +kernel) rfl ?_
       refine bE ?_
       refine aF ?_
       refine cK (by decide +kernel) ?_
       refine cY ?_
       exact sD rfl rfl cs (dN cs rfl) uC (.pure pu) rfl rfl (aR l _)
      ·refine cp dC (jE (1+(lG l (d3K l k) 3).tmod 3) (by omega) (by omega)) ?_
       refine aF ?_
       refine aN 0 _ (by decide +kernel) rfl ?_
       refine bE ?_
       refine aF ?_
       refine aN 6 _ (by decide +kernel) rfl ?_
       refine oQ (vZ rfl rfl) ?_
       refine aF ?_
       refine aN 7 _ (by decide +kernel) rfl ?_
       refine bE ?_
       refine aF ?_
       refine cK (by decide +kernel) ?_
       refine cY ?_
       exact sD rfl rfl cs (dN cs rfl) uC (.pure pu) rfl rfl (aR l _)
theorem gD1 {a b:List Rat} {i:Nat} (h:i<a.length):(a++b).getD i 0=a.getD i 0:=by
 rw [List.getD_eq_getElem?_getD,List.getD_eq_getElem?_getD,List.getElem?_append_left h]
theorem gD2 {a b:List Rat} {i:Nat} (h:a.length≤i):(a++b).getD i 0=b.getD (i-a.length) 0:=by
 rw [List.getD_eq_getElem?_getD,List.getD_eq_getElem?_getD,List.getElem?_append_right h]
theorem l8 {n i:Nat} {T:Rat} (h:i<n):(List.replicate n T).getD i 0=T:=by
 rw [List.getD_eq_getElem?_getD,List.getElem?_eq_getElem (by simpa using h)];simp
theorem aG0 (a b:List Rat) (t:Rat):∀ i,i≤a.length→lT (a++b) t i=lT a t i
 | 0,_=>rfl
 | i+1,h=>by rw [lT,lT,aG0 a b t i (by omega),gD1 (by omega)]
theorem zP (a b:List Rat) (t:Rat):∀ i,lT (a++b) t (a.length+i)=lT a t a.length+lT b t i
 | 0=>by rw [Nat.add_zero,aG0 _ _ _ _ (Nat.le_refl _)];rfl
 | i+1=>by
  rw [←Nat.add_assoc,lT,zP a b t i,lT,gD2 (by omega),Nat.add_sub_cancel_left];omega
theorem oZ (n:Nat) (T t:Rat):∀ i,i≤n→lT (List.replicate n T) t i=if T=t then i else 0
 | 0,_=>by split<;>rfl
 | i+1,h=>by
  rw [lT,oZ n T t i (by omega),l8 (by omega)]
  split<;>rfl
theorem aLi (d:Nat) (T t:Rat):lT (kn0 d T) t (kn0 d T).length=(if T=t then d+1 else 0)+(if T+1=t then d+1 else 0):=by
 have h:=zP (List.replicate (d+1) T) (List.replicate (d+1) (T+1)) t (d+1)
 rw [List.length_replicate] at h
 have e:(kn0 d T).length=d+1+(d+1):=by rw [aDk];omega
 rw [e]
 show lT (List.replicate (d+1) T++_) t _=_
 rw [h,oZ _ _ _ _ (Nat.le_refl _),oZ _ _ _ _ (Nat.le_refl _)]
theorem u0 (d:Nat) (T:Rat) (i:Nat) (h:i<2*(d+1)):(kn0 d T).getD i 0=if i<d+1 then T else T+1:=by
 unfold kn0
 split
 ·rw [gD1 (by simp;omega),l8 (by omega)]
 ·rw [gD2 (by simp;omega),List.length_replicate,l8 (by omega)]
theorem aK0 {d:Nat} {T:Rat} (h1:1≤d) (h6:d≤6) (hT:rl T≤64) (hT1:rl (T+1)≤64):kOK (kn0 d T) d:=by
 have hl:=aDk d T
 have hne:T≠T+1:=by grind
 have e0:(kn0 d T).getD 0 0=T:=by rw [u0 _ _ _ (by omega),if_pos (by omega)]
 have e1:(kn0 d T).getD ((kn0 d T).length-1) 0=T+1:=by rw [hl,u0 _ _ _ (by omega),if_neg (by omega)]
 have hm:∀ x∈kn0 d T,x=T∨x=T+1:=fun x hx=>by
  rcases List.mem_append.1 hx with h | h
  ·exact .inl (List.mem_replicate.1 h).2
  ·exact .inr (List.mem_replicate.1 h).2
 refine⟨h1,h6,by omega,by omega,fun i hi=>?_,by rw [e0,e1];exact hne,fun t ht he=>?_,fun t ht g0 g1=>?_,fun x hx=>?_⟩
 ·rw [u0 _ _ _ (by omega),u0 _ _ _ (by omega)]
  split<;>split
  ·exact Rat.le_refl
  ·grind
  ·omega
  ·exact Rat.le_refl
 ·rw [aLi]
  rcases hm t ht with rfl | rfl
  ·rw [if_pos rfl,if_neg (fun e=>hne e.symm)]
  ·rw [if_neg hne,if_pos rfl,Nat.zero_add]
 ·rw [e0] at g0;rw [e1] at g1
  rcases hm t ht with h | h
  ·exact absurd h g0
  ·exact absurd h g1
 ·rcases hm x hx with rfl | rfl<;>assumption
theorem sY {α:Type} (l:List α):l.any (fun _=>false)=false:=by simp
theorem dM {P:Program} {L:St} {a u v:Nat} {T U:TypeId} {b c sz sy:Nat} {x y x' y' z z':LV} {m m':Bool} {n n':Nat} {ag ag':Bool} (bs:List Nat) (h0:bs.contains 0=false) (h:L.slot a=.eptr b sz 0 0) (hb:L.heap b=some ⟨sz,[x],m⟩)
  (hx:x.csize=sz) (hat:x.at 0 n ag=some x) (hT:cF P T n ag) (hi:Imm (L.frz bs).heap x y) (h':L.slot u=.eptr c sy 0 0) (hc:L.heap c=some ⟨sy,[x'],m'⟩)
  (hx':x'.csize=sy) (hat':x'.at 0 n' ag'=some x') (hT':cF P U n' ag') (hi':Imm (L.frz bs).heap x' y') (hz:L.slot v=z) (hiz:Imm (L.frz bs).heap z z'):oX P [.cell a T,.cell u U,.tmp v] L (.tup [y,y',z']) [] :=
 ⟨[x,x',z],[y,y',z'],(L.frz bs).heap,[],.cons ⟨b,sz,0,0,_,x,n,ag,h,hb,rfl,rfl,hx,hat,hT⟩ (.cons ⟨c,sy,0,0,_,x',n',ag',h',hc,rfl,rfl,hx',hat',hT'⟩ (.cons hz .nil)),kM bs h0,.cons (.imm hi) (.cons (.imm hi') (.cons (.imm hiz) .nil)),List.nodup_nil,rfl,fun k b h=>by simp at h,rfl⟩
open H0 in
theorem aGc (s:Rat × Rat) (h:rl s.2+rl s.1≤549755813888):aM Tryz.prog 110 [spL s] (ratL (s.2-s.1)):=by
 refine dI Tryz.func110 ?_
 refine cW ?_
 refine cp b9 (lK s.2 s.1 h) ?_
 refine cO ?_
 exact dQ [] rfl rfl rfl (aD.csize _) (aJ _) cX (.pure (aD.pure _))
section
variable {P:Program} {H:dA} {ρ:Operand→LV} {T E:TypeId}
theorem bdW {o1:Operand} {r:Rat} [z:ZI P T (.agg [.agg [ratL 0,ratL 0,ratL 0],ratL 0])] [s:SI P T [(9,true),(3,true)]] (h1:ρ o1=ratL r) :
  OpP P H ρ (.build T #[(1,o1)]) (gZ ⟨⟨0,0,0⟩,r⟩):=by
 have:=OpP.bd (H:=H) (ρ:=ρ) (ps:=#[(1,o1)]) (z:=z) (s:=s) (by simp [lay,LV.csize,aT,aD.csize,aD.isAgg,fX]) (by
  intro q hq
  simp only [List.mem_cons,List.not_mem_nil,or_false] at hq
  subst hq
  exact⟨_,rfl,by rw [h1];simp [lay,aD.csize,aD.isAgg],by rw [h1];exact LV.pure_ne_any (aD.pure _),by rw [h1];exact LV.pure_ne_tup (aD.pure _)⟩)
 simp only [fU,List.map,List.foldl,List.set,h1] at this
 exact this
end
theorem aM7:aM Tryz.prog 54 [ratL 1] (.v (.string ⟨#[49]⟩)):=by
 have:=aIo 1 (by decide +kernel) (by decide +kernel) (by decide +kernel)
 exact this
namespace Zq112
theorem dG {p q:Prop} (k:q) (e:p=q:=by simp only [e1,e2,e3,e4,p1,p2,p3,q1,q2,q3,l1,t0,t1,r1,r2,r3,r4,Nat.zero_add,Nat.reduceMul,Nat.reduceAdd,b1,b2,b3,b4,b5,b6,i1,i2,i3,i4,i5,i6,Nat.reduceBEq,List.set_cons_zero,List.set_cons_succ,Nat.reduceEqDiff,reduceIte,if_true,if_false,bG,bF,aC fF,aC eI,aC aD,aS,aZ,LV.kill,bB];exact rfl):p:=e.mpr k
end Zq112
open Zq112 in
theorem aIl :aM Tryz.prog 53 [iL 0] (fA ⟨1,0,0⟩):=by
 have h1:aM Tryz.prog 60 [iL 1] (ratL 1):=jE 1 (by decide) (by decide)
 refine dI Tryz.func53 (ht:=(fun r=>LV.ren_pure r _ (fF.pure _))) ?_
 refine eA ?_
 refine cp dC (h1) ?_
 refine cV ?_
 exact dQ [] rfl rfl rfl cs (dN cs rfl) sW (.pure pu)
namespace Zq113
theorem dG {p q:Prop} (k:q) (e:p=q:=by simp only [e1,e2,e3,e4,p1,p2,p3,q1,q2,q3,l1,t0,t1,r1,r2,r3,r4,Nat.zero_add,Nat.reduceMul,Nat.reduceAdd,b1,b2,b3,b4,b5,b6,i1,i2,i3,i4,i5,i6,Nat.reduceBEq,List.set_cons_zero,List.set_cons_succ,Nat.reduceEqDiff,reduceIte,if_true,if_false,bG,bF,aC fF,aC eI,aC aD,aS,aZ,LV.kill,bB];exact rfl):p:=e.mpr k
end Zq113
open Zq113 in
theorem aIr :aM Tryz.prog 53 [iL 1] (fA ⟨0,1,0⟩):=by
 have h1:aM Tryz.prog 60 [iL 1] (ratL 1):=jE 1 (by decide) (by decide)
 refine dI Tryz.func53 (ht:=(fun r=>LV.ren_pure r _ (fF.pure _))) ?_
 refine eA ?_
 refine cp dC (h1) ?_
 refine cV ?_
 exact dQ [] rfl rfl rfl cs (dN cs rfl) sW (.pure pu)
theorem aMA {P:Program} {H:dA} {ρ:Operand→LV} {T E:TypeId} [u:UN P T (.array 3 E)] [t:TI P E 3 true] [z:ZI P T (.agg [ratL 0,ratL 0,ratL 0])]:OpP P H ρ (.build T #[]) (fA ⟨0,0,0⟩) :=
 OpP.bda (H:=H) (ρ:=ρ) (ps:=#[]) (u:=u) (t:=t) (z:=z) (by simp [lay,aD.csize,aD.isAgg]) (fun q hq=>by simp at hq)
section
variable {po:List PoR} {d:Nat} (h:cvF po d)
include h
end
theorem aGJ {a b c:Nat} (h:a=b+c) (h2:a≤9223372036854775807):dW .sub .i64 (a:Nat) (b:Nat)=some (.int .i64 ((c:Nat):Int)):=by
 rw [iK (by omega) (by omega)];congr 2;omega
theorem aAX {a b c:Rat} (h:a<b) (k:b≤c):a<c:=by grind
section
variable {po:List PoR} {d:Nat} (h:cvF po d)
include h
end
def qX (l:List V3) (k:Nat):Nat→Rat × Rat
 | 0=>((l.getD 0 default).at k,(l.getD 0 default).at k)
 | j+1=>aBb (qX l k j) ((l.getD (j+1) default).at k,(l.getD (j+1) default).at k)
def bxP (l:List V3):Bx3:=⟨qX l 0 (l.length-1),qX l 1 (l.length-1),qX l 2 (l.length-1)⟩
theorem aCD {l:List V3} {R:Nat} (h:∀ i,i<l.length→jF R (l.getD i default)) (k:Nat):∀ n,n<l.length→bdS R (qX l k n)
 | 0,hn=>⟨x9 (h 0 hn) k,x9 (h 0 hn) k⟩
 | n+1,hn=>aK3 (aCD h k n (by omega)) ⟨x9 (h _ hn) k,x9 (h _ hn) k⟩
section
variable {po:List PoR} {d:Nat} (h:cvF po d)
include h
end
section
variable {po:List PoR} {d:Nat} (h:cvF po d)
include h
end
theorem aJ8 {a b:Rat}:∀ (n:Nat) (c:Nat→Rat) (R:Nat),(∀ i,rl (c i)≤R)→rl (fE a b n c)≤(R+(rl a+rl b+1))*2 ^ n
 | 0,c,R,h=>by
  have:=h 0
  show rl (c 0)≤_
  omega
 | n+1,c,R,h=>by
  have:=aJ8 (a:=a) (b:=b) n (fun i=>a*c i+b*c (i+1)) (2*R+(rl a+rl b+1)) (fun i=>by
   have h0:=h i
   have h1:=h (i+1)
   have m0:=cS a (c i)
   have m1:=cS b (c (i+1))
   have s0:=gD (a*c i) (b*c (i+1))
   omega)
  rw [fE]
  refine Nat.le_trans this ?_
  rw [Nat.pow_succ,Nat.mul_comm (2 ^ n) 2,←Nat.mul_assoc]
  exact Nat.mul_le_mul_right _ (by omega)
theorem aHu {p:List Rat} {t:Rat} {R:Nat} (hl:0<p.length) (hR:1≤R) (h:∀ x∈p,rl x≤R):rl (evP p t)≤(R+(rl (1-t)+rl t+1))*2 ^ (p.length-1):=by
 rw [aNs hl]
 exact aJ8 _ _ R (fun i=>fH hR h i)
theorem fz0 (bs:List Nat):z9 bs []=[]:=rfl
def sS (t:Rat) (f:Nat→Rat):Nat→Rat:=fun i=>(1-t)*f i+t*f (i+1)
def sI (t:Rat):Nat→(Nat→Rat)→(Nat→Rat)
 | 0,f=>f
 | n+1,f=>sI t n (sS t f)
structure cvR (po:List PoR) (d R:Nat):Prop where
 hl:po.length=d+1
 hd:1≤d
 h6:d≤6
 ok:∀ q∈po,pY R q
theorem cvF.r {po:List PoR} {d:Nat} (h:cvF po d):cvR po d 1:=⟨h.hl,h.hd,h.h6,h.ok⟩
section
variable {po:List PoR} {d R:Nat} (h:cvR po d R) {x y:Rat} (hx0:0≤x) (hx1:x<1) (hy0:0≤y) (hy1:y≤1)
include h
include hx1
include hx0 hy0 hy1
end
theorem nM {f:Nat} (hc:∀ s t:Rat × Rat,rl s.1+rl t.1≤34359738368→rl s.2+rl t.2≤34359738368→aM Tryz.prog f [spL s,spL t] (spL (aBb s t))) {l:List V3} {R:Nat} (hR:R≤1000000) (hb:∀ i,i<l.length→jF R (l.getD i default)) (k j:Nat) (hj:j+1<l.length) :
  aM Tryz.prog f [spL (qX l k j),spL ((l.getD (j+1) default).at k,(l.getD (j+1) default).at k)] (spL (qX l k (j+1))):=by
 have q:=aCD hb k j (by omega)
 have g:=x9 (hb (j+1) hj) k
 have h1:R+R≤34359738368:=by omega
 exact hc _ _ (Nat.le_trans (Nat.add_le_add q.1 g) h1) (Nat.le_trans (Nat.add_le_add q.2 g) h1)
theorem aPu {P:Program} {H:dA} {ρ:Operand→LV} {T E:TypeId} {o0 o1 o2:Operand} {s0 s1 s2:Rat × Rat} [u:UN P T (.array 3 E)] [t:TI P E 6 true] [z:ZI P T (.agg [.agg [ratL 0,ratL 0],.agg [ratL 0,ratL 0],.agg [ratL 0,ratL 0]])] (h0:ρ o0=spL s0) (h1:ρ o1=spL s1) (h2:ρ o2=spL s2) :
  OpP P H ρ (.build T #[(0,o0),(1,o1),(2,o2)]) (bxL ⟨s0,s1,s2⟩):=by
 have:=OpP.bda (H:=H) (ρ:=ρ) (ps:=#[(0,o0),(1,o1),(2,o2)]) (u:=u) (t:=t) (z:=z) (by simp [lay,LV.csize,aT,aD.csize,fX]) (by
  intro p hp
  simp only [List.mem_cons,List.not_mem_nil,or_false] at hp
  rcases hp with rfl | rfl | rfl
  ·exact⟨_,rfl,by rw [h0];simp [lay,jK.csize,jK.isAgg,LV.csize,aT,aD.csize,fX],by rw [h0];exact LV.pure_ne_any (jK.pure _),by rw [h0];exact LV.pure_ne_tup (jK.pure _)⟩
  ·exact⟨_,rfl,by rw [h1];simp [lay,jK.csize,jK.isAgg,LV.csize,aT,aD.csize,fX],by rw [h1];exact LV.pure_ne_any (jK.pure _),by rw [h1];exact LV.pure_ne_tup (jK.pure _)⟩
  ·exact⟨_,rfl,by rw [h2];simp [lay,jK.csize,jK.isAgg,LV.csize,aT,aD.csize,fX],by rw [h2];exact LV.pure_ne_any (jK.pure _),by rw [h2];exact LV.pure_ne_tup (jK.pure _)⟩)
 simpa only [fU,List.map,List.foldl,List.set,h0,h1,h2] using this
theorem aMV:(LV.agg [.agg [ratL 0,ratL 0],.agg [ratL 0,ratL 0],.agg [ratL 0,ratL 0]]).csize=18:=by simp [LV.csize,aT,aD.csize]
theorem aKc (a b c:Rat × Rat):(LV.agg [spL a,spL b,spL c]).csize=18:=bxE.csize ⟨a,b,c⟩
theorem dr1 (l:List V3) (j:Nat):(l.drop 1).getD j default=l.getD (j+1) default:=by
 rw [List.getD_eq_getElem?_getD,List.getD_eq_getElem?_getD,List.getElem?_drop,Nat.add_comm]
namespace Zq115
theorem dG {p q:Prop} (k:q) (e:p=q:=by simp only [e1,e2,e3,e4,p1,p2,p3,q1,q2,q3,l1,t0,t1,r1,r2,r3,r4,Nat.zero_add,Nat.reduceMul,Nat.reduceAdd,b1,b2,b3,b4,b5,b6,i1,i2,i3,i4,i5,i6,Nat.reduceBEq,aMV,aKc,dr1,gW,List.length_drop,List.length_map,List.set_cons_zero,List.set_cons_succ,Nat.reduceEqDiff,reduceIte,if_true,if_false,bG,bF,aC fF,aC eI,aC aD,aS,aZ,LV.kill,bB];exact rfl):p:=e.mpr k
end Zq115
open Zq115 in
theorem aHE (l:List V3) (h0:0<l.length) (hl:l.length≤1000) (R:Nat) (hR:R≤1000000) (hb:∀ i,i<l.length→jF R (l.getD i default)):aM Tryz.prog 92 [.list 9 (l.map fA)] (.tup [bxL (bxP l),iL 0]):=by
 obtain⟨z1,z2,z3⟩:=hb 0 h0
 refine dI Tryz.func92 (ht:=(jZ (bxE.pure _) rfl)) ?_
 refine mZ ?_
 refine aK rfl (fun h10r h10=>?_) (fun h10r h10=>?_)
 ·omega
 ·refine dU ?_
  refine aW ?_
  refine dB ?_
  refine bK (b:=_) rfl (by decide) ?_
  refine pP ?_
  refine cp dC (nP (l.getD 0 default).x (by omega)) ?_
  refine dL ?_
  refine aB rfl (.sliceLl (a:=1) fF rfl Tryz.underlying122 sW rfl om) ?_
  refine dR ?_
  refine lX (fun(j:Nat) L=>(((((((((St.mk L.slot (hp [(2,⟨18,[.agg [.agg [ratL 0,ratL 0],.agg [ratL 0,ratL 0],.agg [ratL 0,ratL 0]]],true⟩),(4,⟨18,[.agg [spL (qX l 0 j),.agg [ratL 0,ratL 0],.agg [ratL 0,ratL 0]]],true⟩)])).put (some 0) (.list 9 (l.map fA))).put (some 2) (.eptr 2 18 0 0)).put (some 4) (.eptr 4 18 0 0)).put (some 5) (iL 0)).put (some 12) (iL 0)).put (some 24) (.list 9 ((l.drop 1).map fA))).put (some 25) (aE (l.length-1))).put (some 26) (aE j))) (fun j=>j≤l.length-1) (fun j=>l.length-1-j) 0 (Nat.zero_le _) ?_
  rintro j L2 hj
  refine dB ?_
  refine aK rfl (fun h27r h27=>?_) (fun h27r h27=>?_)
  ·have hj2:j<l.length-1:=by omega
   obtain⟨g1,g2,g3⟩:=hb (j+1) (by omega)
   have hH0:aM Tryz.prog 171 [spL (qX l 0 j),spL ((l.getD (j+1) default).x,(l.getD (j+1) default).x)] (spL (qX l 0 (j+1))):=nM (fun s t h1 h2=>aAu s t (by omega) (by omega)) hR hb 0 j (by omega)
   refine cW ?_
   refine aP 10 (by decide +kernel) ?_
   refine dL ?_
   refine cp dC (nP (l.getD (j+1) default).x (by omega)) ?_
   refine cp b9 (hH0) ?_
   refine dR ?_
   refine bR (bI.kill _ 7) ?_
   refine aB rfl (.bin rfl rfl (bV (by omega))) ?_
   refine cP ?_
   exact kE (j+1) (by omega)
  ·obtain rfl:j=l.length-1:=by omega
   refine cV ?_
   refine aW ?_
   refine dB ?_
   refine bK (b:=_) rfl (by decide) ?_
   refine pP ?_
   refine cp dC (nP (l.getD 0 default).y (by omega)) ?_
   refine dL ?_
   refine aB rfl (.sliceLl (a:=1) fF rfl Tryz.underlying122 sW rfl om) ?_
   refine dR ?_
   refine lX (fun(j:Nat) L=>(((((((((St.mk L.slot (hp [(2,⟨18,[.agg [.agg [ratL 0,ratL 0],.agg [ratL 0,ratL 0],.agg [ratL 0,ratL 0]]],true⟩),(4,⟨18,[.agg [spL (qX l 0 (l.length-1)),spL (qX l 1 j),.agg [ratL 0,ratL 0]]],true⟩)])).put (some 0) (.list 9 (l.map fA))).put (some 2) (.eptr 2 18 0 0)).put (some 4) (.eptr 4 18 0 0)).put (some 5) (iL 1)).put (some 12) (iL 1)).put (some 24) (.list 9 ((l.drop 1).map fA))).put (some 25) (aE (l.length-1))).put (some 26) (aE j))) (fun j=>j≤l.length-1) (fun j=>l.length-1-j) 0 (Nat.zero_le _) ?_
   rintro j L2 hj
   refine dB ?_
   refine aK rfl (fun h27r h27=>?_) (fun h27r h27=>?_)
   ·have hj2:j<l.length-1:=by omega
    obtain⟨g1,g2,g3⟩:=hb (j+1) (by omega)
    have hH1:aM Tryz.prog 171 [spL (qX l 1 j),spL ((l.getD (j+1) default).y,(l.getD (j+1) default).y)] (spL (qX l 1 (j+1))):=nM (fun s t h1 h2=>aAu s t (by omega) (by omega)) hR hb 1 j (by omega)
    refine cW ?_
    refine aP 10 (by decide +kernel) ?_
    refine dL ?_
    refine cp dC (nP (l.getD (j+1) default).y (by omega)) ?_
    refine cp b9 (hH1) ?_
    refine dR ?_
    refine bR (bI.kill _ 7) ?_
    refine aB rfl (.bin rfl rfl (bV (by omega))) ?_
    refine cP ?_
    exact kE (j+1) (by omega)
   ·obtain rfl:j=l.length-1:=by omega
    refine cV ?_
    refine aW ?_
    refine dB ?_
    refine bK (b:=_) rfl (by decide) ?_
    refine pP ?_
    refine cp dC (nP (l.getD 0 default).z (by omega)) ?_
    refine dL ?_
    refine aB rfl (.sliceLl (a:=1) fF rfl Tryz.underlying122 sW rfl om) ?_
    refine dR ?_
    refine lX (fun(j:Nat) L=>(((((((((St.mk L.slot (hp [(2,⟨18,[.agg [.agg [ratL 0,ratL 0],.agg [ratL 0,ratL 0],.agg [ratL 0,ratL 0]]],true⟩),(4,⟨18,[.agg [spL (qX l 0 (l.length-1)),spL (qX l 1 (l.length-1)),spL (qX l 2 j)]],true⟩)])).put (some 0) (.list 9 (l.map fA))).put (some 2) (.eptr 2 18 0 0)).put (some 4) (.eptr 4 18 0 0)).put (some 5) (iL 2)).put (some 12) (iL 2)).put (some 24) (.list 9 ((l.drop 1).map fA))).put (some 25) (aE (l.length-1))).put (some 26) (aE j))) (fun j=>j≤l.length-1) (fun j=>l.length-1-j) 0 (Nat.zero_le _) ?_
    rintro j L2 hj
    refine dB ?_
    refine aK rfl (fun h27r h27=>?_) (fun h27r h27=>?_)
    ·have hj2:j<l.length-1:=by omega
     obtain⟨g1,g2,g3⟩:=hb (j+1) (by omega)
     have hH2:aM Tryz.prog 171 [spL (qX l 2 j),spL ((l.getD (j+1) default).z,(l.getD (j+1) default).z)] (spL (qX l 2 (j+1))):=nM (fun s t h1 h2=>aAu s t (by omega) (by omega)) hR hb 2 j (by omega)
     refine cW ?_
     refine aP 10 (by decide +kernel) ?_
     refine dL ?_
     refine cp dC (nP (l.getD (j+1) default).z (by omega)) ?_
     refine cp b9 (hH2) ?_
     refine dR ?_
     refine bR (bI.kill _ 7) ?_
     refine aB rfl (.bin rfl rfl (bV (by omega))) ?_
     refine cP ?_
     exact kE (j+1) (by omega)
    ·obtain rfl:j=l.length-1:=by omega
     refine cV ?_
     refine aW ?_
     refine dB ?_
     refine bX (b:=_) rfl (by decide) ?_
     refine eA ?_
     exact kG [] rfl rfl rfl cs (dN cs rfl) T74 (.pure pu) rfl (.pure rfl)
namespace Zq32
theorem dG {p q:Prop} (k:q) (e:p=q:=by simp only [e1,e2,e3,e4,p1,p2,p3,q1,q2,q3,l1,t0,t1,r1,r2,r3,r4,Nat.zero_add,Nat.reduceMul,Nat.reduceAdd,b1,b2,b3,b4,b5,b6,i1,i2,i3,i4,i5,i6,Nat.reduceBEq,List.getD_cons_zero,List.getD_cons_succ,List.set_cons_zero,List.set_cons_succ,Nat.reduceEqDiff,reduceIte,if_true,if_false,bG,bF,aC fF,aC eI,aC aD,aS,aZ,LV.kill,bB];exact rfl):p:=e.mpr k
end Zq32
open Zq32 in
theorem aFy (p:V3):aM Tryz.prog 172 [fA p] (bxL ⟨(p.x,p.x),(p.y,p.y),(p.z,p.z)⟩):=by
 refine dI Tryz.func172 (ht:=(fun r=>LV.ren_pure r _ (bxE.pure _))) ?_
 refine dL ?_
 refine aP 10 (by decide +kernel) ?_
 refine cY ?_
 refine cp dC (nJ p.x) ?_
 refine cY ?_
 refine cp dC (nJ p.y) ?_
 refine cY ?_
 refine cp dC (nJ p.z) ?_
 refine oQ (aPu rfl rfl rfl) ?_
 refine cO ?_
 exact dQ [] rfl rfl rfl cs (dN cs rfl) T74 (.pure pu)
namespace Zq17
theorem dG {p q:Prop} (k:q) (e:p=q:=by simp only [e1,e2,e3,e4,p1,p2,p3,q1,q2,q3,l1,t0,t1,r1,r2,r3,r4,Nat.zero_add,Nat.reduceMul,Nat.reduceAdd,b1,b2,b3,b4,b5,b6,i1,i2,i3,i4,i5,i6,Nat.reduceBEq,aMV,aKc,gW,Nat.sub_self,Nat.add_sub_cancel,List.length_map,List.set_cons_zero,List.set_cons_succ,Nat.reduceEqDiff,reduceIte,if_true,if_false,bG,bF,aC fF,aC eI,aC aD,aS,aZ,LV.kill,bB];exact rfl):p:=e.mpr k
end Zq17
open Zq17 in
theorem aHj (l:List V3) (h0:0<l.length) (hl:l.length≤1000) (R:Nat) (hR:R≤1000000) (hb:∀ i,i<l.length→jF R (l.getD i default)):aM Tryz.prog 93 [.list 9 (l.map fA)] (.tup [bxL (bxP l),iL 0]):=by
 have hPB:aM Tryz.prog 172 [fA (l.getD 0 default)] (.agg [spL (qX l 0 0),spL (qX l 1 0),spL (qX l 2 0)]):=aFy (l.getD 0 default)
 refine dI Tryz.func93 (ht:=(jZ (bxE.pure _) rfl)) ?_
 refine gC ?_
 refine aK rfl (fun h9r h9=>?_) (fun h9r h9=>?_)
 ·omega
 ·refine dL ?_
  refine cp dC (hPB) ?_
  refine cV ?_
  refine lX (fun(i:Nat) L=>(((((St.mk L.slot (hp [(2,⟨18,[.agg [.agg [ratL 0,ratL 0],.agg [ratL 0,ratL 0],.agg [ratL 0,ratL 0]]],true⟩),(4,⟨18,[.agg [spL (qX l 0 (i-1)),spL (qX l 1 (i-1)),spL (qX l 2 (i-1))]],true⟩)])).put (some 0) (.list 9 (l.map fA))).put (some 2) (.eptr 2 18 0 0)).put (some 4) (.eptr 4 18 0 0)).put (some 5) (aE i))) (fun i=>1≤i∧i≤l.length) (fun i=>l.length-i) 1 ⟨Nat.le_refl _,h0⟩ ?_
  rintro i L1 ⟨hi1,hi⟩
  refine dU ?_
  refine aK rfl (fun h18r h18=>?_) (fun h18r h18=>?_)
  ·have hi2:i<l.length:=by omega
   obtain⟨k,rfl⟩:∃ k,i=k+1:=⟨i-1,by omega⟩
   obtain⟨g1,g2,g3⟩:=hb (k+1) (by omega)
   have hH0:aM Tryz.prog 173 [spL (qX l 0 k),spL ((l.getD (k+1) default).x,(l.getD (k+1) default).x)] (spL (qX l 0 (k+1))):=nM (fun s t h1 h2=>aAF s t (by omega) (by omega)) hR hb 0 k (by omega)
   have hH1:aM Tryz.prog 173 [spL (qX l 1 k),spL ((l.getD (k+1) default).y,(l.getD (k+1) default).y)] (spL (qX l 1 (k+1))):=nM (fun s t h1 h2=>aAF s t (by omega) (by omega)) hR hb 1 k (by omega)
   have hH2:aM Tryz.prog 173 [spL (qX l 2 k),spL ((l.getD (k+1) default).z,(l.getD (k+1) default).z)] (spL (qX l 2 (k+1))):=nM (fun s t h1 h2=>aAF s t (by omega) (by omega)) hR hb 2 k (by omega)
   refine cN ?_
   refine aW ?_
   refine dL ?_
   refine bK (b:=_) rfl (by decide) ?_
   refine cO ?_
   refine aP 13 (by decide +kernel) ?_
   refine cN ?_
   refine cp dC (nJ (l.getD (k+1) default).x) ?_
   refine cp b9 (hH0) ?_
   refine cV ?_
   refine aW ?_
   refine dL ?_
   refine bK (b:=_) rfl (by decide) ?_
   refine cO ?_
   refine aP 13 (by decide +kernel) ?_
   refine cN ?_
   refine cp dC (nJ (l.getD (k+1) default).y) ?_
   refine cp b9 (hH1) ?_
   refine cV ?_
   refine aW ?_
   refine dL ?_
   refine bK (b:=_) rfl (by decide) ?_
   refine cO ?_
   refine aP 13 (by decide +kernel) ?_
   refine cN ?_
   refine cp dC (nJ (l.getD (k+1) default).z) ?_
   refine cp b9 (hH2) ?_
   refine cV ?_
   refine aW ?_
   refine dL ?_
   refine bX (b:=_) rfl (by decide) ?_
   refine eC ?_
   refine aB rfl (.bin rfl rfl (bV (by omega))) ?_
   refine cP ?_
   exact kE (k+1+1) ⟨by omega,by omega⟩
  ·obtain rfl:i=l.length:=by omega
   refine eA ?_
   exact kG [] rfl rfl rfl cs (dN cs rfl) T74 (.pure pu) rfl (.pure rfl)
def nS (d:Nat) (a b:Rat):List Rat:=List.replicate (d+1) a++List.replicate (d+1) b
theorem aJj (d:Nat) (a b:Rat):(nS d a b).length=2*(d+1):=by simp [nS];omega
theorem aD7 (d:Nat) (a b:Rat) (i:Nat) (h:i<2*(d+1)):(nS d a b).getD i 0=if i<d+1 then a else b:=by
 unfold nS
 split
 ·rw [gD1 (by simp;omega),l8 (by omega)]
 ·rw [gD2 (by simp;omega),List.length_replicate,l8 (by omega)]
theorem aLq (d:Nat) (a b:Rat):(nS d a b).getD 0 0=a:=by rw [aD7 _ _ _ _ (by omega),if_pos (by omega)]
theorem aKV (d:Nat) (a b:Rat):(nS d a b).getD (2*(d+1)-1) 0=b:=by rw [aD7 _ _ _ _ (by omega),if_neg (by omega)]
theorem aKT {a b:Rat} (h:a<b):mnR a b=a:=by unfold mnR;rw [if_neg (by grind)]
theorem aKU {a b:Rat} (h:a<b):vB a b=b:=by unfold vB;rw [if_pos h]
theorem zF {p:List Rat} {x:Rat} (hl:p.length≤7) (hp:∀ y∈p,rl y≤7000000) (hx:rl x≤100000):HS p x:=by
 have h1:=jX 1 x
 have h0:rl 1=1:=rfl
 refine⟨rl (1-x)+rl x+1,Nat.le_refl _,by omega,fun y hy=>?_⟩
 have h2:=hp y hy
 have h3:2 ^ p.length≤2 ^ 7:=Nat.pow_le_pow_right (by decide) hl
 have h4:(rl y+(rl (1-x)+rl x+1))*2 ^ p.length≤8000000*2 ^ 7:=Nat.mul_le_mul (by omega) h3
 omega
namespace Zq82
theorem dG {p q:Prop} (k:q) (e:p=q:=by simp only [e1,e2,e3,e4,p1,p2,p3,q1,q2,q3,l1,t0,t1,r1,r2,r3,r4,Nat.zero_add,Nat.reduceMul,Nat.reduceAdd,b1,b2,b3,b4,b5,b6,i1,i2,i3,i4,i5,i6,Nat.reduceBEq,List.set_cons_zero,List.set_cons_succ,Nat.reduceEqDiff,reduceIte,if_true,if_false,bG,bF,aC fF,aC eI,aC aD,aS,aZ,LV.kill,bB];exact rfl):p:=e.mpr k
end Zq82
open Zq82 in
theorem aMs (q:PoR) (R:Nat) (hR:R≤1000000) (h:pY R q):aM Tryz.prog 77 [gZ q] (.agg [ratL (q.w*q.p.x),ratL (q.w*q.p.y),ratL (q.w*q.p.z),ratL q.w]):=by
 obtain⟨⟨a1,a2,a3⟩,a4,_⟩:=h
 have hA:=lH q.w 0 (by have:rl 0=1:=rfl;omega)
 rw [Rat.add_zero] at hA
 refine dI Tryz.func77 (ht:=(fun g=>LV.ren_pure g _ pu)) ?_
 refine mV ?_
 refine aW ?_
 refine dB ?_
 refine bK (b:=_) rfl (by decide) ?_
 refine pP ?_
 refine cp b9 (fN q.w q.p.x (by omega)) ?_
 refine dR ?_
 refine bR (bI.kill _ 5) ?_
 refine cO ?_
 refine aW ?_
 refine dB ?_
 refine bK (b:=_) rfl (by decide) ?_
 refine pP ?_
 refine cp b9 (fN q.w q.p.y (by omega)) ?_
 refine dR ?_
 refine bR (bI.kill _ 5) ?_
 refine cO ?_
 refine aW ?_
 refine dB ?_
 refine bK (b:=_) rfl (by decide) ?_
 refine pP ?_
 refine cp b9 (fN q.w q.p.z (by omega)) ?_
 refine dR ?_
 refine bR (bI.kill _ 5) ?_
 refine cO ?_
 refine aW ?_
 refine dB ?_
 refine bX (b:=_) rfl (by decide) ?_
 refine dU ?_
 refine aB rfl (.build0 tI eH) ?_
 refine cp b9 (hA) ?_
 refine cV ?_
 exact dQ [] rfl rfl rfl cs (dN cs rfl) aMk (.pure pu)
namespace Zq72
theorem dG {p q:Prop} (k:q) (e:p=q:=by simp only [e1,e2,e3,e4,p1,p2,p3,q1,q2,q3,l1,t0,t1,r1,r2,r3,r4,Nat.zero_add,Nat.reduceMul,Nat.reduceAdd,b1,b2,b3,b4,b5,b6,i1,i2,i3,i4,i5,i6,Nat.reduceBEq,List.set_cons_zero,List.set_cons_succ,Nat.reduceEqDiff,reduceIte,if_true,if_false,bG,bF,aC fF,aC eI,aC aD,aS,aZ,LV.kill,bB];exact rfl):p:=e.mpr k
end Zq72
open Zq72 in
theorem aJt (q:PoR) (R:Nat) (hR:R≤1000000) (h:pY R q):aM Tryz.prog 78 [gZ q] (.agg [ratL (q.w*q.p.x),ratL (q.w*q.p.y),ratL (q.w*q.p.z),ratL q.w]):=by
 obtain⟨hp,hw,hpos⟩:=h
 refine dI Tryz.func78 (ht:=(fun g=>LV.ren_pure g _ pu)) ?_
 refine cW ?_
 refine cp b9 (aFb q.w q.p R (by omega) hw hp) ?_
 refine mZ ?_
 exact dQ [] rfl rfl rfl cs (dN cs rfl) aMy (.pure pu)
def shL (l:List Rat):Bool:=l.all fun q=>decide (s7 q≤2048)
theorem aDa {α:Type} [Inhabited α] {f:α→Bool} {l:List α} {i:Nat} (hi:i<l.length) (h:f (l.getD i default)=false):l.all f=false:=by
 rw [List.all_eq_false]
 exact⟨l.getD i default,pX hi,by rw [h];decide⟩
theorem aCW {α:Type} [Inhabited α] {f:α→Bool} {l:List α} (h:∀ i,i<l.length→f (l.getD i default)=true):l.all f=true:=by
 rw [List.all_eq_true]
 intro x hx
 obtain⟨i,hi,rfl⟩:=List.mem_iff_getElem.1 hx
 have:=h i hi
 rwa [List.getD_eq_getElem?_getD,List.getElem?_eq_getElem hi] at this
theorem aC3 {l:List Rat} {R:Nat} (hR:R≤64) (h:∀ x∈l,rl x≤R):shL l=true:=by
 unfold shL
 rw [List.all_eq_true]
 intro x hx
 have:=aEq (h x hx)
 exact decide_eq_true (by omega)
theorem xL (k:List Rat):∀ n,0<n→(fB k n).getD 0 0=k.getD 0 0
 | 1,_=>by rw [fB,if_pos (.inl rfl)];rfl
 | n+2,_=>by
  have ih:=xL k (n+1) (by omega)
  have hp:=uP k (n+1) (by omega)
  rw [fB];split
  ·rw [gD1 hp];exact ih
  ·exact ih
theorem uX (k:List Rat):∀ n,0<n→(fB k n).getD ((fB k n).length-1) 0=k.getD (n-1) 0
 | 1,_=>by rw [fB,if_pos (.inl rfl)];rfl
 | n+2,_=>by
  have ih:=uX k (n+1) (by omega)
  rw [fB];split
  ·rw [List.length_append,List.length_singleton,Nat.add_sub_cancel,gD2 (Nat.le_refl _),Nat.sub_self];rfl
  ·rename_i h
   have h:k.getD (n+1) 0=k.getD (n+1-1) 0:=Classical.byContradiction fun e=>h (.inr e)
   rw [ih,show n+2-1=n+1 by omega,h]
theorem zV {k:List Rat} (hs:∀ i,i+1<k.length→k.getD i 0≤k.getD (i+1) 0):∀ n,0<n→n≤k.length→∀ i j,i<j→j<(fB k n).length→(fB k n).getD i 0<(fB k n).getD j 0
 | 1,_,_,i,j,hij,hj=>by
  have:=wA k 1
  omega
 | n+2,_,hn,i,j,hij,hj=>by
  have ih:=zV hs (n+1) (by omega) (by omega)
  have hl:=uX k (n+1) (by omega)
  have hp:=uP k (n+1) (by omega)
  rw [fB] at hj ⊢
  split at hj
  ·rename_i h
   rw [if_pos h]
   rw [List.length_append,List.length_singleton] at hj
   have hlt:k.getD n 0<k.getD (n+1) 0:=by
    have h1:=hs n (by omega)
    rcases h with h | h
    ·omega
    ·have h:k.getD (n+1) 0≠k.getD n 0:=h
     grind
   rcases Nat.lt_or_ge j (fB k (n+1)).length with c | c
   ·rw [gD1 (by omega),gD1 c];exact ih i j hij c
   ·obtain rfl:j=(fB k (n+1)).length:=by omega
    rw [gD1 (by omega),gD2 (Nat.le_refl _),Nat.sub_self]
    show _<k.getD (n+1) 0
    have hl:(fB k (n+1)).getD ((fB k (n+1)).length-1) 0=k.getD n 0:=hl
    rcases Nat.lt_or_ge i ((fB k (n+1)).length-1) with c2 | c2
    ·have:=ih i ((fB k (n+1)).length-1) c2 (by omega)
     rw [hl] at this
     grind
    ·obtain rfl:i=(fB k (n+1)).length-1:=by omega
     rw [hl];exact hlt
  ·rename_i h
   rw [if_neg h];exact ih i j hij hj
theorem aME {k:List Rat} {d:Nat} (h:kOK k d) {i:Nat} (hi:i<(fB k k.length).length) :
  ((i=0∨i=(fB k k.length).length-1)→lT k ((fB k k.length).getD i 0) k.length=d+1)∧lT k ((fB k k.length).getD i 0) k.length≤d+1∧(0<i→i<(fB k k.length).length-1→lT k ((fB k k.length).getD i 0) k.length≤d):=by
 have hl:=h.len
 have h0:0<k.length:=by omega
 have hm:=rX k k.length (Nat.le_refl _) _ (cC hi)
 have e0:=xL k k.length h0
 have e1:=uX k k.length h0
 refine⟨fun hc=>h.endk _ hm ?_,?_,fun p q=>?_⟩
 ·rcases hc with rfl | rfl
  ·exact .inl e0
  ·exact .inr e1
 ·by_cases c0:(fB k k.length).getD i 0=k.getD 0 0
  ·exact Nat.le_of_eq (h.endk _ hm (.inl c0))
  ·by_cases c1:(fB k k.length).getD i 0=k.getD (k.length-1) 0
   ·exact Nat.le_of_eq (h.endk _ hm (.inr c1))
   ·exact Nat.le_succ_of_le (h.ink _ hm c0 c1)
 ·have m0:=zV h.srt k.length h0 (Nat.le_refl _) 0 i p hi
  have m1:=zV h.srt k.length h0 (Nat.le_refl _) i ((fB k k.length).length-1) q (by omega)
  rw [e0] at m0
  rw [e1] at m1
  exact h.ink _ hm (by grind) (by grind)
theorem aKz {k:List Rat} {d:Nat} (h:kOK k d):2≤(fB k k.length).length:=by
 have hl:=h.len
 have h0:0<k.length:=by omega
 have hp:=uP k k.length h0
 rcases Nat.lt_or_ge (fB k k.length).length 2 with c | c
 ·exfalso
  have e0:=xL k k.length h0
  have e1:=uX k k.length h0
  rw [show (fB k k.length).length-1=0 by omega,e0] at e1
  exact h.ne e1
 ·exact c
namespace Zq38
theorem dG {p q:Prop} (k:q) (e:p=q:=by simp only [e1,e2,e3,e4,p1,p2,p3,q1,q2,q3,l1,t0,t1,r1,r2,r3,r4,Nat.zero_add,Nat.reduceMul,Nat.reduceAdd,b1,b2,b3,b4,b5,b6,i1,i2,i3,i4,i5,i6,Nat.reduceBEq,aV,fC,tz0,List.length_cons,List.length_nil];exact rfl):p:=e.mpr k
end Zq38
open Zq38 in
theorem nN (q:Rat) (h:rl q≤68719476736):aM Tryz.prog 167 [ratL q] (bL true):=by
 have a1:=fO q
 have a2:=f5 q
 have a3:=eO q
 have hne:=aBZ q
 have hg1:=aMN q
 have hG:=aGd q.num.natAbs q.den (by omega) (by omega)
 rw [hg1] at hG
 have hk:¬ ((a7 (jA q)).length=1∧(a7 (jA q)).getD 0 0=1):=fun⟨a,b⟩=>by
  have:=(lR (n:=jA q) a).1
  omega
 have hz0:(a7 q.num.natAbs).length=0→(a7 (jA q)).length=0∧¬ q<0:=fun h=>by
  have hz:=xY h
  subst hz
  exact⟨by decide,by decide +kernel⟩
 have hd1:a7 1=[1]:=kA (by decide) (by decide)
 rw [show bW 1=.list 1 ([1].map cB) from by rw [bW,hd1]] at hG
 refine dI Tryz.func167 ?_
 refine cV ?_
 refine cp dC (x7 _ (by omega)) ?_
 refine cO ?_
 refine cp dC (x7 _ (by omega)) ?_
 refine eC ?_
 refine dJ 19 rfl (fun h19r h19=>?_) (fun h19r h19=>?_)
 ·refine eC ?_
  refine dJ 27 rfl (fun h27r h27=>?_) (fun h27r h27=>?_)
  ·exfalso
   omega
  ·refine dR ?_
   refine dJ 32 rfl (fun h32r h32=>?_) (fun h32r h32=>?_)
   ·refine cP ?_
    refine aB (aL (v:=false) rfl rfl ((decide_eq_false (hz0 (by omega)).2)) rfl) mC ?_
    refine aB (aL (v:=false) rfl rfl ((decide_eq_false (hz0 (by omega)).2)) rfl) kS ?_
    refine aB (aL (v:=false) rfl rfl ((decide_eq_false (hz0 (by omega)).2)) rfl) lnA ?_
    refine aB (aL (v:=false) rfl rfl ((decide_eq_false (hz0 (by omega)).2)) rfl) (.bin rfl rfl rfl) ?_
    refine aB (aL (v:=true) rfl rfl (h32r) rfl) (.pickF rfl ((decide_eq_false (hz0 (by omega)).2))) ?_
    refine cO ?_
    refine bX (b:=_) rfl (decide_eq_false (by have:=(hz0 (by omega)).1;omega)) ?_
    refine cP ?_
    refine aP 6 (by decide +kernel) ?_
    refine cP ?_
    refine cp dC (jS _) ?_
    refine cp b9 (hG) ?_
    refine dU ?_
    refine aB (aL (v:=true) rfl rfl ((by decide)) rfl) (.move _) ?_
    refine aB (aL (v:=true) rfl rfl ((by decide)) rfl) ixA ?_
    refine aB (aL (v:=true) rfl rfl ((by decide)) rfl) kS ?_
    refine aB (aL (v:=true) rfl rfl ((by decide)) rfl) (.bin rfl rfl rfl) ?_
    refine aB rfl (.pickT rfl ((by decide))) ?_
    refine cO ?_
    exact bM rfl (by first | exact .pure rfl | exact .pure (bA _) | exact .pure (aO _) | exact .pure (aD.pure _) | exact .pure (aG cT _ _) | exact .pure (aG aD _ _))
   ·refine mY ?_
    refine aP 6 (by decide +kernel) ?_
    refine cP ?_
    refine cp dC (jS _) ?_
    refine cp b9 (hG) ?_
    refine dU ?_
    refine aB (aL (v:=true) rfl rfl ((by decide)) rfl) (.move _) ?_
    refine aB (aL (v:=true) rfl rfl ((by decide)) rfl) ixA ?_
    refine aB (aL (v:=true) rfl rfl ((by decide)) rfl) kS ?_
    refine aB (aL (v:=true) rfl rfl ((by decide)) rfl) (.bin rfl rfl rfl) ?_
    refine aB rfl (.pickT rfl ((by decide))) ?_
    refine cO ?_
    exact bM rfl (by first | exact .pure rfl | exact .pure (bA _) | exact .pure (aO _) | exact .pure (aD.pure _) | exact .pure (aG cT _ _) | exact .pure (aG aD _ _))
 ·refine eA ?_
  refine dJ 32 rfl (fun h32r h32=>?_) (fun h32r h32=>?_)
  ·refine cP ?_
   refine aB (aL (v:=false) rfl rfl ((decide_eq_false (hz0 (by omega)).2)) rfl) mC ?_
   refine aB (aL (v:=false) rfl rfl ((decide_eq_false (hz0 (by omega)).2)) rfl) kS ?_
   refine aB (aL (v:=false) rfl rfl ((decide_eq_false (hz0 (by omega)).2)) rfl) lnA ?_
   refine aB (aL (v:=false) rfl rfl ((decide_eq_false (hz0 (by omega)).2)) rfl) (.bin rfl rfl rfl) ?_
   refine aB (aL (v:=true) rfl rfl (h32r) rfl) (.pickF rfl ((decide_eq_false (hz0 (by omega)).2))) ?_
   refine cO ?_
   refine bX (b:=_) rfl (decide_eq_false (by have:=(hz0 (by omega)).1;omega)) ?_
   refine cP ?_
   refine aP 6 (by decide +kernel) ?_
   refine cP ?_
   refine cp dC (jS _) ?_
   refine cp b9 (hG) ?_
   refine dU ?_
   refine aB (aL (v:=true) rfl rfl ((by decide)) rfl) (.move _) ?_
   refine aB (aL (v:=true) rfl rfl ((by decide)) rfl) ixA ?_
   refine aB (aL (v:=true) rfl rfl ((by decide)) rfl) kS ?_
   refine aB (aL (v:=true) rfl rfl ((by decide)) rfl) (.bin rfl rfl rfl) ?_
   refine aB rfl (.pickT rfl ((by decide))) ?_
   refine cO ?_
   exact bM rfl (by first | exact .pure rfl | exact .pure (bA _) | exact .pure (aO _) | exact .pure (aD.pure _) | exact .pure (aG cT _ _) | exact .pure (aG aD _ _))
  ·refine mY ?_
   refine aP 6 (by decide +kernel) ?_
   refine cP ?_
   refine cp dC (jS _) ?_
   refine cp b9 (hG) ?_
   refine dU ?_
   refine aB (aL (v:=true) rfl rfl ((by decide)) rfl) (.move _) ?_
   refine aB (aL (v:=true) rfl rfl ((by decide)) rfl) ixA ?_
   refine aB (aL (v:=true) rfl rfl ((by decide)) rfl) kS ?_
   refine aB (aL (v:=true) rfl rfl ((by decide)) rfl) (.bin rfl rfl rfl) ?_
   refine aB rfl (.pickT rfl ((by decide))) ?_
   refine cO ?_
   exact bM rfl (by first | exact .pure rfl | exact .pure (bA _) | exact .pure (aO _) | exact .pure (aD.pure _) | exact .pure (aG cT _ _) | exact .pure (aG aD _ _))
namespace Zq51
theorem dG {p q:Prop} (k:q) (e:p=q:=by simp only [e1,e2,e3,e4,p1,p2,p3,q1,q2,q3,l1,t0,t1,r1,r2,r3,r4,Nat.zero_add,Nat.reduceMul,Nat.reduceAdd,b1,b2,b3,b4,b5,b6,i1,i2,i3,i4,i5,i6,Nat.reduceBEq,gW,List.set_cons_zero,List.set_cons_succ,Nat.reduceEqDiff,reduceIte,if_true,if_false,bG,bF,aC fF,aC eI,aC aD,aS,aZ,LV.kill,bB];exact rfl):p:=e.mpr k
end Zq51
open Zq51 in
theorem yK (c:List Rat) (hl:c.length≤1048576) (hcR:∀ x∈c,rl x≤68719476736):aM Tryz.prog 165 [.list 3 (c.map ratL)] (bL true):=by
 refine dI Tryz.func165 ?_
 refine cW ?_
 refine lX (fun(k:Nat) L=>(((St.mk L.slot (hp [])).put (some 0) (.list 3 (c.map ratL))).put (some 3) (aE k))) (fun k=>k≤c.length) (fun k=>c.length-k) 0 (Nat.zero_le _) ?_
 rintro k L1 hk
 refine dU ?_
 refine aK rfl (fun h7r h7=>?_) (fun h7r h7=>?_)
 ·have hk2:k<c.length:=by omega
  have hr1:=hcR _ (cC (i:=k) hk2)
  refine cN ?_
  refine cp dC (nN (c.getD k 0) (by omega)) ?_
  refine dU ?_
  refine aB rfl (.bin rfl rfl (bV (by omega))) ?_
  refine cP ?_
  exact kE (k+1) (by omega)
 ·refine cV ?_
  exact bM rfl (by first | exact .pure rfl | exact .pure (bA _) | exact .pure (aO _) | exact .pure (aD.pure _) | exact .pure (aG cT _ _) | exact .pure (aG aD _ _))
namespace Zq37
theorem dG {p q:Prop} (k:q) (e:p=q:=by simp only [e1,e2,e3,e4,p1,p2,p3,q1,q2,q3,l1,t0,t1,r1,r2,r3,r4,Nat.zero_add,Nat.reduceMul,Nat.reduceAdd,b1,b2,b3,b4,b5,b6,i1,i2,i3,i4,i5,i6,Nat.reduceBEq,aV];exact rfl):p:=e.mpr k
end Zq37
open Zq37 in
theorem aHW (q:Rat) (h:rl q≤1000000):aM Tryz.prog 234 [ratL q] (aE (s7 q)):=by
 have a1:=fO q
 have a2:=f5 q
 have a3:=eO q
 refine dI Tryz.func234 ?_
 refine dL ?_
 refine aP 8 (by decide +kernel) ?_
 refine cY ?_
 refine cp dC (zJ _ (by omega)) ?_
 refine bE ?_
 refine cp dC (jS _) ?_
 refine cp dC (zJ _ (by omega)) ?_
 refine dR ?_
 rw [s7]
 refine bM ?_ (.pure rfl)
 simp only [e1,e2,e3,e4,p1,p2,p3,q1,q2,q3,Nat.reduceBEq,aV]
 congr 2
 omega
namespace Zq40
theorem dG {p q:Prop} (k:q) (e:p=q:=by simp only [e1,e2,e3,e4,p1,p2,p3,q1,q2,q3,l1,t0,t1,r1,r2,r3,r4,Nat.zero_add,Nat.reduceMul,Nat.reduceAdd,b1,b2,b3,b4,b5,b6,i1,i2,i3,i4,i5,i6,Nat.reduceBEq,gW,List.set_cons_zero,List.set_cons_succ,Nat.reduceEqDiff,reduceIte,if_true,if_false,bG,bF,aC fF,aC eI,aC aD,aS,aZ,LV.kill,bB];exact rfl):p:=e.mpr k
end Zq40
open Zq40 in
theorem wR (l:List Rat) (hl:l.length≤1000) (hr:∀ x∈l,rl x≤1000000):aM Tryz.prog 170 [.list 3 (l.map ratL)] (bL (shL l)):=by
 refine dI Tryz.func170 ?_
 refine cW ?_
 refine lX (fun(k:Nat) L=>(((St.mk L.slot (hp [])).put (some 0) (.list 3 (l.map ratL))).put (some 3) (aE k))) (fun k=>k≤l.length∧∀ i,i<k→decide (s7 (l.getD i default)≤2048)=true) (fun k=>l.length-k) 0 ⟨Nat.zero_le _,fun i hi=>absurd hi (Nat.not_lt_zero i)⟩ ?_
 rintro k L1 ⟨hk,hs⟩
 refine dU ?_
 refine aK rfl (fun h7r h7=>?_) (fun h7r h7=>?_)
 ·have hk2:k<l.length:=by omega
  have hr1:=hr _ (cC (i:=k) hk2)
  refine cN ?_
  refine cp dC (aHW (l.getD k 0) (by omega)) ?_
  refine cP ?_
  refine aK rfl (fun h15r h15=>?_) (fun h15r h15=>?_)
  ·have hV:shL l=false:=aDa (f:=fun q=>decide (s7 q≤2048)) hk2 (decide_eq_false (by show ¬s7 (l.getD k 0)≤2048;omega))
   refine cV ?_
   rw [hV]
   exact bM rfl (by first | exact .pure rfl | exact .pure (bA _) | exact .pure (aO _) | exact .pure (aD.pure _) | exact .pure (aG cT _ _) | exact .pure (aG aD _ _))
  ·have hsn:∀ i,i<k+1→decide (s7 (l.getD i default)≤2048)=true:=fun i hi=>by
    rcases Nat.lt_succ_iff_lt_or_eq.1 hi with c | rfl
    ·exact hs i c
    ·exact decide_eq_true (by show s7 (l.getD i 0)≤2048;omega)
   refine dR ?_
   refine aB rfl (.bin rfl rfl (bV (by omega))) ?_
   refine cP ?_
   exact kE (k+1) ⟨by omega,hsn⟩
 ·obtain rfl:k=l.length:=by omega
  have hV:shL l=true:=aCW hs
  refine cV ?_
  rw [hV]
  exact bM rfl (by first | exact .pure rfl | exact .pure (bA _) | exact .pure (aO _) | exact .pure (aD.pure _) | exact .pure (aG cT _ _) | exact .pure (aG aD _ _))
namespace Zq35
theorem dG {p q:Prop} (k:q) (e:p=q:=by simp only [e1,e2,e3,e4,p1,p2,p3,q1,q2,q3,l1,t0,t1,r1,r2,r3,r4,Nat.zero_add,Nat.reduceMul,Nat.reduceAdd,b1,b2,b3,b4,b5,b6,i1,i2,i3,i4,i5,i6,Nat.reduceBEq,List.set_cons_zero,List.set_cons_succ,Nat.reduceEqDiff,reduceIte,if_true,if_false,bG,bF,aC fF,aC eI,aC aD,aS,aZ,LV.kill,bB];exact rfl):p:=e.mpr k
end Zq35
open Zq35 in
theorem aCR (p:V3) (h:jF 1000000 p):aM Tryz.prog 166 [fA p] (bL true):=by
 obtain⟨a1,a2,a3⟩:=h
 refine dI Tryz.func166 ?_
 refine cN ?_
 refine cp dC (nN p.x (by omega)) ?_
 refine cP ?_
 refine cp dC (nN p.y (by omega)) ?_
 refine cO ?_
 refine cp dC (nN p.z (by omega)) ?_
 refine dR ?_
 exact bM rfl (.pure rfl)
namespace Zq44
theorem dG {p q:Prop} (k:q) (e:p=q:=by simp only [e1,e2,e3,e4,p1,p2,p3,q1,q2,q3,l1,t0,t1,r1,r2,r3,r4,Nat.zero_add,Nat.reduceMul,Nat.reduceAdd,b1,b2,b3,b4,b5,b6,i1,i2,i3,i4,i5,i6,Nat.reduceBEq,gW,etm,List.set_cons_zero,List.set_cons_succ,Nat.reduceEqDiff,reduceIte,if_true,if_false,bG,bF,aC fF,aC eI,aC aD,aS,aZ,LV.kill,bB];exact rfl):p:=e.mpr k
end Zq44
open Zq44 in
theorem aFD (k:List Rat) (hl:k.length≤1000) (hr:∀ x∈k,rl x≤1000000) (t:Rat) (ht:rl t≤1000000):aM Tryz.prog 233 [.list 3 (k.map ratL),ratL t] (aE (lT k t k.length)):=by
 refine dI Tryz.func233 ?_
 have etm:True:=trivial
 refine pP ?_
 refine lX (fun(i:Nat) L=>(((((St.mk L.slot (hp [(3,⟨3,[ratL t],true⟩)])).put (some 0) (.list 3 (k.map ratL))).put (some 3) (.eptr 3 3 0 0)).put (some 5) (aE (lT k t i))).put (some 6) (aE i))) (fun i=>i≤k.length) (fun i=>k.length-i) 0 (Nat.zero_le _) ?_
 rintro i L1 hi
 refine dU ?_
 refine aK rfl (fun h10r h10=>?_) (fun h10r h10=>?_)
 ·have hi2:i<k.length:=by omega
  have hx:=hr _ (cC (i:=i) (by omega))
  have htl:=v7 k t i
  refine dR ?_
  refine aP 6 (by decide +kernel) ?_
  refine dR ?_
  refine cp b9 (jO (k.getD i 0) t (by omega)) ?_
  refine cY ?_
  refine aK rfl (fun h18r h18=>?_) (fun h18r h18=>?_)
  ·have etm:lT k t (i+1)=lT k t i+1:=by rw [lT,if_pos h18]
   refine cY ?_
   refine aB rfl (.bin rfl rfl (bV (by omega))) ?_
   refine dB ?_
   refine aB rfl (.bin rfl rfl (bV (by omega))) ?_
   refine cP ?_
   exact kE (i+1) (by omega)
  ·have etm:lT k t (i+1)=lT k t i:=by rw [lT,if_neg h18];rfl
   refine dR ?_
   refine aB rfl (.bin rfl rfl (bV (by omega))) ?_
   refine cP ?_
   exact kE (i+1) (by omega)
 ·obtain rfl:i=k.length:=by omega
  refine cW ?_
  exact bM rfl (.pure rfl)
namespace Zq20
theorem dG {p q:Prop} (k:q) (e:p=q:=by simp only [e1,e2,e3,e4,p1,p2,p3,q1,q2,q3,l1,t0,t1,r1,r2,r3,r4,Nat.zero_add,Nat.reduceMul,Nat.reduceAdd,b1,b2,b3,b4,b5,b6,i1,i2,i3,i4,i5,i6,Nat.reduceBEq,gW,eij,eii,ers,etk,edl,List.length_map,bJ,cI,bQ,List.length_cons,List.length_nil,List.nil_append,List.map_nil,List.take_nil,List.append_nil,List.set_cons_zero,List.set_cons_succ,Nat.reduceEqDiff,reduceIte,if_true,if_false,bG,bF,aC fF,aC eI,aC aD,aS,aZ,LV.kill,bB];exact rfl):p:=e.mpr k
end Zq20
open Zq20 in
theorem aBd (k:List Rat) (hl:k.length≤1000) (hr:∀ x∈k,rl x≤1000000):aM Tryz.prog 232 [.list 3 (k.map ratL)] (.list 3 ((fB k k.length).map ratL)):=by
 refine dI Tryz.func232 ?_
 have eij:True:=trivial
 have eii:True:=trivial
 have ers:True:=trivial
 have etk:True:=trivial
 have edl:True:=trivial
 refine nY ?_
 refine eZ (bI.own (t:=3) 32 3 rfl rfl) ?_
 refine lX (fun(i:Nat) L=>((((St.mk L.slot (hp [(32,⟨3,(fB k i).map ratL,true⟩)])).put (some 0) (.list 3 (k.map ratL))).put (some 3) (.ref 32 3 0 (fB k i).length)).put (some 4) (aE i))) (fun i=>i≤k.length) (fun i=>k.length-i) 0 (Nat.zero_le _) ?_
 rintro i L1 hi
 refine dU ?_
 refine aK rfl (fun h8r h8=>?_) (fun h8r h8=>?_)
 ·have hi2:i<k.length:=by omega
  have hdi:=wA k i
  have hx:=hr _ (cC (i:=i) (by omega))
  have hx1:=hr _ (cC (i:=(i-1)) (by omega))
  refine dR ?_
  refine aP 15 (by decide +kernel) ?_
  refine cP ?_
  refine dJ 13 rfl (fun h13r h13=>?_) (fun h13r h13=>?_)
  ·have hc:i=0∨k.getD i 0≠k.getD (i-1) 0:=.inl (by omega)
   have ers:fB k i++[k.getD i 0]=fB k (i+1):=by rw [fB,if_pos hc]
   have edl:(fB k (i+1)).length=(fB k i).length+1:=by rw [fB,if_pos hc];simp
   have etk:((fB k i).map ratL).take (fB k i).length=(fB k i).map ratL:=List.take_of_length_le (by rw [List.length_map];omega)
   refine aCu ?_
   refine bD rfl (.app (news:=[ratL (k.getD i 0)]) rfl rfl rfl rfl rfl (by rw [List.length_map];omega) (.inl rfl) (by decide) Tryz.underlying36 Tryz.underlying36 eH cX rfl lB (.inl ⟨31,0,_,rfl,by decide,rfl,rfl,by simp,rfl,by simp [aY,aD.pure]⟩) (by simp;omega) (by simp;omega) (by decide)) ?_
   refine cO ?_
   refine bR (bI.kill _ 31) ?_
   refine bE ?_
   refine aB rfl (.bin rfl rfl (bV (by omega))) ?_
   refine cP ?_
   exact kE (i+1) (by omega)
  ·have eij:((i:Int)-1).toNat=i-1:=by omega
   refine dB ?_
   refine aB (aL (v:=false) rfl rfl (h13r) rfl) (.bin rfl rfl (iG (by omega) (by omega))) ?_
   refine cY ?_
   refine cp b9 (jO (k.getD i 0) (k.getD (i-1) 0) (by omega)) ?_
   refine cO ?_
   refine aK rfl (fun h25r h25=>?_) (fun h25r h25=>?_)
   ·have hc:i=0∨k.getD i 0≠k.getD (i-1) 0:=by first | exact .inl (by omega) | exact .inr h24 | exact .inr (by simpa using h24) | exact .inr h25 | exact .inr (by simpa using h25)
    have ers:fB k i++[k.getD i 0]=fB k (i+1):=by rw [fB,if_pos hc]
    have edl:(fB k (i+1)).length=(fB k i).length+1:=by rw [fB,if_pos hc];simp
    have etk:((fB k i).map ratL).take (fB k i).length=(fB k i).map ratL:=List.take_of_length_le (by rw [List.length_map];omega)
    refine dL ?_
    refine bD rfl (.app (news:=[ratL (k.getD i 0)]) rfl rfl rfl rfl rfl (by rw [List.length_map];omega) (.inl rfl) (by decide) Tryz.underlying36 Tryz.underlying36 eH cX rfl lB (.inl ⟨31,0,_,rfl,by decide,rfl,rfl,by simp,rfl,by simp [aY,aD.pure]⟩) (by simp;omega) (by simp;omega) (by decide)) ?_
    refine cO ?_
    refine bR (bI.kill _ 31) ?_
    refine bE ?_
    refine aB rfl (.bin rfl rfl (bV (by omega))) ?_
    refine cP ?_
    exact kE (i+1) (by omega)
   ·have ers:fB k (i+1)=fB k i:=by
     rw [fB,if_neg]
     rintro(e | e)
     ·omega
     ·first | exact e h24 | exact absurd e (by simpa using h24) | exact e h25 | exact absurd e (by simpa using h25)
    have edl:True:=trivial
    refine cP ?_
    refine bR (bI.kill _ 31) ?_
    refine bE ?_
    refine aB rfl (.bin rfl rfl (bV (by omega))) ?_
    refine cP ?_
    exact kE (i+1) (by omega)
 ·obtain rfl:i=k.length:=by omega
  refine cW ?_
  exact kP [32] rfl rfl (cA aD rfl rfl rfl)
open H0 in
theorem tO (k:List Rat) (d:Nat) (h:d+1≤k.length) (hl:k.length≤1048576):aM Tryz.prog 169 [.list 3 (k.map ratL),aE d] (aE (k.length-d-1)):=by
 refine dI Tryz.func169 ?_
 refine cN ?_
 refine aB rfl (.bin rfl rfl (iK (by omega) (by omega))) ?_
 refine aB rfl (.bin rfl rfl (iK (by omega) (by omega))) ?_
 refine cO ?_
 refine bM ?_ (.pure rfl)
 simp only [e1,e2,e3,e4,p1,p2,p3,q1,q2,q3,Nat.reduceBEq]
 congr 2
 omega
namespace Zq23
theorem dG {p q:Prop} (k:q) (e:p=q:=by simp only [e1,e2,e3,e4,p1,p2,p3,q1,q2,q3,l1,t0,t1,r1,r2,r3,r4,Nat.zero_add,Nat.reduceMul,Nat.reduceAdd,b1,b2,b3,b4,b5,b6,i1,i2,i3,i4,i5,i6,Nat.reduceBEq,gW,eij,List.length_map,List.set_cons_zero,List.set_cons_succ,Nat.reduceEqDiff,reduceIte,if_true,if_false,bG,bF,aC fF,aC eI,aC aD,aS,aZ,LV.kill,bB];exact rfl):p:=e.mpr k
end Zq23
open Zq23 in
theorem yO (k:List Rat) (d:Nat) (h:kOK k d):aM Tryz.prog 168 [.list 3 (k.map ratL),aE d] (iL 0):=by
 have hd1:=h.d1
 have hd6:=h.d6
 have hlen:=h.len
 have hmax:=h.max
 have hr:∀ x∈k,rl x≤1000000:=fun x hx=>Nat.le_trans (h.sz x hx) (by decide)
 have hds2:=aKz h
 have hdl:=wA k k.length
 refine dI Tryz.func168 ?_
 have eij:True:=trivial
 refine cV ?_
 refine dJ 11 rfl (fun h11r h11=>?_) (fun h11r h11=>?_)
 ·omega
 ·refine dR ?_
  refine aK rfl (fun h14r h14=>?_) (fun h14r h14=>?_)
  ·omega
  ·refine eC ?_
   refine aB rfl (.bin rfl rfl (tX (by omega) (by omega))) ?_
   refine aB rfl (.bin rfl rfl (iS (by omega) (by omega))) ?_
   refine cP ?_
   refine aK rfl (fun h20r h20=>?_) (fun h20r h20=>?_)
   ·omega
   ·refine dL ?_
    refine cp b9 (tO k d (by omega) (by omega)) ?_
    refine cP ?_
    refine aK rfl (fun h24r h24=>?_) (fun h24r h24=>?_)
    ·omega
    ·refine dU ?_
     refine lX (fun(i:Nat) L=>((((St.mk L.slot (hp [])).put (some 0) (.list 3 (k.map ratL))).put (some 1) (aE d)).put (some 5) (aE (i+1)))) (fun i=>i+1≤k.length) (fun i=>k.length-i) 0 (by omega) ?_
     rintro i L1 hi
     refine dU ?_
     refine aK rfl (fun h28r h28=>?_) (fun h28r h28=>?_)
     ·have hi2:i+1<k.length:=by omega
      have hx:=hr _ (cC (p:=k) (i:=i) (by omega))
      have hx1:=hr _ (cC (p:=k) (i:=i+1) (by omega))
      have hs1:=h.srt i hi2
      have eij:(((i+1:Nat):Int)-1).toNat=i:=by omega
      refine dR ?_
      refine aP 11 (by decide +kernel) ?_
      refine dB ?_
      refine aB rfl (.bin rfl rfl (iG (by omega) (by omega))) ?_
      refine cY ?_
      try simp only [t1,gW,Nat.add_sub_cancel,Int.toNat_natCast,eij]
      refine cp b9 (aAc (k.getD (i+1) 0) (k.getD i 0) (by omega)) ?_
      refine cP ?_
      refine aK rfl (fun h41r h41=>?_) (fun h41r h41=>?_)
      ·have:=aDZ.2 (show k.getD i 0≤k.getD (i+1) 0 from hs1)
       omega
      ·refine dR ?_
       refine aB rfl (.bin rfl rfl (bV (by omega))) ?_
       refine cP ?_
       exact kE (i+1) (by omega)
     ·refine eC ?_
      refine cp dC (aBd k (by omega) hr) ?_
      refine cN ?_
      refine lX (fun(i:Nat) L=>(((((St.mk L.slot (hp [])).put (some 0) (.list 3 (k.map ratL))).put (some 1) (aE d)).put (some 6) (.list 3 ((fB k k.length).map ratL))).put (some 7) (aE i))) (fun i=>i≤(fB k k.length).length) (fun i=>(fB k k.length).length-i) 0 (Nat.zero_le _) ?_
      rintro i L2 hi
      refine dU ?_
      refine aK rfl (fun h47r h47=>?_) (fun h47r h47=>?_)
      ·have hi2:i<(fB k k.length).length:=by omega
       have hm:=rX k k.length (Nat.le_refl _) _ (cC hi2)
       have hrt:=hr _ hm
       obtain⟨w1,w2,w3⟩:=aME h hi2
       refine cV ?_
       refine cp b9 (aFD k (by omega) hr ((fB k k.length).getD i 0) hrt) ?_
       refine eC ?_
       refine dJ 58 rfl (fun h58r h58=>?_) (fun h58r h58=>?_)
       ·refine dU ?_
        refine aB (aL (v:=true) rfl rfl (rfl) rfl) (.bin rfl rfl (bV (by omega))) ?_
        refine cP ?_
        refine dJ 71 rfl (fun h71r h71=>?_) (fun h71r h71=>?_)
        ·have:=w1 (by omega)
         omega
        ·refine cY ?_
         refine aB (aL (v:=false) rfl rfl (h71r) rfl) (.bin rfl rfl (bV (by omega))) ?_
         refine cP ?_
         refine dJ 77 rfl (fun h77r h77=>?_) (fun h77r h77=>?_)
         ·omega
         ·refine cP ?_
          refine dJ 80 rfl (fun h80r h80=>?_) (fun h80r h80=>?_)
          ·refine cP ?_
           refine aB (aL (v:=true) rfl rfl (h80r) rfl) (.bin rfl rfl (iG (by omega) (by omega))) ?_
           refine cP ?_
           refine dJ 87 rfl (fun h87r h87=>?_) (fun h87r h87=>?_)
           ·refine dL ?_
            refine aK rfl (fun h92r h92=>?_) (fun h92r h92=>?_)
            ·first | omega | (have:=w3 (by omega) (by omega);omega)
            ·refine dR ?_
             refine aB rfl (.bin rfl rfl (bV (by omega))) ?_
             refine cP ?_
             exact kE (i+1) (by omega)
           ·refine eA ?_
            refine aB rfl (.bin rfl rfl (bV (by omega))) ?_
            refine cP ?_
            exact kE (i+1) (by omega)
          ·refine mV ?_
           refine aB rfl (.bin rfl rfl (bV (by omega))) ?_
           refine cP ?_
           exact kE (i+1) (by omega)
       ·refine cP ?_
        refine aB (aL (v:=false) rfl rfl (h58r) rfl) (.bin rfl rfl (iG (by omega) (by omega))) ?_
        refine cP ?_
        refine dJ 65 rfl (fun h65r h65=>?_) (fun h65r h65=>?_)
        ·refine cY ?_
         refine aB (aL (v:=true) rfl rfl (h65r) rfl) (.bin rfl rfl (bV (by omega))) ?_
         refine cP ?_
         refine dJ 71 rfl (fun h71r h71=>?_) (fun h71r h71=>?_)
         ·have:=w1 (by omega)
          omega
         ·refine cY ?_
          refine aB (aL (v:=false) rfl rfl (h71r) rfl) (.bin rfl rfl (bV (by omega))) ?_
          refine cP ?_
          refine dJ 77 rfl (fun h77r h77=>?_) (fun h77r h77=>?_)
          ·omega
          ·refine cP ?_
           refine dJ 80 rfl (fun h80r h80=>?_) (fun h80r h80=>?_)
           ·refine cP ?_
            refine aB (aL (v:=true) rfl rfl (h80r) rfl) (.bin rfl rfl (iG (by omega) (by omega))) ?_
            refine cP ?_
            refine dJ 87 rfl (fun h87r h87=>?_) (fun h87r h87=>?_)
            ·refine dL ?_
             refine aK rfl (fun h92r h92=>?_) (fun h92r h92=>?_)
             ·first | omega | (have:=w3 (by omega) (by omega);omega)
             ·refine dR ?_
              refine aB rfl (.bin rfl rfl (bV (by omega))) ?_
              refine cP ?_
              exact kE (i+1) (by omega)
            ·refine eA ?_
             refine aB rfl (.bin rfl rfl (bV (by omega))) ?_
             refine cP ?_
             exact kE (i+1) (by omega)
           ·refine mV ?_
            refine aB rfl (.bin rfl rfl (bV (by omega))) ?_
            refine cP ?_
            exact kE (i+1) (by omega)
        ·refine eC ?_
         refine aB (aL (v:=false) rfl rfl (rfl) rfl) (.bin rfl rfl (bV (by omega))) ?_
         refine cP ?_
         refine dJ 77 rfl (fun h77r h77=>?_) (fun h77r h77=>?_)
         ·omega
         ·refine cP ?_
          refine dJ 80 rfl (fun h80r h80=>?_) (fun h80r h80=>?_)
          ·refine cP ?_
           refine aB (aL (v:=true) rfl rfl (h80r) rfl) (.bin rfl rfl (iG (by omega) (by omega))) ?_
           refine cP ?_
           refine dJ 87 rfl (fun h87r h87=>?_) (fun h87r h87=>?_)
           ·refine dL ?_
            refine aK rfl (fun h92r h92=>?_) (fun h92r h92=>?_)
            ·first | omega | (have:=w3 (by omega) (by omega);omega)
            ·refine dR ?_
             refine aB rfl (.bin rfl rfl (bV (by omega))) ?_
             refine cP ?_
             exact kE (i+1) (by omega)
           ·refine eA ?_
            refine aB rfl (.bin rfl rfl (bV (by omega))) ?_
            refine cP ?_
            exact kE (i+1) (by omega)
          ·refine mV ?_
           refine aB rfl (.bin rfl rfl (bV (by omega))) ?_
           refine cP ?_
           exact kE (i+1) (by omega)
      ·refine eA ?_
       refine aK rfl (fun h95r h95=>?_) (fun h95r h95=>?_)
       ·omega
       ·refine eC ?_
        exact bM rfl (.pure rfl)
def kx (d:Nat) (T:Rat) (inn:List Rat) (E:Rat):List Rat:=List.replicate (d+1) T++(inn++List.replicate (d+1) E)
theorem aCG (d:Nat) (T:Rat) (inn:List Rat) (E:Rat):(kx d T inn E).length=2*(d+1)+inn.length:=by simp [kx];omega
theorem aAd (d:Nat) (T:Rat) (inn:List Rat) (E:Rat) (i:Nat) (h:i<2*(d+1)+inn.length):(kx d T inn E).getD i 0=if i<d+1 then T else if i<d+1+inn.length then inn.getD (i-(d+1)) 0 else E:=by
 unfold kx
 split
 ·rw [gD1 (by simp;omega),l8 (by omega)]
 ·rw [gD2 (by simp;omega),List.length_replicate]
  split
  ·rw [gD1 (by omega)]
  ·rw [gD2 (by omega),l8 (by omega)]
theorem aJO {l:List Rat} {t:Rat} (h:∀ x∈l,x≠t):∀ i,i≤l.length→lT l t i=0
 | 0,_=>rfl
 | i+1,hi=>by rw [lT,aJO h i (by omega),if_neg (h _ (cC (by omega)))]
theorem aKa (d:Nat) (T:Rat) (inn:List Rat) (E t:Rat):lT (kx d T inn E) t (kx d T inn E).length=(if T=t then d+1 else 0)+(lT inn t inn.length+(if E=t then d+1 else 0)):=by
 have h:=zP (List.replicate (d+1) T) (inn++List.replicate (d+1) E) t (inn.length+(d+1))
 have h2:=zP inn (List.replicate (d+1) E) t (d+1)
 rw [List.length_replicate] at h
 have e:(kx d T inn E).length=d+1+(inn.length+(d+1)):=by rw [aCG];omega
 rw [e]
 show lT (List.replicate (d+1) T++_) t _=_
 rw [h,h2,oZ _ _ _ _ (Nat.le_refl _),oZ _ _ _ _ (Nat.le_refl _)]
structure inOK (d:Nat) (T:Rat) (inn:List Rat) (E:Rat):Prop where
 btw:∀ x∈inn,T<x∧x<E
 srt:∀ i,i+1<inn.length→inn.getD i 0≤inn.getD (i+1) 0
 tms:∀ x∈inn,lT inn x inn.length≤d
 len:inn.length≤2
 sz:∀ x∈inn,rl x≤64
theorem aMF {d:Nat} {T E:Rat} {inn:List Rat} (h1:1≤d) (h6:d≤6) (hT:rl T≤64) (hE:rl E≤64) (hTE:T<E) (h:inOK d T inn E):kOK (kx d T inn E) d:=by
 have hl:=aCG d T inn E
 have hn:=h.len
 have hne:T≠E:=by grind
 have e0:(kx d T inn E).getD 0 0=T:=by rw [aAd _ _ _ _ _ (by omega),if_pos (by omega)]
 have e1:(kx d T inn E).getD ((kx d T inn E).length-1) 0=E:=by rw [hl,aAd _ _ _ _ _ (by omega),if_neg (by omega),if_neg (by omega)]
 have hm:∀ x∈kx d T inn E,x=T∨x∈inn∨x=E:=fun x hx=>by
  rcases List.mem_append.1 hx with g | g
  ·exact .inl (List.mem_replicate.1 g).2
  ·rcases List.mem_append.1 g with g | g
   ·exact .inr (.inl g)
   ·exact .inr (.inr (List.mem_replicate.1 g).2)
 refine⟨h1,h6,by omega,by omega,fun i hi=>?_,by rw [e0,e1];exact hne,fun t ht he=>?_,fun t ht g0 g1=>?_,fun x hx=>?_⟩
 ·rw [aAd _ _ _ _ _ (by omega),aAd _ _ _ _ _ (by omega)]
  by_cases c1:i+1<d+1
  ·rw [if_pos (by omega),if_pos c1];exact Rat.le_refl
  ·rw [if_neg c1]
   by_cases c2:i<d+1
   ·rw [if_pos c2]
    split
    ·exact Rat.le_of_lt (h.btw _ (cC (by omega))).1
    ·exact Rat.le_of_lt hTE
   ·rw [if_neg c2]
    by_cases c3:i+1<d+1+inn.length
    ·rw [if_pos (by omega),if_pos c3,show i+1-(d+1)=i-(d+1)+1 by omega]
     exact h.srt _ (by omega)
    ·rw [if_neg c3]
     split
     ·exact Rat.le_of_lt (h.btw _ (cC (by omega))).2
     ·exact Rat.le_refl
 ·rw [aKa]
  rw [e0,e1] at he
  have z:∀ s,(s=T∨s=E)→lT inn s inn.length=0:=fun s hs=>aJO (fun x hx e=>by
   have:=h.btw x hx
   rcases hs with rfl | rfl
   ·rw [e] at this;exact absurd this.1 (by grind)
   ·rw [e] at this;exact absurd this.2 (by grind)) _ (Nat.le_refl _)
  rw [z t he]
  rcases he with rfl | rfl
  ·rw [if_pos rfl,if_neg (fun e=>hne e.symm)]
  ·rw [if_neg hne,if_pos rfl];omega
 ·rw [e0] at g0;rw [e1] at g1
  rw [aKa,if_neg (fun e=>g0 e.symm),if_neg (fun e=>g1 e.symm)]
  rcases hm t ht with e | e | e
  ·exact absurd e g0
  ·have:=h.tms t e;omega
  ·exact absurd e g1
 ·rcases hm x hx with rfl | g | rfl
  ·exact hT
  ·exact h.sz x g
  ·exact hE
end Go.Proofs.YtfpdccbgngdhkaaGreat
end
section
set_option linter.unusedVariables false
set_option linter.unusedSimpArgs false
namespace Go.Lg
def fP:Op→Bool
 | .move _=>true
 | .pick ..=>true
 | .binOp ..=>true
 | .load ..=>true
 | .fieldAddr ..=>true
 | .indexAddr ..=>true
 | .call ⟨.builtin .len,_,_⟩=>true
 | _=>false
theorem vN {op:Op} (h:fP op=true):nB op=false:=by
 unfold fP at h
 split at h<;>first | rfl | cases h
section
variable {P:Program} {H:dA} {ρ ρ':Operand→LV}
theorem OpP.cong {op:Op} {r:LV} (h:OpP P H ρ op r) (hp:fP op=true) (hr:∀ x∈op.operands,ρ' x=ρ x):OpP P H ρ' op r:=by
 cases h with
 | move x=>rw [←hr x (by simp [Op.operands])];exact .move x
 | pick hc =>
  rename_i c x y t
  have e1:=hr x (by simp [Op.operands])
  have e2:=hr y (by simp [Op.operands])
  have:=OpP.pick (P:=P) (H:=H) (ρ:=ρ') (x:=x) (y:=y) ((hr _ (by simp [Op.operands])).trans hc)
  rw [e1,e2] at this
  exact this
 | bin hx hy h=>exact .bin ((hr _ (by simp [Op.operands])).trans hx) ((hr _ (by simp [Op.operands])).trans hy) h
 | sh hx hy h=>exact .sh ((hr _ (by simp [Op.operands])).trans hx) ((hr _ (by simp [Op.operands])).trans hy) h
 | beq hx hy hT=>exact .beq ((hr _ (by simp [Op.operands])).trans hx) ((hr _ (by simp [Op.operands])).trans hy) hT
 | bne hx hy hT=>exact .bne ((hr _ (by simp [Op.operands])).trans hx) ((hr _ (by simp [Op.operands])).trans hy) hT
 | addS hx hy h=>exact .addS ((hr _ (by simp [Op.operands])).trans hx) ((hr _ (by simp [Op.operands])).trans hy) h
 | eqS hx hy=>exact .eqS ((hr _ (by simp [Op.operands])).trans hx) ((hr _ (by simp [Op.operands])).trans hy)
 | eqN hx hy hT=>exact .eqN ((hr _ (by simp [Op.operands])).trans hx) ((hr _ (by simp [Op.operands])).trans hy) hT
 | eqNL hx hy hT=>exact .eqNL ((hr _ (by simp [Op.operands])).trans hx) ((hr _ (by simp [Op.operands])).trans hy) hT
 | eqA4 hx hy hT hE hs hd=>exact .eqA4 ((hr _ (by simp [Op.operands])).trans hx) ((hr _ (by simp [Op.operands])).trans hy) hT hE hs hd
 | fieldAddrB hq hT hr'=>exact .fieldAddrB ((hr _ (by simp [Op.operands])).trans hq) hT hr'
 | fieldAddrE hq hT hk=>exact .fieldAddrE ((hr _ (by simp [Op.operands])).trans hq) hT hk
 | loadB hq hT hc=>exact .loadB ((hr _ (by simp [Op.operands])).trans hq) hT hc
 | loadE hq hb hs hi hx hr' hT=>exact .loadE ((hr _ (by simp [Op.operands])).trans hq) hb hs hi hx hr' hT
 | idxAE hx hT hE hi h0 hm=>exact .idxAE ((hr _ (by simp [Op.operands])).trans hx) hT hE ((hr _ (by simp [Op.operands])).trans hi) h0 hm
 | idxAB hx hT hE hf hi h0 hr'=>exact .idxAB ((hr _ (by simp [Op.operands])).trans hx) hT hE hf ((hr _ (by simp [Op.operands])).trans hi) h0 hr'
 | idxL hx hT hE hi h0 hr' hc=>exact .idxL ((hr _ (by simp [Op.operands])).trans hx) hT hE ((hr _ (by simp [Op.operands])).trans hi) h0 hr' hc
 | idxR hx hT hE hi h0 hn=>exact .idxR ((hr _ (by simp [Op.operands])).trans hx) hT hE ((hr _ (by simp [Op.operands])).trans hi) h0 hn
 | lenL hx has hT=>exact .lenL ((hr _ (by simp [Op.operands,Call.operands])).trans hx) has hT
 | lenR hx has hT=>exact .lenR ((hr _ (by simp [Op.operands,Call.operands])).trans hx) has hT
 | lenN hx has hT=>exact .lenN ((hr _ (by simp [Op.operands,Call.operands])).trans hx) has hT
 | _=>first | (cases hp;done) | (simp [fP] at hp;done)
end
def mX (n e:Nat):Array Bool:=((List.range n).map fun i=>decide (i<e)).toArray
theorem xI {n e i:Nat} (h:i<n):(mX n e).getD i false=decide (i<e):=by
 unfold mX
 rw [Array.getD_eq_getD_getElem?]
 simp [h]
theorem tZ (n e:Nat):(mX n e).size=n:=by simp [mX]
theorem aER {n e:Nat} {D:Array Bool} (hs:D.size=n) (h:∀ i,i<n→D.getD i false=decide (i<e)):D=mX n e:=by
 refine Array.ext (by rw [tZ,hs]) fun i h1 h2=>?_
 have e1:=h i (by omega)
 have e2:=xI (n:=n) (e:=e) (i:=i) (by omega)
 rw [Array.getD_eq_getD_getElem?,Array.getElem?_eq_getElem h1] at e1
 rw [Array.getD_eq_getD_getElem?,Array.getElem?_eq_getElem h2] at e2
 simp only [Option.getD_some] at e1 e2
 rw [e1,e2]
def aHw (ops:Array Oper) (s e:Nat):Bool :=
 decide (s≤e) && decide (e≤ops.size) && ((List.range ops.size).all fun i=>(kC (ops.getD i default)).all (·<i)) &&
 ((List.range e).all fun i=>decide (i<s) || fP (ops.getD i default).op) &&
 ((List.range e).all fun i=>(List.range e).all fun j=>decide (i<s) || decide (j<s) || i==j || s5 ops (bef ops.toList []) i j) &&
 ((List.range ops.size).all fun i=>decide (i<e) || (List.range e).all fun j=>decide (j<s) || ((bef ops.toList []).getD i 0).testBit j)
section
variable {P:Program} {ops:Array Oper}
theorem yF {K:St→Prop}:∀ (n:Nat) (D:Array Bool) (L:St),jJ P ops n D L K→jJ P ops (n+1) D L K
 | 0,D,L,h=>⟨fun _=>h.2,fun i hi=>by rw [h.1] at hi;cases hi⟩
 | n+1,D,L,h=>⟨h.1,fun i hi=>by
  obtain⟨o,L',h1,h2,h3⟩:=h.2 i hi
  exact⟨o,L',h1,h2,yF n _ _ h3⟩⟩
open Classical in
noncomputable def nO (ops:Array Oper) (g:Nat→St) (s e:Nat) (D:Array Bool) (t:Nat):LV :=
 if ∃ i o,s≤i∧i<e∧D.getD i false=true∧ops[i]?=some o∧o.dst=some t then(g e).slot t else(g s).slot t
theorem aJf {fuel:Nat} {K:St→Prop} {L:St} {D:Array Bool} (s e:Nat) (l:List Oper) (hD:D=mX ops.size s) (hl:l=(ops.toList.drop s).take (e-s)) (hok:aHw ops s e=true)
  (h:opsL P true ops l L (fun L'=>jJ P ops fuel (mX ops.size e) L' K)):jJ P ops (fuel+(e-s)) D L K:=by
 unfold aHw at hok
 simp only [Bool.and_eq_true,decide_eq_true_eq,List.all_eq_true,List.mem_range,Bool.or_eq_true] at hok
 obtain⟨⟨⟨⟨⟨hse,hen⟩,h1⟩,h2⟩,h3⟩,h4⟩:=hok
 have getD_of:∀ i o,ops[i]?=some o→ops.getD i default=o:=fun i o h=>by rw [Array.getD_eq_getD_getElem?,h];rfl
 have lt_of:∀ i o,ops[i]?=some o→i<ops.size:=fun i o h=>(Array.getElem?_eq_some_iff.1 h).1
 have some_of:∀ i,i<ops.size→∃ o,ops[i]?=some o:=fun i h=>⟨_,Array.getElem?_eq_getElem h⟩
 have hanc:=uK ops ops.toList [] (fun i=>by simp) (fun i t h=>by simp at h)
 have hdir:∀ i o,ops[i]?=some o→∀ j∈kC o,j<i:=fun i o h j hj=>h1 i (lt_of i o h) j (by rw [getD_of i o h];exact hj)
 have hplain:∀ i o,ops[i]?=some o→s≤i→i<e→fP o.op=true:=fun i o h a b=>by
  rcases h2 i b with c | c
  ·omega
  ·rw [getD_of i o h] at c;exact c
 have htail:∀ i,i<ops.size→e≤i→∀ j,s≤j→j<e→Anc ops j i:=fun i hi a j b c=>by
  rcases h4 i hi with q | q
  ·omega
  ·rcases q j c with q | q
   ·omega
   ·exact hanc i j q
 have hpair:∀ i j oi oj d,ops[i]?=some oi→ops[j]?=some oj→s≤i→i<e→s≤j→j<e→i≠j→oj.dst=some d→oi.dst≠some d∧(d∈oi.looksAt ops→if j<i then Anc ops j i else Anc ops i j):=by
  intro i j oi oj d hi hj si ei sj ej hne hdj
  rcases h3 i ei j ej with((q | q) | q) | q
  ·omega
  ·omega
  ·exact absurd (by simpa using q) hne
  ·unfold s5 at q
   rw [getD_of j oj hj,getD_of i oi hi,hdj] at q
   simp only [Bool.and_eq_true,bne_iff_ne,ne_eq,Bool.or_eq_true,Bool.not_eq_true'] at q
   refine⟨q.1,fun hmem=>?_⟩
   rcases q.2 with h' | h'
   ·rw [List.contains_iff_mem.2 hmem] at h';cases h'
   ·split at h'<;>rename_i hlt
    ·rw [if_pos hlt];exact hanc i j h'
    ·rw [if_neg hlt];exact hanc j i h'
 obtain⟨f,f0,fs,fK⟩:=mB _ _ h
 have hlen:l.length=e-s:=by rw [hl];simp;omega
 obtain⟨g,hg⟩:∃ g:Nat→St,g=fun i=>f (i-s):=⟨_,rfl⟩
 have gs0:g s=L:=by rw [hg];simp only [Nat.sub_self];exact f0
 have ge0:g e=f l.length:=by rw [hg,hlen]
 have gst:∀ i o,ops[i]?=some o→s≤i→i<e→Step P true ops o (g i) (g (i+1)):=fun i o h a b=>by
  have:=fs (i-s) o (by
   rw [hl,List.getElem?_take,if_pos (by omega),List.getElem?_drop,show s+(i-s)=i by omega]
   simpa using h)
  rw [hg]
  simp only
  rw [show i+1-s=i-s+1 by omega]
  exact this
 rw [←ge0] at fK
 have hstep:∀ i o,ops[i]?=some o→s≤i→i<e→(g i).heap.le (g (i+1)).heap∧∀ t,o.dst≠some t→(g (i+1)).slot t=(g i).slot t:=fun i o h a b=>tB (vN (hplain i o h a b)) (gst i o h a b)
 have hle:∀ i j,s≤i→i≤j→j≤e→(g i).heap.le (g j).heap:=by
  intro i j si hij
  induction j with
  | zero =>
   intro _
   obtain rfl:i=0:=by omega
   exact dA.le_refl _
  | succ j ih =>
   intro hjm
   by_cases c:i=j+1
   ·subst c;exact dA.le_refl _
   ·obtain⟨o,ho⟩:=some_of j (by omega)
    exact dA.le_trans (ih (by omega) (by omega)) (hstep j o ho (by omega) (by omega)).1
 have hconst:∀ i j t,s≤i→i≤j→j≤e→(∀ k o,i≤k→k<j→ops[k]?=some o→o.dst≠some t)→(g j).slot t=(g i).slot t:=by
  intro i j t si hij
  induction j with
  | zero =>
   intro _ _
   obtain rfl:i=0:=by omega
   rfl
  | succ j ih =>
   intro hjm hk
   by_cases c:i=j+1
   ·subst c;rfl
   ·obtain⟨o,ho⟩:=some_of j (by omega)
    rw [(hstep j o ho (by omega) (by omega)).2 t (hk j o (by omega) (by omega) ho)]
    exact ih (by omega) (by omega) (fun k o a b=>hk k o a (by omega))
 have hslot:∀ i o t,ops[i]?=some o→s≤i→i<e→o.dst=some t→(g e).slot t=(g (i+1)).slot t:=fun i o t ho si ei hdt =>
  hconst (i+1) e t (by omega) (by omega) (Nat.le_refl _) (fun k ok a b hk q=>(hpair i k o ok t ho hk si ei (by omega) b (by omega) q).1 hdt)
 let closed:Array Bool→Prop:=fun D=>∀ i o,ops[i]?=some o→D.getD i false=true→∀ j∈kC o,D.getD j false=true
 have hclosed:∀ D,closed D→∀ j i,Anc ops j i→(∀ o,ops[i]?=some o→∀ k∈kC o,D.getD k false=true)→D.getD j false=true:=by
  intro D hD j i hA
  induction hA with
  | @one i o ho h=>intro hr;exact hr o ho _ h
  | @step k i o hA ho hk ih=>intro hr;exact ih (fun o' ho' k' hk'=>hD k o' ho' (hr o ho k hk) k' hk')
 have main:∀ (n:Nat) (D:Array Bool) (L:St),D.size=ops.size→(∀ i,i<s→D.getD i false=true)→(∀ i,e≤i→D.getD i false=false)→closed D→(∀ t,L.slot t=nO ops g s e D t) →
   (L.heap=(g e).heap∨(L.heap=(g s).heap∧∀ i,s≤i→i<e→D.getD i false=true→(g (i+1)).heap=(g i).heap))→(List.range e).countP (fun i=>!D.getD i false)≤n→jJ P ops (fuel+n) D L K:=by
  intro n
  induction n with
  | zero =>
   intro D L hsz hlo hhi hcl hsl hhp hct
   have hall:∀ i,i<e→D.getD i false=true:=fun i hi=>by
    have:(List.range e).countP (fun i=>!D.getD i false)=0:=by omega
    have:=List.countP_eq_zero.1 this i (List.mem_range.2 hi)
    simpa using this
   have eD:D=mX ops.size e:=aER hsz fun i hi=>by
    rcases Nat.lt_or_ge i e with c | c
    ·rw [hall i c,decide_eq_true c]
    ·rw [hhi i c,decide_eq_false (by omega)]
   have eL:L=g e:=by
    have q1:L.slot=(g e).slot:=by
     funext t
     rw [hsl t]
     unfold nO
     split
     ·rfl
     ·rename_i hno
      exact(hconst s e t (Nat.le_refl _) hse (Nat.le_refl _) (fun k o a b hk q=>hno ⟨k,o,a,b,hall k b,hk,q⟩)).symm
    have q2:L.heap=(g e).heap:=by
     rcases hhp with q | ⟨q,hq⟩
     ·exact q
     ·rw [q]
      have:∀ m,s≤m→m≤e→(g m).heap=(g s).heap:=by
       intro m
       induction m with
       | zero =>
        intro a _
        obtain rfl:s=0:=by omega
        rfl
       | succ m ih =>
        intro a b
        by_cases c:s=m+1
        ·rw [c]
        ·rw [hq m (by omega) (by omega) (hall m (by omega))];exact ih (by omega) (by omega)
      exact(this e hse (Nat.le_refl _)).symm
    cases L;cases hge:g e
    rw [hge] at q1 q2
    simp only at q1 q2
    rw [q1,q2]
   rw [eD,eL];exact fK
  | succ n ih =>
   intro D L hsz hlo hhi hcl hsl hhp hct
   by_cases hall:∀ i,i<e→D.getD i false=true
   ·have h0:(List.range e).countP (fun i=>!D.getD i false)=0:=List.countP_eq_zero.2 fun i hi=>by rw [hall i (List.mem_range.1 hi)];decide
    exact yF _ _ _ (ih D L hsz hlo hhi hcl hsl hhp (by omega))
   ·have hin:∀ i,i∈Region.ready .any ops D→s≤i∧i<e:=fun i hi=>by
     obtain⟨o,p1',p2',p3'⟩:=(d8 hsz).1 hi
     have hlt:=lt_of i o p1'
     have hni:D.getD i false=false:=by rw [jH (by omega) false true];exact p2'
     refine⟨?_,?_⟩
     ·rcases Nat.lt_or_ge i s with c | c
      ·rw [hlo i c] at hni;cases hni
      ·exact c
     ·rcases Nat.lt_or_ge i e with c | c
      ·exact c
      ·exfalso
       refine hall fun j hj=>?_
       rcases Nat.lt_or_ge j s with d | d
       ·exact hlo j d
       ·exact hclosed D hcl j i (htail i hlt c j d hj) (fun o' ho' k hk=>by rw [p1'] at ho';cases ho';exact p3' k hk)
    refine⟨fun hr=>?_,fun i hi=>?_⟩
    ·exfalso
     refine hall fun i=>?_
     induction i using Nat.strongRecOn with
     | _ i ihh =>
      intro hie
      cases hc:D.getD i false with
      | true=>rfl
      | false =>
       obtain⟨o,ho⟩:=some_of i (by omega)
       have:i∈Region.ready .any ops D:=(d8 hsz).2 ⟨o,ho,by rw [jH (by omega) true false];exact hc,fun j hj=>by
        have:=hdir i o ho j hj
        exact ihh j this (by omega)⟩
       rw [hr] at this;cases this
    ·obtain⟨si,ei⟩:=hin i hi
     obtain⟨o,ho,hni',hrd⟩:=(d8 hsz).1 hi
     have hni:D.getD i false=false:=by rw [jH (by omega) false true];exact hni'
     have hset:∀ k,(D.setIfInBounds i true).getD k false=true↔k=i∨D.getD k false=true:=fun k=>by
      by_cases c:i=k
      ·subst c
       rw [Array.getD_eq_getD_getElem?,Array.getElem?_setIfInBounds_self_of_lt (by omega)];simp
      ·rw [Array.getD_eq_getD_getElem?,Array.getElem?_setIfInBounds_ne c,←Array.getD_eq_getD_getElem?]
       constructor
       ·exact fun h=>.inr h
       ·rintro(h | h)
        ·exact absurd h.symm c
        ·exact h
     have hcl':closed (D.setIfInBounds i true):=fun k ok hk hDk j hj=>by
      rcases(hset k).1 hDk with rfl | h
      ·rw [ho] at hk;cases hk
       exact(hset j).2 (.inr (hrd j hj))
      ·exact(hset j).2 (.inr (hcl k ok hk h j hj))
     have hrd':∀ o',ops[i]?=some o'→∀ k∈kC o',D.getD k false=true:=fun o' ho' k hk=>(by rw [ho] at ho';cases ho';exact hrd k hk)
     have hread:∀ t,t∈o.looksAt ops→(g i).slot t=L.slot t:=by
      intro t ht
      rw [hsl t]
      by_cases hex:∃ j oj,s≤j∧j<e∧ops[j]?=some oj∧oj.dst=some t
      ·obtain⟨j,oj,sj,ej,hj,hdj⟩:=hex
       have huniq:∀ k ok,s≤k→k<e→ops[k]?=some ok→ok.dst=some t→k=j:=fun k ok sk ek hk hdk =>
        Classical.byContradiction fun hne=>(hpair k j ok oj t hk hj sk ek sj ej hne hdj).1 hdk
       have nodone:(∀ hh:D.getD j false=true,False)→nO ops g s e D t=(g s).slot t:=fun hh=>by
        unfold nO
        rw [if_neg]
        rintro⟨k,ok,sk,ek,hDk,hk,hdk⟩
        have:=huniq k ok sk ek hk hdk
        subst this
        exact hh hDk
       by_cases hji:j=i
       ·subst hji
        rw [hconst s j t (Nat.le_refl _) si (by omega) (fun k ok a b hk q=>by have:=huniq k ok a (by omega) hk q;omega),nodone (fun hh=>by rw [hni] at hh;cases hh)]
       ·have hp:=(hpair i j o oj t ho hj si ei sj ej (Ne.symm hji) hdj).2 ht
        by_cases hlt:j<i
        ·rw [if_pos hlt] at hp
         have hDj:=hclosed D hcl j i hp hrd'
         have e2:nO ops g s e D t=(g e).slot t:=by
          unfold nO
          rw [if_pos ⟨j,oj,sj,ej,hDj,hj,hdj⟩]
         rw [e2,hslot j oj t hj sj ej hdj]
         exact hconst (j+1) i t (by omega) (by omega) (by omega) (fun k ok a b hk q=>by have:=huniq k ok (by omega) (by omega) hk q;omega)
        ·rw [if_neg hlt] at hp
         rw [hconst s i t (Nat.le_refl _) si (by omega) (fun k ok a b hk q=>by have:=huniq k ok a (by omega) hk q;omega),nodone (fun hh=>by
          have:=hclosed D hcl i j hp (fun o' ho' k' hk'=>hcl j o' ho' hh k' hk')
          rw [hni] at this;cases this)]
      ·rw [hconst s i t (Nat.le_refl _) si (by omega) (fun k ok a b hk q=>hex ⟨k,ok,a,by omega,hk,q⟩)]
       unfold nO
       rw [if_neg]
       rintro⟨k,ok,sk,ek,hDk,hk,hdk⟩
       exact hex ⟨k,ok,sk,ek,hk,hdk⟩
     have hafter:∀ t,nO ops g s e (D.setIfInBounds i true) t=if o.dst=some t then(g (i+1)).slot t else L.slot t:=by
      intro t
      rw [hsl t]
      by_cases hdt:o.dst=some t
      ·rw [if_pos hdt]
       unfold nO
       rw [if_pos ⟨i,o,si,ei,(hset i).2 (.inl rfl),ho,hdt⟩]
       exact hslot i o t ho si ei hdt
      ·rw [if_neg hdt]
       unfold nO
       congr 1
       apply propext
       constructor
       ·rintro⟨k,ok,sk,ek,hDk,hk,hdk⟩
        rcases(hset k).1 hDk with rfl | h
        ·rw [ho] at hk;cases hk;exact absurd hdk hdt
        ·exact⟨k,ok,sk,ek,h,hk,hdk⟩
       ·rintro⟨k,ok,sk,ek,hDk,hk,hdk⟩
        exact⟨k,ok,sk,ek,(hset k).2 (.inr hDk),hk,hdk⟩
     have hguard:∀ res,bY ops (g i) o res→bY ops L o res:=fun res hgd=>by
      unfold bY at hgd ⊢
      cases hh:o.guard with
      | none=>rw [hh] at hgd;exact hgd
      | some pr =>
       obtain⟨j,want⟩:=pr
       rw [hh] at hgd
       obtain⟨d,q1',q'⟩:=hgd
       have e1:(g i).slot d=L.slot d:=hread d (by unfold Oper.looksAt;rw [hh];simp [q1'])
       refine⟨d,q1',?_⟩
       show (∃ b,L.slot d=_∧_)∨(L.slot d=_∧_)
       rw [←e1]
       exact q'
     have hput:∀ (r:LV) (H1:dA),(∀ t,o.dst=some t→(g (i+1)).slot t=r)→∀ t,(⟨(L.put o.dst r).slot,H1⟩:St).slot t=nO ops g s e (D.setIfInBounds i true) t:=fun r H1 hr t=>by
      rw [hafter t]
      show (L.put o.dst r).slot t=_
      cases hd:o.dst with
      | none=>rw [if_neg (by simp)];rfl
      | some d =>
       rw [cQ]
       by_cases c:t=d
       ·subst c
        rw [if_pos rfl,if_pos rfl,hr t hd]
       ·rw [if_neg c,if_neg (fun q=>c (by cases q;rfl))]
     have hcnt:(List.range e).countP (fun k=>!(D.setIfInBounds i true).getD k false)≤n:=by
      have:(List.range e).countP (fun k=>!(D.setIfInBounds i true).getD k false)<(List.range e).countP (fun k=>!D.getD k false):=by
       apply tJ
       ·intro k _ hk
        cases hc:D.getD k false with
        | false=>rfl
        | true=>rw [(hset k).2 (.inr hc)] at hk;cases hk
       ·exact⟨i,List.mem_range.2 ei,by rw [hni];rfl,by rw [(hset i).2 (.inl rfl)];rfl⟩
      omega
     have hfin:∀ L',Step P false ops o L L'→(∀ t,L'.slot t=nO ops g s e (D.setIfInBounds i true) t)→(L'.heap=(g e).heap∨(L'.heap=(g s).heap∧∀ k,s≤k→k<e→(D.setIfInBounds i true).getD k false=true→(g (k+1)).heap=(g k).heap)) →
       ∃ o L',ops[i]?=some o∧Step P false ops o L L'∧jJ P ops (fuel+n) (D.setIfInBounds i true) L' K:=fun L' hst hs' hh' =>
      ⟨o,L',ho,hst,ih _ L' (by simpa using hsz) (fun k hk=>(hset k).2 (.inr (hlo k hk))) (fun k hk=>by
       cases hc:(D.setIfInBounds i true).getD k false with
       | false=>rfl
       | true =>
        rcases(hset k).1 hc with rfl | q
        ·omega
        ·rw [hhi k hk] at q;cases q) hcl' hs' hh' hcnt⟩
     have hpl:=hplain i o ho si ei
     cases gst i o ho si ei with
     | skip hg' h' =>
      refine hfin (L.put o.dst (.tup [])) (.skip (hguard false hg') rfl) (fun t=>?_) ?_
      ·have:=hput (.tup []) L.heap (fun t ht=>by rw [h',ht,cQ,if_pos rfl]) t
       exact this
      ·rw [eE]
       rcases hhp with q | ⟨q,hq⟩
       ·exact .inl q
       ·refine .inr ⟨q,fun k sk ek hk=>?_⟩
        rcases(hset k).1 hk with rfl | hk
        ·rw [h',eE]
        ·exact hq k sk ek hk
     | @val r fr H1 hg' hH hfr hov h' =>
      obtain⟨dst,op,ty,pos,after,gd⟩:=o
      have hH1:H1=(g (i+1)).heap:=by rw [h']
      have hle1:H1.le (g e).heap:=by rw [hH1];exact hle (i+1) e (by omega) (by omega) (Nat.le_refl _)
      cases hov with
      | alloc ha=>cases ha<;>cases hpl
      | call hc=>cases hc<;>cases hpl
      | pure hpp =>
       have hev:∀ x∈op.operands,L.ev x=(g i).ev x:=by
        intro x hx
        cases x with
        | tmp t =>
         have ht:t∈Oper.looksAt ops ⟨dst,op,ty,pos,after,gd⟩:=by
          unfold Oper.looksAt
          simp only [List.mem_append,List.mem_filterMap]
          exact .inl ⟨.tmp t,by simpa using hx,rfl⟩
         exact(hread t ht).symm
        | const v=>rfl
        | func f=>rfl
        | global f=>rfl
       have hpp':=OpP.cong (OpP.le hle1 hpp) hpl hev
       have hLe:L.heap.le (g e).heap:=by
        rcases hhp with q | ⟨q,_⟩
        ·rw [q];exact dA.le_refl _
        ·rw [q];exact hle s e (Nat.le_refl _) hse (Nat.le_refl _)
       refine hfin ⟨(L.put dst r).slot,(g e).heap⟩ (.val (fr:=[]) (hguard true hg') hLe (fun _ _ hh=>by cases hh) (.pure hpp') rfl) (hput r _ (fun t ht=>?_)) (.inl rfl)
       rw [h']
       show ((g i).put dst r).slot t=r
       have ht:dst=some t:=ht
       rw [ht,cQ,if_pos rfl]
     | st hg' hot =>
      obtain⟨dst,op,ty,pos,after,gd⟩:=o
      have:=vN hpl
      rw [hot.tail] at this;cases this
     | stM hdr _ _=>cases hdr
 have hsz:D.size=ops.size:=by rw [hD];exact tZ _ _
 have hDg:∀ i,D.getD i false=true↔i<s:=fun i=>by
  rcases Nat.lt_or_ge i ops.size with c | c
  ·rw [hD,xI c,decide_eq_true_eq]
  ·constructor
   ·intro q
    rw [Array.getD_eq_getD_getElem?,Array.getElem?_eq_none (by omega)] at q
    cases q
   ·intro q;omega
 refine main (e-s) D L hsz (fun i hi=>(hDg i).2 hi) (fun i hi=>?_) (fun i o ho hi j hj=>(hDg j).2 (by have:=hdir i o ho j hj;have:=(hDg i).1 hi;omega)) (fun t=>?_) (.inr ⟨by rw [gs0],fun i si _ hi=>by have:=(hDg i).1 hi;omega⟩) ?_
 ·cases hc:D.getD i false with
  | false=>rfl
  | true=>have:=(hDg i).1 hc;omega
 ·unfold nO
  rw [if_neg,gs0]
  rintro⟨k,o,sk,_,hk,_⟩
  have:=(hDg k).1 hk
  omega
 ·have:∀ m,(List.range m).countP (fun i=>!D.getD i false)≤m-s:=by
   intro m
   induction m with
   | zero=>simp
   | succ m ih =>
    rw [List.range_succ,List.countP_append]
    have hone:List.countP (fun i=>!D.getD i false) [m]=if D.getD m false=true then 0 else 1:=by
     rw [List.countP_cons,List.countP_nil,Nat.zero_add]
     cases hc:D.getD m false<;>rfl
    rw [hone]
    split
    ·omega
    ·rename_i hc
     have:¬m<s:=fun q=>hc ((hDg m).2 q)
     omega
  exact this e
theorem xN {m:Nat} {K:St→Prop} {L:St} {D:Array Bool} {l0:List Oper} (s e fuel:Nat) (hm:m=fuel+(e-s)) (hD:D=mX l0.toArray.size s) (hok:aHw l0.toArray s e=true)
  (h:opsL P true l0.toArray ((l0.drop s).take (e-s)) L (fun L'=>jJ P l0.toArray fuel (mX l0.toArray.size e) L' K)):jJ P l0.toArray m D L K:=by
 subst hm
 exact aJf s e _ hD rfl hok h
end
def xB:Op→Bool
 | .move _=>true
 | .binOp ..=>true
 | .fieldAddr ..=>true
 | .indexAddr ..=>true
 | .call ⟨.builtin .len,_,_⟩=>true
 | _=>false
def nX:Op→Bool
 | .store ..=>true
 | .call ⟨.value (.func _),_,_⟩=>true
 | op=>fP op
theorem aCo {op:Op} (h:xB op=true):fP op=true:=by
 unfold xB at h
 split at h<;>first | rfl | cases h
theorem OpP.slim {P:Program} {H H':dA} {ρ:Operand→LV} {op:Op} {r:LV} (h:OpP P H ρ op r) (hp:xB op=true):OpP P H' ρ op r:=by
 cases h with
 | move x=>exact .move x
 | bin hx hy h=>exact .bin hx hy h
 | sh hx hy h=>exact .sh hx hy h
 | beq hx hy hT=>exact .beq hx hy hT
 | bne hx hy hT=>exact .bne hx hy hT
 | addS hx hy h=>exact .addS hx hy h
 | eqS hx hy=>exact .eqS hx hy
 | eqN hx hy hT=>exact .eqN hx hy hT
 | eqNL hx hy hT=>exact .eqNL hx hy hT
 | eqA4 hx hy hT hE hs hd=>exact .eqA4 hx hy hT hE hs hd
 | fieldAddrB hq hT hr'=>exact .fieldAddrB hq hT hr'
 | fieldAddrE hq hT hk=>exact .fieldAddrE hq hT hk
 | idxAE hx hT hE hi h0 hm=>exact .idxAE hx hT hE hi h0 hm
 | idxAB hx hT hE hf hi h0 hr'=>exact .idxAB hx hT hE hf hi h0 hr'
 | idxL hx hT hE hi h0 hr' hc=>exact .idxL hx hT hE hi h0 hr' hc
 | idxR hx hT hE hi h0 hn=>exact .idxR hx hT hE hi h0 hn
 | lenL hx has hT=>exact .lenL hx has hT
 | lenR hx has hT=>exact .lenR hx has hT
 | lenN hx has hT=>exact .lenN hx has hT
 | _=>first | (cases hp;done) | (simp [xB] at hp;done)
theorem aHm (L:St) {d e:Nat} (h:d≠e) (v r:LV):(L.put (some d) v).put (some e) r=(L.put (some e) r).put (some d) v:=by
 have:∀ t,((L.put (some d) v).put (some e) r).slot t=((L.put (some e) r).put (some d) v).slot t:=fun t=>by
  rw [cQ,cQ,cQ,cQ]
  by_cases h1:t=e
  ·rw [if_pos h1,if_neg (by omega),if_pos h1]
  ·rw [if_neg h1,if_neg h1]
 exact congrArg (fun f=>St.mk f L.heap) (funext this)
theorem iE (L:St) {d:Nat} {e:Option Nat} (h:e≠some d) (v r:LV):(L.put (some d) v).put e r=(L.put e r).put (some d) v:=by
 cases e with
 | none=>rfl
 | some e=>exact aHm L (fun q=>h (by rw [q])) v r
section
variable {P:Program} {ops:Array Oper}
theorem aGt {L:St} {d:Nat} {v:LV} {o:Oper} (h:d∉o.looksAt ops):∀ x∈o.op.operands,(L.put (some d) v).ev x=L.ev x:=fun x hx=>by
 cases x with
 | tmp t =>
  have ht:t∈o.looksAt ops:=by
   unfold Oper.looksAt
   simp only [List.mem_append,List.mem_filterMap]
   exact .inl ⟨.tmp t,by simpa using hx,rfl⟩
  show (L.put (some d) v).slot t=L.slot t
  rw [cQ,if_neg (fun q=>h (by rw [←q];exact ht))]
 | const v=>rfl
 | func f=>rfl
 | global f=>rfl
theorem iA {L:St} {d:Nat} {v:LV} {o:Oper} {res:Bool} (h:d∉o.looksAt ops) (hg:bY ops (L.put (some d) v) o res):bY ops L o res:=by
 unfold bY at hg ⊢
 cases hh:o.guard with
 | none=>rw [hh] at hg;exact hg
 | some pr =>
  obtain⟨j,want⟩:=pr
  rw [hh] at hg
  obtain⟨t,q1',q'⟩:=hg
  have hne:t≠d:=fun q=>h (by rw [←q];unfold Oper.looksAt;rw [hh];simp [q1'])
  have e1:(L.put (some d) v).slot t=L.slot t:=by rw [cQ,if_neg hne]
  refine⟨t,q1',?_⟩
  show (∃ b,L.slot t=_∧_)∨(L.slot t=_∧_)
  rw [←e1]
  exact q'
theorem nI {f:Operand} {xs:Array Operand} {ats:Array TypeId} {x:Operand} (h:x∈xs.toList):x∈(Op.call ⟨.value f,xs,ats⟩).operands:=by
 have:=Array.mem_toList_iff.1 h
 simp [Op.operands,Call.operands,this]
theorem aEy {L L2:St} {d:Nat} {v:LV} {o:Oper} (hk:nX o.op=true) (hl:d∉o.looksAt ops) (hd:o.dst≠some d) (h:Step P false ops o (L.put (some d) v) L2) :
  ∃ L1,Step P false ops o L L1∧L2=L1.put (some d) v∧∀ t,o.dst≠some t→L1.slot t=L.slot t:=by
 have hev:=aGt (L:=L) (v:=v) hl
 have hsl:∀ (M:St) (r:LV) t,M.slot t=L.slot t→o.dst≠some t→(M.put o.dst r).slot t=L.slot t:=fun M r t hM hne=>by
  cases hh:o.dst with
  | none=>exact hM
  | some e=>rw [cQ,if_neg (fun q=>hne (by rw [hh,q]))];exact hM
 cases h with
 | skip hg hL=>exact⟨L.put o.dst (.tup []),.skip (iA hl hg) rfl,by rw [hL,iE L hd],fun t ht=>hsl L _ t rfl ht⟩
 | @val r fr H1 hg hle hfr hov hL =>
  obtain⟨dst,op,ty,pos,after,gd⟩:=o
  have hev':∀ x∈op.operands,L.ev x=(L.put (some d) v).ev x:=fun x hx=>(hev x hx).symm
  have hov2:OpV P H1 L.ev (dst.getD 0) op r fr:=by
   cases hov with
   | pure hp =>
    by_cases hpl:fP op=true
    ·exact .pure (hp.cong hpl hev')
    ·cases hp with
     | ext2 hf hname hb hn he hx hr h1 h2 =>
      refine .pure (.ext2 hf hname hb hn he ?_ hr h1 h2)
      rw [←hx]
      exact List.map_congr_left fun x hxm=>hev' x (nI hxm)
     | _=>first | (exfalso;exact hpl rfl) | (exfalso;revert hk hpl;simp [nX,fP])
   | alloc ha=>cases ha<;>(exfalso;revert hk;simp [nX,fP])
   | call hc =>
    cases hc with
    | func ha hkk hlen hpu =>
     refine .call (.func ?_ hkk hlen hpu)
     rw [show (_:Array Operand).toList.map L.ev=_ from List.map_congr_left fun x hxm=>hev' x (nI hxm)]
     exact ha
    | clo=>exfalso;revert hk;simp [nX,fP]
    | mk=>exfalso;revert hk;simp [nX,fP]
  refine⟨⟨(L.put dst r).slot,H1⟩,.val (iA hl hg) hle hfr hov2 rfl,?_,fun t ht=>hsl L r t rfl ht⟩
  rw [hL]
  have:=iE L hd v r
  exact congrArg (fun M=>St.mk (St.slot M) H1) this
 | st hg hot =>
  obtain⟨dst,op,ty,pos,after,gd⟩:=o
  cases hot with
  | store hp hb hs hm hi hy hput hT hne =>
   rename_i T p x b sz i o' blk y y'
   have e1:=hev p (by simp [Op.operands])
   have e2:=hev x (by simp [Op.operands])
   rw [e1] at hp
   rw [e2] at hput hT hne
   refine⟨_,.st (iA hl hg) (.store hp hb hs hm hi hy hput hT hne),?_,fun t ht=>?_⟩
   ·exact iE (L.setB b _) hd v .any
   ·exact hsl (L.setB b _) .any t rfl ht
  | _=>exfalso;revert hk;simp [nX,fP]
 | stM hdr hg hom =>
  obtain⟨dst,op,ty,pos,after,gd⟩:=o
  cases hom with
  | call hb hm hp ha hn hkk hm' hp' =>
   rename_i f xs ats args r b blk blk'
   have em:xs.toList.map (L.put (some d) v).ev=xs.toList.map L.ev:=List.map_congr_left fun x hxm=>hev x (nI hxm)
   rw [em] at ha hn
   refine⟨_,.stM hdr (iA hl hg) (.call hb hm hp ha hn hkk hm' hp'),?_,fun t ht=>?_⟩
   ·exact iE (L.setB b _) hd v _
   ·exact hsl (L.setB b _) _ t rfl ht
  | appz=>exfalso;revert hk;simp [nX,fP]
def aD1 (ops:Array Oper) (i:Nat) (D:Array Bool):Bool :=
 D.size==ops.size && !D.getD i true && (kC (ops.getD i default)).all (fun j=>D.getD j false) && (ops.getD i default).guard.isNone && xB (ops.getD i default).op &&
 (List.range ops.size).all fun j=>j==i || D.getD j true || (nX (ops.getD j default).op && ((ops.getD j default).dst != (ops.getD i default).dst) &&
  (match (ops.getD i default).dst with | some d=>!((ops.getD j default).looksAt ops).contains d || (kC (ops.getD j default)).contains i | none=>false) &&
  (match (ops.getD j default).dst with | some e=>!((ops.getD i default).looksAt ops).contains e | none=>true))
theorem dT {m:Nat} {K:St→Prop} {L:St} {D:Array Bool} {d:Nat} {v:LV} (i:Nat) {o:Oper} (ho:ops[i]?=some o) (hdst:o.dst=some d) (hok:aD1 ops i D=true) (hv:OpP P L.heap L.ev o.op v)
  (h:jJ P ops m (D.setIfInBounds i true) (L.put (some d) v) K):jJ P ops (m+1) D L K:=by
 have getD_of:∀ i o,ops[i]?=some o→ops.getD i default=o:=fun i o h=>by rw [Array.getD_eq_getD_getElem?,h];rfl
 have hin:i<ops.size:=(Array.getElem?_eq_some_iff.1 ho).1
 let C:Array Bool→Prop:=fun D=>D.size=ops.size∧D.getD i false=false∧(∀ j∈kC o,D.getD j false=true)∧∀ j oj,ops[j]?=some oj→j≠i→D.getD j false=false →
  nX oj.op=true∧oj.dst≠some d∧(d∈oj.looksAt ops→i∈kC oj)∧∀ e,oj.dst=some e→e∉o.looksAt ops
 unfold aD1 at hok
 rw [getD_of i o ho,hdst] at hok
 simp only [Bool.and_eq_true,List.all_eq_true,List.mem_range,Bool.or_eq_true,beq_iff_eq,Bool.not_eq_true',Option.isNone_iff_eq_none,bne_iff_ne,ne_eq] at hok
 obtain⟨⟨⟨⟨⟨hsz,hni⟩,hrd⟩,hgd⟩,hslim⟩,hall⟩:=hok
 have hC:C D:=by
  refine⟨hsz,by rw [jH (by omega) false true];exact hni,hrd,fun j oj hj hne hDj=>?_⟩
  have hjl:j<ops.size:=(Array.getElem?_eq_some_iff.1 hj).1
  have:=hall j hjl
  rw [getD_of j oj hj] at this
  rcases this with(q | q) | q
  ·exact absurd q hne
  ·rw [jH (by omega) true false,hDj] at q;cases q
  ·obtain⟨⟨⟨q1,q2⟩,q3⟩,q4⟩:=q
   refine⟨q1,q2,fun hm=>?_,fun e he hm=>?_⟩
   ·rcases q3 with q | q
    ·rw [List.contains_iff_mem.2 hm] at q;cases q
    ·exact List.contains_iff_mem.1 q
   ·rw [he] at q4
    simp only [Bool.not_eq_true'] at q4
    rw [List.contains_iff_mem.2 hm] at q4;cases q4
 have hstepi:∀ L:St,OpP P L.heap L.ev o.op v→Step P false ops o L (L.put (some d) v):=fun L hv=>by
  refine .val (fr:=[]) (H1:=L.heap) (r:=v) (by unfold bY;rw [hgd]) (dA.le_refl _) (fun _ _ hh=>by cases hh) (.pure hv) ?_
  rw [hdst];rfl
 clear hsz hni hrd hall
 have main:∀ (n:Nat) (D:Array Bool) (L:St),C D→OpP P L.heap L.ev o.op v→jJ P ops n (D.setIfInBounds i true) (L.put (some d) v) K→jJ P ops (n+1) D L K:=by
  intro n
  induction n with
  | zero =>
   intro D L ⟨c1,c2,c3,c4⟩ hv hh
   have hri:i∈Region.ready .any ops D:=(d8 c1).2 ⟨o,ho,by rw [jH (by omega) true false];exact c2,c3⟩
   refine⟨fun hr=>(by rw [hr] at hri;cases hri),fun j hj=>?_⟩
   by_cases hji:j=i
   ·subst hji
    exact⟨o,_,ho,hstepi L hv,hh⟩
   ·exfalso
    obtain⟨oj,h1,h2,h3⟩:=(d8 c1).1 hj
    have:j∈Region.ready .any ops (D.setIfInBounds i true):=(d8 (by simpa using c1)).2 ⟨oj,h1,by
     rw [Array.getD_eq_getD_getElem?,Array.getElem?_setIfInBounds_ne (Ne.symm hji),←Array.getD_eq_getD_getElem?];exact h2,fun k hk=>by
     by_cases hki:i=k
     ·subst hki
      rw [Array.getD_eq_getD_getElem?,Array.getElem?_setIfInBounds_self_of_lt (by omega)];rfl
     ·rw [Array.getD_eq_getD_getElem?,Array.getElem?_setIfInBounds_ne hki,←Array.getD_eq_getD_getElem?];exact h3 k hk⟩
    rw [hh.1] at this;cases this
  | succ n ih =>
   intro D L ⟨c1,c2,c3,c4⟩ hv hh
   have hri:i∈Region.ready .any ops D:=(d8 c1).2 ⟨o,ho,by rw [jH (by omega) true false];exact c2,c3⟩
   refine⟨fun hr=>(by rw [hr] at hri;cases hri),fun j hj=>?_⟩
   by_cases hji:j=i
   ·subst hji
    exact⟨o,_,ho,hstepi L hv,hh⟩
   ·obtain⟨oj,h1,h2,h3⟩:=(d8 c1).1 hj
    have hjl:j<ops.size:=(Array.getElem?_eq_some_iff.1 h1).1
    have hDj:D.getD j false=false:=by rw [jH (by omega) false true];exact h2
    have hji2:j∈Region.ready .any ops (D.setIfInBounds i true):=(d8 (by simpa using c1)).2 ⟨oj,h1,by
     rw [Array.getD_eq_getD_getElem?,Array.getElem?_setIfInBounds_ne (Ne.symm hji),←Array.getD_eq_getD_getElem?];exact h2,fun k hk=>by
     by_cases hki:i=k
     ·subst hki
      rw [Array.getD_eq_getD_getElem?,Array.getElem?_setIfInBounds_self_of_lt (by omega)];rfl
     ·rw [Array.getD_eq_getD_getElem?,Array.getElem?_setIfInBounds_ne hki,←Array.getD_eq_getD_getElem?];exact h3 k hk⟩
    obtain⟨oj',L2,g1,g2,g3⟩:=hh.2 j hji2
    rw [h1] at g1;cases g1
    obtain⟨k1,k2,k3,k4⟩:=c4 j oj h1 hji hDj
    have hnl:d∉oj.looksAt ops:=fun hm=>by
     have:=h3 i (k3 hm)
     rw [c2] at this;cases this
    obtain⟨L1,s1,s2,s3⟩:=aEy k1 hnl k2 g2
    refine⟨oj,L1,h1,s1,ih (D.setIfInBounds j true) L1 ⟨by simpa using c1,?_,fun k hk=>?_,fun k ok hk hne hDk=>?_⟩ ?_ ?_⟩
    ·rw [Array.getD_eq_getD_getElem?,Array.getElem?_setIfInBounds_ne hji,←Array.getD_eq_getD_getElem?];exact c2
    ·by_cases hjk:j=k
     ·subst hjk
      rw [Array.getD_eq_getD_getElem?,Array.getElem?_setIfInBounds_self_of_lt (by omega)];rfl
     ·rw [Array.getD_eq_getD_getElem?,Array.getElem?_setIfInBounds_ne hjk,←Array.getD_eq_getD_getElem?];exact c3 k hk
    ·by_cases hjk:j=k
     ·subst hjk
      rw [Array.getD_eq_getD_getElem?,Array.getElem?_setIfInBounds_self_of_lt (by omega)] at hDk
      cases hDk
     ·rw [Array.getD_eq_getD_getElem?,Array.getElem?_setIfInBounds_ne hjk,←Array.getD_eq_getD_getElem?] at hDk
      exact c4 k ok hk hne hDk
    ·refine(hv.cong (aCo hslim) fun x hx=>?_).slim hslim
     cases x with
     | tmp t =>
      have ht:t∈o.looksAt ops:=by
       unfold Oper.looksAt
       simp only [List.mem_append,List.mem_filterMap]
       exact .inl ⟨.tmp t,by simpa using hx,rfl⟩
      exact s3 t (fun q=>k4 t q ht)
     | const v=>rfl
     | func f=>rfl
     | global f=>rfl
    ·rw [←s2]
     have:(D.setIfInBounds j true).setIfInBounds i true=(D.setIfInBounds i true).setIfInBounds j true:=by
      refine Array.ext_getElem? fun k=>?_
      by_cases q1:i=k
      ·subst q1
       rw [Array.getElem?_setIfInBounds_self_of_lt (by simp;omega),Array.getElem?_setIfInBounds_ne hji,Array.getElem?_setIfInBounds_self_of_lt (by omega)]
      ·by_cases q2:j=k
       ·subst q2
        rw [Array.getElem?_setIfInBounds_ne q1,Array.getElem?_setIfInBounds_self_of_lt (by omega),Array.getElem?_setIfInBounds_self_of_lt (by simp;omega)]
       ·rw [Array.getElem?_setIfInBounds_ne q1,Array.getElem?_setIfInBounds_ne q2,Array.getElem?_setIfInBounds_ne q2,Array.getElem?_setIfInBounds_ne q1]
     rw [this];exact g3
 exact main m D L hC hv h
end
end Go.Lg
end
