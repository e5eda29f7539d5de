/- Texts R5, B1, M1, R6, B2, C1, C2, D1, E1, E3, E4, K1, K4, H1, V1, P1, H2, TW, K3, E2, G1, S1, K5, K8, K9, K13, K2, K10, K7, K11, K14, K16, P3, P4, K18, P5, K20, K21, K22, K23, K24, K25, LgS of this proof, joined. -/
import Derived.Test.YtfpdccbgngdhkaaGreatQL4
set_option linter.unusedVariables false
set_option linter.unusedSimpArgs false
section
set_option linter.unusedVariables false
set_option linter.unusedSimpArgs false
set_option maxHeartbeats 8000000
set_option maxRecDepth 100000
attribute [local irreducible] Go.Lg.opsL Go.Lg.wpL Go.Lg.thenL Go.Lg.blockL
namespace Go.Proofs.YtfpdccbgngdhkaaGreat
open Go.Lg
section
variable {q a b:Rat}
theorem Bi:(-q<0)↔0<q:=by grind
theorem qG {n:Nat}:0<(aE n).length↔0<n:=by
 constructor
 ·intro h;exact Nat.pos_of_ne_zero (fun e=>by rw [e,eT] at h;cases h)
 ·intro h;exact List.length_pos_iff.2 (fun e=>by have:=cH.1 e;omega)
theorem uA:0<q↔0<q.num:=by rw [Rat.lt_iff];simp
theorem FQ (h:(!decide (q<0))=true):decide (((aE q.num.natAbs).length:Int) > 0)=decide (-q<0):=by
 rw [decide_eq_decide,Bi,uA]
 have h1:¬ q<0:=by simpa using h
 rw [mr] at h1
 have:=qG (n:=q.num.natAbs)
 omega
theorem EZ (h:(!decide (q<0))=false):false=decide (-q<0):=by
 have h1:q<0:=by simpa using h
 symm;rw [decide_eq_false_iff_not];grind
theorem wc (s:Bool) (h:s=decide (-q<0)):ratL (-q)=.agg [.v (.bool s),ba q.num.natAbs,ba (eP q)]:=by
 rw [fh,h,fi,fi,Rat.neg_num,Int.natAbs_neg,Rat.neg_den]
theorem kG:a=b↔decide (a<0)=decide (b<0)∧a.num.natAbs=b.num.natAbs∧eP a=eP b:=by
 constructor
 ·rintro rfl;exact⟨rfl,rfl,rfl⟩
 ·rintro⟨h1,h2,h3⟩
  have hd:a.den=b.den:=nh (by rw [h3])
  rw [←cO a,←cO b,h1,h2,hd]
theorem FP {m n:Nat}:(fC m n==0)=decide (m=n):=by
 rw [Bool.eq_iff_iff,beq_iff_eq,decide_eq_true_iff];unfold fC;split
 ·omega
 ·split<;>omega
theorem Cg (h:(decide (a<0)==decide (b<0))=false):false=decide (a=b):=by
 symm;rw [decide_eq_false_iff_not,kG];intro h2;rw [h2.1] at h;simp at h
theorem Ft (h2:(fC a.num.natAbs b.num.natAbs==0)=false):false=decide (a=b):=by
 rw [FP] at h2
 symm;rw [decide_eq_false_iff_not,kG];intro h3;rw [decide_eq_false_iff_not] at h2;exact h2 h3.2.1
theorem Fy (h:(decide (a<0)==decide (b<0))=true) (h2:(fC a.num.natAbs b.num.natAbs==0)=true):(fC (eP a) (eP b)==0)=decide (a=b):=by
 rw [FP] at h2 ⊢
 rw [decide_eq_decide,kG]
 exact⟨fun h3=>⟨eq_of_beq h,of_decide_eq_true h2,h3⟩,fun h3=>h3.2.2⟩
end
end Go.Proofs.YtfpdccbgngdhkaaGreat
namespace Go.Lg
open Go.Proofs.YtfpdccbgngdhkaaGreat in
theorem OpT.stNegR {P:Program} {L:St} {dst:Option Nat} {T:TypeId} {p x:Operand} {b:Nat} {q:Rat} {s:Bool} (hp:L.ev p=.eptr b 3 0 0) (hb:L.heap b=some ⟨3,[ratL q],true⟩) (hx:L.ev x=.v (.bool s)) (hT:bj P T 1 false)
  (hs:s=decide (-q<0)):OpT P L dst (.store T p x) ((L.setB b (some ⟨3,[ratL (-q)],true⟩)).put dst .any):=by
 have h0:LV.put (ratL q) 0 (L.ev x)=some (ratL (-q)):=by
  rw [hx,wc s hs,fh q]
  have e1:∀ n,(ba n).csize=1:=fun _=>rfl
  simp [LV.put,ll,ay,LV.csize,LV.isAgg]
 exact OpT.store (P:=P) (dst:=dst) (T:=T) (p:=p) (x:=x) (y:=ratL q) (y':=ratL (-q)) hp hb rfl rfl rfl (ah.csize _) h0 (by rw [hx];exact hT) (by rw [hx];exact⟨(fun h=>by cases h),(fun _ h=>by cases h)⟩)
end Go.Lg
namespace Go.Proofs.YtfpdccbgngdhkaaGreat
open Go.Lg
theorem zZ {n:Int} (h1:-9223372036854775808≤n) (h2:n<0):IntKind.i64.wrap (0-(n+1))=(((-(n+1)).toNat:Nat):Int):=by
 rw [IntWalk.i64_in _ (by omega)];omega
open H0 in
theorem fq (q:Rat):ap Tryz.prog 121 [ratL q] (ba q.den):=by
 refine bS Tryz.func121 ?_
 refine en ?_
 refine an rfl (fun h6r h6=>?_) (fun h6r h6=>?_)
 ·have hd1:=jG (show (aE (eP q)).length=0 by omega)
  refine cx ?_
  rw [hd1,show ba 1=.list 1 ([1].map bh) from rfl]
  exact fM [7] rfl rfl (bg bB rfl rfl rfl)
 ·have hd1:=jC (q:=q) (by omega)
  refine bv ?_
  rw [←hd1]
  exact aS rfl (by first | exact .pure rfl | exact .pure (aG _) | exact .pure (ar _) | exact .pure (ah.pure _) | exact .pure (ak bB _ _) | exact .pure (ak ah _ _))
namespace KT
theorem bQ {p q:Prop} (k:q) (e:p=q:=by simp only [e1,e2,e3,e4,p1,p2,p3,q1,q2,q3,l1,t0,t1,r1,r2,r3,r4,Nat.zero_add,Nat.reduceMul,Nat.reduceAdd,b1,b2,b3,b4,b5,b6,i1,i2,i3,i4,i5,i6,Nat.reduceBEq,cS,az,zD];exact rfl):p:=e.mpr k
end KT
open KT in
theorem gv (s:Bool) (m n:Nat) (hla:(aE m).length≤68719476736) (hlb:(aE n).length≤68719476736) (hn0:0<n):ap Tryz.prog 122 [bL s,ba m,ba n] (ratL (qv s m n)):=by
 refine bS Tryz.func122 ?_
 refine cx ?_
 refine cp bK (fg _ (aB _) (by omega)) ?_
 refine aL ?_
 refine cp bK (fg _ (aB _) (by omega)) ?_
 refine bE ?_
 refine an rfl (fun h14r h14=>?_) (fun h14r h14=>?_)
 ·have hm:m=0:=cH.1 (List.eq_nil_of_length_eq_zero (by omega))
  refine cx ?_
  rw [hm,kI,cL]
  exact b9 [] rfl rfl rfl rfl rfl bF (.pure rfl)
 ·have hm0:0<m:=qG.1 (by omega)
  have hg:0<Nat.gcd m n:=Nat.gcd_pos_of_pos_left _ hm0
  have hE:=mF s hm0 hn0
  have hgl:(aE (Nat.gcd m n)).length≤68719476736:=Nat.le_trans (bN (Nat.le_of_dvd hm0 (Nat.gcd_dvd_left _ _))) hla
  have hqa:(aE (m/Nat.gcd m n)).length≤68719476736:=Nat.le_trans (bN (Nat.div_le_self _ _)) hla
  have hqb:(aE (n/Nat.gcd m n)).length≤68719476736:=Nat.le_trans (bN (Nat.div_le_self _ _)) hlb
  have hg1l:=gr (n:=Nat.gcd m n)
  refine bJ ?_
  refine cp bf (xW _ _ (by omega) (by omega)) ?_
  refine ca ?_
  refine cr (fun L=>∃ (t:Bool) (L1:St),(t=decide (Nat.gcd m n≠1))∧L=(((((((St.mk L1.slot (hp [(6,⟨3,[.agg [.v (.bool false),.list 1 [],.list 1 []]],true⟩)])).put (some 0) (bL s)).put (some 1) (ba m)).put (some 2) (ba n)).put (some 6) (.eptr 6 3 0 0)).put (some 7) (ba (Nat.gcd m n))).put (some 27) (bL t))) ?_ ?_
  ·refine ca ?_
   refine bT 22 rfl (fun h22r h22=>?_) (fun h22r h22=>?_)
   ·refine bV ?_
    exact⟨true,_,by symm;rw [decide_eq_true_iff];intro e;rw [e,mo] at h22;exact h22 rfl,((aa (aa (aa (aa (aa (aa (aJ cl) cl) cl) cl) cl) cl) cl)).symm⟩
   ·refine bV ?_
    exact⟨(((aE (Nat.gcd m n)).getD 0 0:Int) != 1),_,by have:=(hg1l (by omega)).1;rw [Bool.eq_iff_iff,bne_iff_ne,decide_eq_true_iff];omega,((aa (aa (aa (aa (aa (aa (aJ cl) cl) cl) cl) cl) cl) cl)).symm⟩
  ·rintro _ ⟨t,LR5,ht,rfl⟩
   refine aL ?_
   refine cr (fun L=>∃ (x:Nat) (y:Nat) (L1:St),(x=m/Nat.gcd m n∧y=n/Nat.gcd m n)∧L=(((((St.mk L1.slot (hp [(6,⟨3,[.agg [.v (.bool false),.list 1 [],.list 1 []]],true⟩)])).put (some 0) (bL s)).put (some 1) (ba x)).put (some 2) (ba y)).put (some 6) (.eptr 6 3 0 0))) ?_ ?_
   ·refine an rfl (fun h27r h27=>?_) (fun h27r h27=>?_)
    ·refine bw ?_
     refine cp bf (tn _ _ (by omega) (by omega) hg) ?_
     refine bv ?_
     refine cp bf (tn _ _ (by omega) (by omega) hg) ?_
     refine bV ?_
     exact⟨m/Nat.gcd m n,n/Nat.gcd m n,_,⟨rfl,rfl⟩,((aa (aa (aa (aa (aJ cl) cl) cl) cl) cl)).symm⟩
    ·have hg1:Nat.gcd m n=1:=by rw [ht,decide_eq_false_iff_not] at h27r;omega
     refine bG ?_
     exact⟨m,n,_,⟨by rw [hg1,Nat.div_one],by rw [hg1,Nat.div_one]⟩,((aa (aa (aa (aa (aJ cl) cl) cl) cl) cl)).symm⟩
   ·rintro _ ⟨x,y,LC27,⟨hx,hy⟩,rfl⟩
    rw [←hx,←hy] at hE
    have hy0:0<y:=by rw [hy];exact Nat.div_pos (Nat.le_of_dvd hn0 (Nat.gcd_dvd_right _ _)) hg
    refine cx ?_
    refine bT 45 rfl (fun h45r h45=>?_) (fun h45r h45=>?_)
    ·refine bV ?_
     refine an rfl (fun h50r h50=>?_) (fun h50r h50=>?_)
     ·have hy1:y=1:=by have:=(gr (n:=y) (by omega)).1;omega
      refine dI ?_
      rw [hE,if_pos hy1]
      exact b9 [] rfl rfl rfl rfl rfl bF (.agg (.cons (.pure rfl) (.cons (.pure (ar _)) (.cons (.nil 1) .nil))))
     ·have hy1:y≠1:=by have:=(gr (n:=y) (by omega)).1;omega
      refine bE ?_
      rw [hE,if_neg hy1]
      exact b9 [] rfl rfl rfl rfl rfl bF (.agg (.cons (.pure rfl) (.cons (.pure (ar _)) (.cons (.pure (ar _)) .nil))))
    ·have hy1:y≠1:=fun e=>by rw [e,mo] at h45;exact h45 rfl
     refine ib ?_
     rw [hE,if_neg hy1]
     exact b9 [] rfl rfl rfl rfl rfl bF (.agg (.cons (.pure rfl) (.cons (.pure (ar _)) (.cons (.pure (ar _)) .nil))))
open H0 in
theorem p8 (n:Int) (h1:-9223372036854775808≤n) (h2:n≤9223372036854775807):ap Tryz.prog 127 [iL n] (.tup [ba n.natAbs,bL (decide (n<0))]):=by
 refine bS Tryz.func127 ?_
 refine ct ?_
 refine an rfl (fun h5r h5=>?_) (fun h5r h5=>?_)
 ·refine bw ?_
  refine ab rfl (.neg rfl) ?_
  refine ab rfl (.cv64 (n:=(-(n+1)).toNat) Tryz.underlying2 Tryz.underlying161 (by simp only [e1,p1,p2,Nat.reduceBEq];rw [zZ h1 h5]) (by omega)) ?_
  refine ab rfl (.bin rfl rfl (FB (show (-(n+1)).toNat+1<18446744073709551616 by omega))) ?_
  refine cp bK (nN ((-(n+1)).toNat+1) (by omega)) ?_
  refine bJ ?_
  rw [decide_eq_true h5,show n.natAbs=(-(n+1)).toNat+1 by omega]
  exact lr rfl (.pure (ar _)) rfl (.pure rfl)
 ·refine ca ?_
  refine ab rfl (.cv64 (n:=n.natAbs) Tryz.underlying2 Tryz.underlying161 (by simp only [e1,p1,p2,Nat.reduceBEq];rw [show ((n.natAbs:Nat):Int)=n by omega];rfl) (by omega)) ?_
  refine cp bK (nN n.natAbs (by omega)) ?_
  refine ca ?_
  rw [decide_eq_false h5]
  exact lr rfl (.pure (ar _)) rfl (.pure rfl)
open H0 in
theorem A9 (n d:Int) (h1:-9223372036854775808≤n) (h2:n≤9223372036854775807) (h3:-9223372036854775808≤d) (h4:d≤9223372036854775807) (hd:d≠0):ap Tryz.prog 128 [iL n,iL d] (.tup [ratL ((n:Rat)/(d:Rat)),iL 0]):=by
 refine bS Tryz.func128 ?_
 refine ct ?_
 refine an rfl (fun h11r h11=>?_) (fun h11r h11=>?_)
 ·exact absurd h11 hd
 ·refine ca ?_
  refine cp bK (p8 _ (by omega) (by omega)) ?_
  refine bv ?_
  refine cp bK (p8 _ (by omega) (by omega)) ?_
  refine dI ?_
  refine cp jt (gv (decide (n<0) != decide (d<0)) n.natAbs d.natAbs (Nat.le_trans (dQ.2 (by omega)) (by omega)) (Nat.le_trans (dQ.2 (by omega)) (by omega)) (by omega)) ?_
  refine ca ?_
  rw [←qE]
  exact fG [] rfl rfl rfl (ah.csize _) (am _) bF (.pure (ah.pure _)) rfl (.pure rfl)
open H0 in
theorem fJ (n d:Int) (h1:-9223372036854775808≤n) (h2:n≤9223372036854775807) (h3:-9223372036854775808≤d) (h4:d≤9223372036854775807) (hd:d≠0):ap Tryz.prog 61 [iL n,iL d] (ratL ((n:Rat)/(d:Rat))):=by
 refine bS Tryz.func61 ?_
 refine cg ?_
 refine cp bf (A9 _ _ (by omega) (by omega) (by omega) (by omega) (by omega)) ?_
 refine en ?_
 exact b9 [] rfl rfl rfl (ah.csize _) (am _) bF (.pure (ah.pure _))
open H0 in
theorem eO (n:Int) (h1:-9223372036854775808≤n) (h2:n≤9223372036854775807):ap Tryz.prog 60 [iL n] (ratL (n:Rat)):=by
 refine bS Tryz.func60 ?_
 refine cx ?_
 refine cp bK (p8 _ (by omega) (by omega)) ?_
 refine ie ?_
 rw [←n5 n]
 have hz:n.natAbs=0∨0<n.natAbs:=by omega
 rcases hz with hz | hz
 ·obtain rfl:n=0:=by omega
  rw [show qv (decide ((0:Int)<0)) (0:Int).natAbs 1=0 from kI _ _,cL]
  exact b9 [] rfl rfl rfl rfl rfl bF (.pure rfl)
 ·rw [mF _ hz (by omega),Nat.gcd_one_right,Nat.div_one,if_pos (by omega)]
  exact b9 [] rfl rfl rfl rfl rfl bF (.agg (.cons (.pure rfl) (.cons (.pure (ar _)) (.cons (.pure rfl) .nil))))
open H0 in
theorem fc (a b:Rat) (h:rl a+rl b≤1099511627776):ap Tryz.prog 31 [ratL a,ratL b] (bL (decide (a=b))):=by
 have a1:=db a
 have a3:=cF a
 have c1:=db b
 have c3:=cF b
 refine bS Tryz.func31 ?_
 refine en ?_
 refine bT 10 rfl (fun h10r h10=>?_) (fun h10r h10=>?_)
 ·refine bw ?_
  refine cp bf (kq _ _ (by omega) (by omega)) ?_
  refine bx ?_
  refine bT 18 rfl (fun h18r h18=>?_) (fun h18r h18=>?_)
  ·refine bw ?_
   refine cp bf (kq _ _ (by omega) (by omega)) ?_
   refine bJ ?_
   rw [←Fy h10r h18r]
   exact aS rfl (by first | exact .pure rfl | exact .pure (aG _) | exact .pure (ar _) | exact .pure (ah.pure _) | exact .pure (ak bB _ _) | exact .pure (ak ah _ _))
  ·refine bD ?_
   rw [←Ft h18r]
   exact aS rfl (by first | exact .pure rfl | exact .pure (aG _) | exact .pure (ar _) | exact .pure (ah.pure _) | exact .pure (ak bB _ _) | exact .pure (ak ah _ _))
 ·refine ia ?_
  rw [←Cg h10r]
  exact aS rfl (by first | exact .pure rfl | exact .pure (aG _) | exact .pure (ar _) | exact .pure (ah.pure _) | exact .pure (ak bB _ _) | exact .pure (ak ah _ _))
open H0 in
theorem pQ (q:Rat):ap Tryz.prog 46 [ratL q] (iL (gM q)):=by
 have hq:=uJ q
 refine bS Tryz.func46 ?_
 refine en ?_
 refine an rfl (fun h6r h6=>?_) (fun h6r h6=>?_)
 ·have hz:q.num.natAbs=0:=cH.1 (List.eq_nil_of_length_eq_zero (by omega))
  refine bV ?_
  rw [hq,if_pos hz]
  exact aS rfl (by first | exact .pure rfl | exact .pure (aG _) | exact .pure (ar _) | exact .pure (ah.pure _) | exact .pure (ak bB _ _) | exact .pure (ak ah _ _))
 ·have hz:q.num.natAbs≠0:=fun e=>by rw [e,eT] at h6;exact h6 rfl
  refine cg ?_
  refine an rfl (fun h8r h8=>?_) (fun h8r h8=>?_)
  ·refine bV ?_
   rw [hq,if_neg hz,if_pos h8]
   exact aS rfl (by first | exact .pure rfl | exact .pure (aG _) | exact .pure (ar _) | exact .pure (ah.pure _) | exact .pure (ak bB _ _) | exact .pure (ak ah _ _))
  ·refine cx ?_
   rw [hq,if_neg hz,if_neg h8]
   exact aS rfl (by first | exact .pure rfl | exact .pure (aG _) | exact .pure (ar _) | exact .pure (ah.pure _) | exact .pure (ak bB _ _) | exact .pure (ak ah _ _))
open H0 in
theorem D8 (q:Rat):ap Tryz.prog 119 [ratL q] (ratL (-q)):=by
 refine bS Tryz.func119 ?_
 refine bE ?_
 refine bT 6 rfl (fun h6r h6=>?_) (fun h6r h6=>?_)
 ·refine bJ ?_
  refine aK rfl (.stNegR rfl rfl rfl T4 (by first | exact FQ h6r | exact EZ h6r)) ?_
  refine cg ?_
  exact b9 [] rfl rfl rfl (ah.csize _) (am _) bF (.pure (ah.pure _))
 ·refine bJ ?_
  refine aK rfl (.stNegR rfl rfl rfl T4 (by first | exact FQ h6r | exact EZ h6r)) ?_
  refine cg ?_
  exact b9 [] rfl rfl rfl (ah.csize _) (am _) bF (.pure (ah.pure _))
open H0 in
theorem dA (a b:Rat) (h:rl a+rl b≤34359738368):ap Tryz.prog 51 [ratL a,ratL b] (ratL (a*b)):=by
 have a1:=db a
 have a2:=dx a
 have a3:=cF a
 have c1:=db b
 have c2:=dx b
 have c3:=cF b
 have a0:=a.den_pos
 have c0:=b.den_pos
 have m1:=bl a1 c2
 have m2:=bl c1 a2
 have m3:=bl a2 c2
 have m4:=bl a1 c1
 have m5:=bl a2 c1
 have m6:=bl c2 a2
 have np:=Nat.mul_pos a0 c0
 have hE:=pM (decide (a<0)) (decide (b<0)) a.num.natAbs a.den b.num.natAbs b.den
 rw [cO,cO] at hE
 refine bS Tryz.func51 ?_
 refine cx ?_
 refine au 16 (by decide +kernel) ?_
 refine cg ?_
 refine cp bf (g9 _ _ (by omega) (by omega)) ?_
 refine aL ?_
 refine cp bK (fq _) ?_
 refine aL ?_
 refine cp bK (fq _) ?_
 refine cp bf (g9 _ _ (by omega) (by omega)) ?_
 refine cp jt (gv _ _ _ (by omega) (by omega) np) ?_
 refine bw ?_
 rw [hE]
 exact b9 [] rfl rfl rfl (ah.csize _) (am _) bF (.pure (ah.pure _))
open H0 in
theorem Bm (a b:Rat) (h:rl a+rl b≤34359738368):ap Tryz.prog 154 [ratL a,ratL b] (.tup [ratL (a/b),iL (if b=0 then 3 else 0)]):=by
 have a1:=db a
 have a2:=dx a
 have a3:=cF a
 have c1:=db b
 have c2:=dx b
 have c3:=cF b
 have a0:=a.den_pos
 have c0:=b.den_pos
 have m1:=bl a1 c2
 have m2:=bl c1 a2
 have m3:=bl a2 c2
 have m4:=bl a1 c1
 have m5:=bl a2 c1
 have m6:=bl c2 a2
 have np:=Nat.mul_pos a0 c0
 have hE:=qw (decide (a<0)) (decide (b<0)) a.num.natAbs a.den b.num.natAbs b.den
 rw [cO,cO] at hE
 refine bS Tryz.func154 ?_
 refine iP ?_
 refine an rfl (fun h9r h9=>?_) (fun h9r h9=>?_)
 ·have hz:=oO (q:=b) (by omega)
  refine cg ?_
  subst hz
  rw [show a/0=0 by rw [Rat.div_def];simp,cL]
  exact fG [] rfl rfl rfl rfl rfl bF (.pure rfl) rfl (.pure rfl)
 ·have hb0:0<b.num.natAbs:=qG.1 (by omega)
  have hz:b≠0:=by rintro rfl;exact absurd hb0 (by decide)
  refine bx ?_
  refine au 16 (by decide +kernel) ?_
  refine cx ?_
  refine cp bK (fq _) ?_
  refine cp bf (g9 _ _ (by omega) (by omega)) ?_
  refine aL ?_
  refine cp bK (fq _) ?_
  refine bG ?_
  refine cp bf (g9 _ _ (by omega) (by omega)) ?_
  refine cp jt (gv _ _ _ (by omega) (by omega) (Nat.mul_pos a0 hb0)) ?_
  refine ca ?_
  rw [hE,if_neg hz]
  exact fG [] rfl rfl rfl (ah.csize _) (am _) bF (.pure (ah.pure _)) rfl (.pure rfl)
open H0 in
theorem A0 (a b:Rat) (h:rl a+rl b≤34359738368):ap Tryz.prog 87 [ratL a,ratL b] (ratL (a/b)):=by
 refine bS Tryz.func87 ?_
 refine bD ?_
 refine cp bf (Bm _ _ (by omega)) ?_
 refine en ?_
 exact b9 [] rfl rfl rfl (ah.csize _) (am _) bF (.pure (ah.pure _))
namespace Kz
theorem bQ {p q:Prop} (k:q) (e:p=q:=by simp only [e1,e2,e3,e4,p1,p2,p3,q1,q2,q3,l1,t0,t1,r1,r2,r3,r4,Nat.zero_add,Nat.reduceMul,Nat.reduceAdd,b1,b2,b3,b4,b5,b6,i1,i2,i3,i4,i5,i6,Nat.reduceBEq,az,eSb];exact rfl):p:=e.mpr k
end Kz
open Kz in
theorem eX (a b:Rat) (h:rl a+rl b≤34359738368):ap Tryz.prog 59 [ratL a,ratL b] (ratL (a+b)):=by
 have a1:=db a
 have a2:=dx a
 have a3:=cF a
 have c1:=db b
 have c2:=dx b
 have c3:=cF b
 have a0:=a.den_pos
 have c0:=b.den_pos
 have m1:=bl a1 c2
 have m2:=bl c1 a2
 have m3:=bl a2 c2
 have m4:=bl a1 c1
 have m5:=bl a2 c1
 have m6:=bl c2 a2
 have np:=Nat.mul_pos a0 c0
 have m7:(aE (a.num.natAbs*b.den+b.num.natAbs*a.den)).length≤rl a+rl b+1:=qX m1 (by omega)
 have ls1:(aE (a.num.natAbs*b.den-b.num.natAbs*a.den)).length≤rl a+rl b:=Nat.le_trans (bN (Nat.sub_le _ _)) m1
 have ls2:(aE (b.num.natAbs*a.den-a.num.natAbs*b.den)).length≤rl b+rl a:=Nat.le_trans (bN (Nat.sub_le _ _)) m2
 refine bS Tryz.func59 ?_
 have eSb:True:=trivial
 refine ie ?_
 refine an rfl (fun h15r h15=>?_) (fun h15r h15=>?_)
 ·have hz:=oO (q:=a) (by omega)
  refine cx ?_
  rw [hz,Rat.zero_add]
  exact b9 [] rfl rfl rfl (ah.csize _) (am _) bF (.pure (ah.pure _))
 ·refine bD ?_
  refine an rfl (fun h20r h20=>?_) (fun h20r h20=>?_)
  ·have hz:=oO (q:=b) (by omega)
   refine cx ?_
   rw [hz,Rat.add_zero]
   exact b9 [] rfl rfl rfl (ah.csize _) (am _) bF (.pure (ah.pure _))
  ·refine bx ?_
   refine au 12 (by decide +kernel) ?_
   refine bx ?_
   refine cp bK (fq _) ?_
   refine cp bf (g9 _ _ (by omega) (by omega)) ?_
   refine bx ?_
   refine cp bK (fq _) ?_
   refine cp bf (g9 _ _ (by omega) (by omega)) ?_
   refine ca ?_
   refine au 6 (by decide +kernel) ?_
   refine aL ?_
   refine cp bK (fq _) ?_
   refine aL ?_
   refine cp bK (fq _) ?_
   refine cp bf (g9 _ _ (by omega) (by omega)) ?_
   refine ct ?_
   refine an rfl (fun h41r h41=>?_) (fun h41r h41=>?_)
   ·refine aL ?_
    refine au 7 (by decide +kernel) ?_
    refine bw ?_
    refine cp bf (Dg _ _ (by omega) (by omega)) ?_
    refine aL ?_
    refine cp jt (gv _ _ _ (by omega) (by omega) np) ?_
    refine ca ?_
    have E:=nZ (k:=1) (x:=a.num.natAbs*b.den) (y:=b.num.natAbs*a.den) (d:=a.den*b.den) (by omega) (Nat.mul_one _) (Nat.mul_one _) (Nat.mul_one _) (eq_of_beq h41r)
    rw [kH,←eq_of_beq h41r] at E
    rw [E]
    exact b9 [] rfl rfl rfl (ah.csize _) (am _) bF (.pure (ah.pure _))
   ·refine bV ?_
    refine cp bf (kq _ _ (by omega) (by omega)) ?_
    refine bx ?_
    refine an rfl (fun h52r h52=>?_) (fun h52r h52=>?_)
    ·have hlt:a.num.natAbs*b.den<b.num.natAbs*a.den:=by unfold fC at h52;split at h52;assumption;split at h52<;>omega
     have eSb:=kT (Nat.le_of_lt hlt)
     refine bw ?_
     refine cp bf (z7 _ _ (by omega) (by omega)) ?_
     refine ct ?_
     refine cp jt (gv _ _ _ (by omega) (by omega) np) ?_
     refine ca ?_
     have E:=tB (k:=1) (x:=a.num.natAbs*b.den) (y:=b.num.natAbs*a.den) (d:=a.den*b.den) (by omega) (Nat.mul_one _) (Nat.mul_one _) (Nat.mul_one _) (gw h41r) (Nat.le_of_lt hlt)
     rw [kH] at E
     rw [E]
     exact b9 [] rfl rfl rfl (ah.csize _) (am _) bF (.pure (ah.pure _))
    ·have hle:b.num.natAbs*a.den≤a.num.natAbs*b.den:=by
      rcases Nat.lt_or_ge (a.num.natAbs*b.den) (b.num.natAbs*a.den) with h | h
      ·rw [dY h] at h52;omega
      ·exact h
     have eSb:=kT hle
     refine bJ ?_
     refine cp bf (z7 _ _ (by omega) (by omega)) ?_
     refine ct ?_
     refine cp jt (gv _ _ _ (by omega) (by omega) np) ?_
     refine bw ?_
     have E:=ur (k:=1) (x:=a.num.natAbs*b.den) (y:=b.num.natAbs*a.den) (d:=a.den*b.den) (by omega) (Nat.mul_one _) (Nat.mul_one _) (Nat.mul_one _) (gw h41r) hle
     rw [kH] at E
     rw [E]
     exact b9 [] rfl rfl rfl (ah.csize _) (am _) bF (.pure (ah.pure _))
open H0 in
theorem iU (a b:Rat) (h:rl a+rl b≤34359738368):ap Tryz.prog 49 [ratL a,ratL b] (ratL (a-b)):=by
 refine bS Tryz.func49 ?_
 refine cx ?_
 refine au 4 (by decide +kernel) ?_
 refine bG ?_
 refine cp bK (D8 _) ?_
 refine cp bf (eX _ _ (by rw [yu];omega)) ?_
 refine bw ?_
 rw [Rat.sub_eq_add_neg]
 exact b9 [] rfl rfl rfl (ah.csize _) (am _) bF (.pure (ah.pure _))
open H0 in
theorem qx (a b:Rat) (h:rl a+rl b≤34359738368):ap Tryz.prog 50 [ratL a,ratL b] (iL (gJ a b)):=by
 have a1:=db a
 have a2:=dx a
 have a3:=cF a
 have c1:=db b
 have c2:=dx b
 have c3:=cF b
 have a0:=a.den_pos
 have c0:=b.den_pos
 have m1:=bl a1 c2
 have m2:=bl c1 a2
 have m3:=bl a2 c2
 have m4:=bl a1 c1
 have m5:=bl a2 c1
 have m6:=bl c2 a2
 have np:=Nat.mul_pos a0 c0
 refine bS Tryz.func50 ?_
 refine cg ?_
 refine au 6 (by decide +kernel) ?_
 refine aL ?_
 refine cp bK (pQ _) ?_
 refine aL ?_
 refine cp bK (pQ _) ?_
 refine bD ?_
 refine an rfl (fun h14r h14=>?_) (fun h14r h14=>?_)
 ·refine cx ?_
  refine an rfl (fun h17r h17=>?_) (fun h17r h17=>?_)
  ·refine cx ?_
   rw [uV h17]
   exact aS rfl (by first | exact .pure rfl | exact .pure (aG _) | exact .pure (ar _) | exact .pure (ah.pure _) | exact .pure (ak bB _ _) | exact .pure (ak ah _ _))
  ·refine cg ?_
   rw [vz (by omega)]
   exact aS rfl (by first | exact .pure rfl | exact .pure (aG _) | exact .pure (ar _) | exact .pure (ah.pure _) | exact .pure (ak bB _ _) | exact .pure (ak ah _ _))
 ·have hss:gM a=gM b:=by omega
  obtain⟨c,hc⟩:∃ c,c=fC (a.num.natAbs*b.den) (b.num.natAbs*a.den):=⟨_,rfl⟩
  refine bx ?_
  refine au 12 (by decide +kernel) ?_
  refine bx ?_
  refine cp bK (fq _) ?_
  refine cp bf (g9 _ _ (by omega) (by omega)) ?_
  refine bx ?_
  refine cp bK (fq _) ?_
  refine cp bf (g9 _ _ (by omega) (by omega)) ?_
  refine cp bf (kq _ _ (by omega) (by omega)) ?_
  refine bv ?_
  refine an rfl (fun h30r h30=>?_) (fun h30r h30=>?_)
  ·refine cg ?_
   rw [lf hss,if_pos h30,←pq rfl]
   exact aS rfl (by first | exact .pure rfl | exact .pure (aG _) | exact .pure (ar _) | exact .pure (ah.pure _) | exact .pure (ak bB _ _) | exact .pure (ak ah _ _))
  ·refine cg ?_
   rw [lf hss,if_neg h30]
   exact aS rfl (by first | exact .pure rfl | exact .pure (aG _) | exact .pure (ar _) | exact .pure (ah.pure _) | exact .pure (ak bB _ _) | exact .pure (ak ah _ _))
end Go.Proofs.YtfpdccbgngdhkaaGreat
namespace Go.Lg
open Go.Proofs.YtfpdccbgngdhkaaGreat in
theorem OpP.build0 {P:Program} {H:bI} {ρ:Operand→LV} {T:TypeId} (hT:ck P T [(1,false),(1,false),(1,false)]) (hz:aT P T (.agg [.v (.bool false),.list 1 [],.list 1 []])):OpP P H ρ (.build T #[]) (ratL 0):=by
 rw [cL]
 exact OpP.build (zs:=[.v (.bool false),.list 1 [],.list 1 []]) (ps:=#[]) hT hz (by intro p hp;cases hp)
end Go.Lg
namespace Go.Proofs.YtfpdccbgngdhkaaGreat
open Go.Lg
theorem dU:(default:Rat)=0:=rfl
def stp (t:Rat):List Rat→List Rat
 | x :: y :: r=>((1-t)*x+t*y) :: stp t (y :: r)
 | _=>[]
theorem eY (t:Rat):∀ p:List Rat,(stp t p).length=p.length-1
 | []=>rfl
 | [_]=>rfl
 | x :: y :: r=>by simp [stp,eY t (y :: r)]
theorem kF (t:Rat):∀ (p:List Rat) (i:Nat),i+1<p.length→(stp t p).getD i 0=(1-t)*p.getD i 0+t*p.getD (i+1) 0
 | [],i,h=>by simp at h
 | [_],i,h=>by simp at h
 | x :: y :: r,0,_=>by simp [stp]
 | x :: y :: r,i+1,h=>by
   have:=kF t (y :: r) i (by simpa using h)
   simpa [stp] using this
theorem bi {p:List Rat} {i:Nat} (h:i<p.length):p.getD i 0∈p:=by
 rw [List.getD_eq_getElem?_getD,List.getElem?_eq_getElem h];exact List.getElem_mem h
theorem se {p:List Rat} {x:Rat} (h:x∈p):∃ i,i<p.length∧p.getD i 0=x:=by
 obtain⟨i,hi,rfl⟩:=List.getElem_of_mem h
 exact⟨i,hi,by rw [List.getD_eq_getElem?_getD,List.getElem?_eq_getElem hi];rfl⟩
def wT (t:Rat):Nat→List Rat→List Rat
 | 0,_=>[]
 | k+1,p=>p.getD 0 0 :: wT t k (stp t p)
def EW (t:Rat):Nat→List Rat→List Rat→List Rat
 | 0,q,tl=>q++tl
 | k+1,q,tl=>EW t k (stp t q) (q.getD k 0 :: tl)
def CV (p:List Rat) (t:Rat):List Rat:=wT t p.length p
def Gb (p:List Rat) (t:Rat):List Rat:=EW t p.length p []
theorem qR (t:Rat):∀ (k:Nat) (p:List Rat),(wT t k p).length=k
 | 0,_=>rfl
 | k+1,p=>by simp [wT,qR t k]
theorem BA (p:List Rat) (t:Rat):(CV p t).length=p.length:=qR t _ _
theorem vB {α:Type} (A B:List α) (x v:α) {n:Nat} (h:n=A.length):(A++x :: B).set n v=A++v :: B:=by subst h;simp
theorem jS {α:Type} (A B:List α) (d:α) {i:Nat} (h:i<A.length):(A++B).getD i d=A.getD i d:=by simp [List.getD_eq_getElem?_getD,List.getElem?_append_left h]
theorem jU {α:Type} (A B:List α) (d:α) {i:Nat} (h:A.length≤i):(A++B).getD i d=B.getD (i-A.length) d:=by simp [List.getD_eq_getElem?_getD,List.getElem?_append_right h]
theorem iY (l:List Rat) (k p:Nat):(l.drop k).getD p 0=l.getD (k+p) 0:=by
 rw [List.getD_eq_getElem?_getD,List.getD_eq_getElem?_getD,List.getElem?_drop]
theorem Bq {t:Rat} {q tl:List Rat} {i:Nat} (h:i+1<q.length) :
  ((stp t q).take i++(q.drop i++tl)).getD i 0=q.getD i 0∧((stp t q).take i++(q.drop i++tl)).getD (i+1) 0=q.getD (i+1) 0:=by
 have hl:((stp t q).take i).length=i:=by rw [List.length_take,eY];omega
 constructor
 ·rw [jU _ _ _ (by omega),hl,Nat.sub_self,jS _ _ _ (by simp;omega),iY,Nat.add_zero]
 ·rw [jU _ _ _ (by omega),hl,jS _ _ _ (by simp;omega),iY];congr 1;omega
theorem AX {t:Rat} {q tl:List Rat} {i:Nat} (h:i+1<q.length) :
  ((stp t q).take i++(q.drop i++tl)).set i ((1-t)*q.getD i 0+t*q.getD (i+1) 0)=(stp t q).take (i+1)++(q.drop (i+1)++tl):=by
 have hl:((stp t q).take i).length=i:=by rw [List.length_take,eY];omega
 rw [List.drop_eq_getElem_cons (by omega),List.cons_append,vB _ _ _ _ hl.symm,←kF t q i h]
 have hs:i<(stp t q).length:=by rw [eY];omega
 rw [List.take_succ_eq_append_getElem hs,List.append_assoc]
 congr 1
 rw [List.getD_eq_getElem?_getD,List.getElem?_eq_getElem hs]
 simp
theorem An {t:Rat} {q tl:List Rat} {k:Nat} (h:q.length=k+1):(stp t q).take k++(q.drop k++tl)=stp t q++(q.getD k 0 :: tl):=by
 rw [List.take_of_length_le (by rw [eY];omega),List.drop_eq_getElem_cons (by omega),List.drop_of_length_le (by omega),List.getD_eq_getElem?_getD,List.getElem?_eq_getElem (by omega)]
 simp
theorem um {t:Rat} {q:List Rat} {C M k:Nat} (hC:rl (1-t)+rl t+1≤C) (h:∀ x∈q,(rl x+C)*2 ^ (k+1)≤M):∀ x∈stp t q,(rl x+C)*2 ^ k≤M:=by
 intro x hx
 obtain⟨i,hi,rfl⟩:=se hx
 rw [eY] at hi
 rw [kF t q i (by omega)]
 have h1:=h _ (bi (p:=q) (i:=i) (by omega))
 have h2:=h _ (bi (p:=q) (i:=i+1) (by omega))
 have e1:=dF ((1-t)*q.getD i 0) (t*q.getD (i+1) 0)
 have e2:=bA (1-t) (q.getD i 0)
 have e3:=bA t (q.getD (i+1) 0)
 rw [Nat.pow_succ] at h1 h2
 have hle:rl ((1-t)*q.getD i 0+t*q.getD (i+1) 0)+C≤(rl (q.getD i 0)+C)+(rl (q.getD (i+1) 0)+C):=by omega
 have:=Nat.mul_le_mul_right (2 ^ k) hle
 have e6:=Nat.add_mul (rl (q.getD i 0)+C) (rl (q.getD (i+1) 0)+C) (2 ^ k)
 have e4:(rl (q.getD i 0)+C)*(2 ^ k*2)=(rl (q.getD i 0)+C)*2 ^ k*2:=by rw [Nat.mul_assoc]
 have e5:(rl (q.getD (i+1) 0)+C)*(2 ^ k*2)=(rl (q.getD (i+1) 0)+C)*2 ^ k*2:=by rw [Nat.mul_assoc]
 omega
theorem u6 {o p:List Rat} {k:Nat} (hk:k<p.length) (hol:o.length=p.length) (ht:o.take k=p.take k):(o.set k (p.getD k 0)).take (k+1)=p.take (k+1):=by
 rw [List.take_succ_eq_append_getElem (by simpa [hol] using hk),List.take_succ_eq_append_getElem hk,List.take_set_of_le (Nat.le_refl _),ht]
 congr 1
 simp [List.getD_eq_getElem?_getD,List.getElem?_eq_getElem hk]
theorem JG:((1:Int):Rat)=1:=rfl
theorem nj {x:Rat} {C M k:Nat} (h:(rl x+C)*2 ^ k≤M):rl x+C≤M:=by
 have:1≤2 ^ k:=Nat.pow_pos (by omega)
 exact Nat.le_trans (Nat.le_mul_of_pos_right _ this) h
theorem yy {p:List Rat} {C:Nat} (hC:1≤C) (h:∀ x∈p,(rl x+C)*2 ^ p.length≤1073741824):p.length≤30:=by
 cases p with
 | nil=>simp
 | cons x r =>
  have h1:=h x (by simp)
  have h2:1*2 ^ (x :: r).length≤(rl x+C)*2 ^ (x :: r).length:=Nat.mul_le_mul_right _ (by omega)
  rcases Nat.lt_or_ge 30 (x :: r).length with h3 | h3
  ·have h4:2 ^ 31≤2 ^ (x :: r).length:=Nat.pow_le_pow_right (by omega) h3
   omega
  ·exact h3
theorem Aw {t:Rat} {q tl:List Rat} {i:Nat} (h:i<q.length):((stp t q).take i++(q.drop i++tl)).length=q.length+tl.length:=by
 simp [eY];omega
namespace Mg
theorem bQ {p q:Prop} (k:q) (e:p=q:=by simp only [e1,e2,e3,e4,p1,p2,p3,q1,q2,q3,l1,t0,t1,r1,r2,r3,r4,Nat.zero_add,Nat.reduceMul,Nat.reduceAdd,b1,b2,b3,b4,b5,b6,i1,i2,i3,i4,i5,i6,Nat.reduceBEq,dU,Rat.add_zero,ae ah,ax,LV.kill,aH];exact rfl):p:=e.mpr k
end Mg
open Mg in
theorem pF (p:List Rat) (hl:p.length≤1048576) (hpr:∀ x∈p,rl x≤274877906944):dB Tryz.prog 257 [.list 3 (p.map ratL)] (.ref 1 3 0 p.length) [⟨3,p.map ratL,true⟩]:=by
 refine El Tryz.func257 ?_
 refine cg ?_
 refine bM rfl rfl (.mkE (n:=p.length) (m:=p.length) ml ml om om om) ?_
 refine bE ?_
 refine ik (fun(k:Nat) (o:List Rat) L=>(((((St.mk L.slot (hp [(8,⟨3,o.map ratL,true⟩)])).put (some 3) (.ref 8 3 0 p.length)).put (some 9) (.list 3 (p.map ratL))).put (some 10) (ai p.length)).put (some 11) (ai k))) (fun k o=>k≤p.length∧o.length=p.length∧o.take k=p.take k) (fun k o=>p.length-k) 0 (List.replicate p.length 0) ⟨Nat.zero_le _,by simp,rfl⟩ ?_
 rintro k o L1 ⟨hk,hol,ht⟩
 refine bJ ?_
 refine an rfl (fun h12r h12=>?_) (fun h12r h12=>?_)
 ·have hk2:k<p.length:=by omega
  have hrk:=hpr _ (bi hk2)
  refine je ?_
  refine ab rfl (.build0 lU cz) ?_
  refine cp bf (gh (p.getD k 0) 0 (by rw [show rl 0=1 from rfl];omega)) ?_
  refine ca ?_
  refine aY (aP.kill _ 5) ?_
  refine bw ?_
  exact gk (k+1) (o.set k (p.getD k 0)) ⟨by omega,by simp [hol],u6 hk2 hol ht⟩
 ·obtain rfl:k=p.length:=by omega
  rw [List.take_length,←hol,List.take_length] at ht
  refine bE ?_
  subst ht
  exact k9 rfl rfl (al ah _)
namespace Mj
theorem bQ {p q:Prop} (k:q) (e:p=q:=by simp only [e1,e2,e3,e4,p1,p2,p3,q1,q2,q3,l1,t0,t1,r1,r2,r3,r4,Nat.zero_add,Nat.reduceMul,Nat.reduceAdd,b1,b2,b3,b4,b5,b6,i1,i2,i3,i4,i5,i6,Nat.reduceBEq,dq,dU,Rat.add_zero,List.append_nil,List.length_append,JG,ek,eq0,emg1,emg2,ems,eme,ei1,aQ,bo,aW,List.length_cons,List.length_nil,ae ah,ax,LV.kill,aH];exact rfl):p:=e.mpr k
end Mj
open Mj in
theorem xB (p:List Rat) (t:Rat) (cc:Nat) (hC:rl (1-t)+rl t+1≤cc) (hcc:cc≤1073741824) (hs:∀ x∈p,(rl x+cc)*2 ^ p.length≤1073741824):ap Tryz.prog 198 [.list 3 (p.map ratL),ratL t] (.tup [.list 3 ((CV p t).map ratL),.list 3 ((Gb p t).map ratL)]):=by
 have hlen:=yy (Nat.le_trans (Nat.le_add_left 1 _) hC) hs
 have hpr:∀ x∈p,rl x≤274877906944:=fun x hx=>by have:=nj (hs x hx);omega
 refine bS Tryz.func198 ?_
 have ek:True:=trivial
 have eq0:True:=trivial
 have emg1:True:=trivial
 have emg2:True:=trivial
 have ems:True:=trivial
 have eme:True:=trivial
 have ei1:True:=trivial
 refine cx ?_
 refine au 4 (by decide +kernel) ?_
 refine cp bK (kr 1 (by decide) (by decide)) ?_
 refine aL ?_
 refine cp bf (gg _ _ (by rw [show rl ((1:Int):Rat)=1 from rfl];omega)) ?_
 refine bV ?_
 refine gc [] rfl rfl (.cons (.pure (ak ah _ _)) .nil) (pF p (by omega) hpr) (al ah _) rfl ?_
 refine bV ?_
 refine bM rfl rfl (.makeM (n:=0) (m:=p.length) ah Tryz.underlying159 Hy bF f3 rfl rfl (by omega) (by omega) (by omega)) ?_
 refine ct ?_
 refine cN (aP.mv (t:=8) (b:=18) 33 (by decide) (by decide) (by decide) rfl rfl rfl) ?_
 refine EY (fun(k:Nat) (q tl lo:List Rat) L=>((((((St.mk L.slot (hp [(3,⟨3,[ratL t],true⟩),(6,⟨3,[ratL (1-t)],true⟩),(1000241,⟨3,(q++tl).map ratL,true⟩),(33,⟨3,lo.map ratL,true⟩)])).put (some 3) (.eptr 3 3 0 0)).put (some 6) (.eptr 6 3 0 0)).put (some 7) (.ref 1000241 3 0 p.length)).put (some 8) (.ref 33 3 0 lo.length)).put (some 9) (iL ((k:Int)-1)))) (fun k q tl lo=>q.length=k∧k+tl.length=p.length∧lo.length+k=p.length∧lo++wT t k q=CV p t∧EW t k q tl=Gb p t∧∀ x∈q,(rl x+cc)*2 ^ k≤1073741824) (fun k q tl lo=>k) p.length p ([]) ([]) ⟨rfl,by simp,by simp,by simp [CV],rfl,hs⟩ ?_
 rintro k q tl lo L1 ⟨hq,htl,hlo,hL,hH,hsz⟩
 refine bV ?_
 refine an rfl (fun h23r h23=>?_) (fun h23r h23=>?_)
 ·obtain⟨j,rfl⟩:∃ j,k=j+1:=⟨k-1,by omega⟩
  have ek:(((j+1:Nat):Int)-1)=(j:Int):=by omega
  have eq0:(q++tl).getD 0 0=q.getD 0 0:=jS _ _ _ (by omega)
  have hq0:=nj (hsz _ (bi (i:=0) (by omega)))
  refine bv ?_
  refine ab rfl (.build0 lU cz) ?_
  simp only [zD,dU,Nat.zero_add,eq0]
  refine cp bf (gh _ 0 (by rw [show rl 0=1 from rfl];omega)) ?_
  refine aL ?_
  refine aK rfl (.app (news:=[ratL (q.getD 0 0+0)]) rfl rfl rfl rfl rfl (by simp) (.inl rfl) (by decide) Tryz.underlying159 Tryz.underlying159 cz bF rfl f3 (.inl ⟨32,0,_,rfl,by decide,rfl,rfl,by simp,rfl,by simp [aD,ah.pure]⟩) (by simp;omega) (by simp;omega) (by decide)) ?_
  refine bw ?_
  refine aY (aP.kill _ 32) ?_
  refine ca ?_
  refine gE (fun(i:Nat) L=>((((((((St.mk L.slot (hp [(3,⟨3,[ratL t],true⟩),(6,⟨3,[ratL (1-t)],true⟩),(1000241,⟨3,((stp t q).take i++(q.drop i++tl)).map ratL,true⟩),(33,⟨3,(lo++[q.getD 0 0]).map ratL,true⟩)])).put (some 3) (.eptr 3 3 0 0)).put (some 6) (.eptr 6 3 0 0)).put (some 7) (.ref 1000241 3 0 p.length)).put (some 8) (.ref 33 3 0 (lo.length+1))).put (some 9) (ai j)).put (some 34) (ai j)).put (some 35) (ai i))) (fun i=>i≤j) (fun i=>j-i) 0 (Nat.zero_le _) ?_
  rintro i L2 hi
  refine bJ ?_
  refine an rfl (fun h36r h36=>?_) (fun h36r h36=>?_)
  ·have hij:i<j:=by omega
   have ei1:((i:Int)+1).toNat=i+1:=by omega
   obtain⟨emg1,emg2⟩:=Bq (t:=t) (q:=q) (tl:=tl) (i:=i) (by omega)
   have ems:=AX (t:=t) (q:=q) (tl:=tl) (i:=i) (by omega)
   have hr1:=nj (hsz _ (bi (i:=i) (by omega)))
   have hr2:=nj (hsz _ (bi (i:=i+1) (by omega)))
   have hm1:=bA (1-t) (q.getD i 0)
   have hm2:=bA t (q.getD (i+1) 0)
   have hml:=Aw (t:=t) (q:=q) (tl:=tl) (i:=i) (by omega)
   refine bv ?_
   refine au 17 (by decide +kernel) ?_
   refine bV ?_
   simp only [t1,dU,Nat.zero_add,emg1]
   refine cp bf (dc _ _ (by omega)) ?_
   refine bJ ?_
   simp only [ei1,dU,Nat.zero_add,emg2]
   refine cp bf (dc _ _ (by omega)) ?_
   refine cp bf (gh _ _ (by omega)) ?_
   refine bv ?_
   exact fA (i+1) (by omega)
  ·obtain rfl:j=i:=by omega
   have eme:=An (t:=t) (tl:=tl) hq
   refine bE ?_
   exact Ev j (stp t q) (q.getD j 0 :: tl) (lo++[q.getD 0 0]) ⟨by rw [eY];omega,by simp;omega,by simp;omega,by rw [List.append_assoc];exact hL,hH,um hC hsz⟩
 ·obtain rfl:k=0:=by omega
  obtain rfl:q=[]:=List.eq_nil_of_length_eq_zero hq
  rw [wT,List.append_nil] at hL
  rw [EW] at hH
  refine dI ?_
  rw [←hL,←hH]
  exact FO [33,1000241] rfl rfl (bg ah rfl rfl rfl) rfl (bg ah rfl rfl (by simpa using htl.symm))
def cW (l:List Int) (k:Nat):LV:=.agg [.list 1 (l.map gi),.v (.int .i64 (k:Nat))]
theorem aw (l:List Int) (k:Nat):aD [cW l k]=true:=by simp [aD,cW,LV.pure,al kB]
theorem rO {a b:Int} (h:b≠0):cj .rem .i64 a b=some (.int .i64 (a.tmod b)):=by simp [cj,h]
theorem Dn:(default:Int)=0:=rfl
def ga (l:List Int) (k:Nat) (n:Int):Int:=if k<l.length then l.getD k 0 % n else 0
def eu (l:List Int) (k:Nat):Nat:=if k<l.length then k+1 else k
theorem ep {l:List Int} {k:Nat} {n:Int} (h:0<n):0≤ga l k n∧ga l k n<n:=by
 unfold ga;split
 ·exact⟨Int.emod_nonneg _ (by omega),Int.emod_lt_of_pos _ h⟩
 ·omega
theorem AL {a m:Int} (hm:0<m):a % m=if a.tmod m<0 then a.tmod m+m else a.tmod m:=by
 have h1:=Int.emod_nonneg a (show m≠0 by omega)
 have h2:=Int.emod_lt_of_pos a hm
 rw [Int.tmod_eq_emod]
 split<;>split<;>omega
theorem kJ {P:Program} {L:St} {a:Nat} {T:TypeId} {b sz:Nat} {x y:LV} {m:Bool} {n:Nat} {ag:Bool} {blk:Blk} (h:L.slot a=.eptr b sz 0 0) (hb:L.heap b=some ⟨sz,[x],m⟩)
  (hx:x.csize=sz) (hat:x.at 0 n ag=some x) (hT:bj P T n ag) (hi:Imm L.heap x y) (h0:L.heap 0=some blk) (hm:blk.mt=true) (hp:aD blk.vals=true):rq P [.cell a T] L y blk :=
 ⟨[x],[y],L.heap,.cons ⟨b,sz,0,0,_,x,n,ag,h,hb,rfl,rfl,hx,hat,hT⟩ .nil,bI.le_refl _,.cons (.imm hi) .nil,h0,hm,hp,rfl⟩
theorem E8 {P:Program} {L:St} {t:Nat} {x y:LV} {blk:Blk} (bs:List Nat) (h0:bs.contains 0=false) (h:L.slot t=x) (hi:Imm (L.frz bs).heap x y) (hb:(L.frz bs).heap 0=some blk) (hm:blk.mt=true) (hp:aD blk.vals=true):rq P [.tmp t] L y blk :=
 ⟨[x],[y],(L.frz bs).heap,.cons h .nil,fF bs h0,.cons (.imm hi) .nil,hb,hm,hp,rfl⟩
def ph (l:List Int) (k:Nat):Rat × Nat :=
 if ga l (eu l k) 4=3 then(((ga l k 13-6:Int):Rat)/((1+ga l (eu l (eu l k)) 4:Int):Rat),eu l (eu l (eu l k))) else(((ga l k 13-6:Int):Rat),eu l (eu l k))
theorem mw {n d:Int} (h1:n.natAbs<4294967296) (h2:d.natAbs<4294967296):rl ((n:Rat)/(d:Rat))≤1:=by
 rw [←qE]
 have:=rK (k:=1) (decide (n<0) != decide (d<0)) (by simpa using h1) (by simpa using h2)
 omega
theorem gl {n:Int} (h1:n.natAbs<4294967296):rl (n:Rat)≤1:=by
 have:=mw (n:=n) (d:=1) h1 (by decide)
 rwa [show ((1:Int):Rat)=1 from rfl,Rat.div_def,show (1:Rat)⁻¹=1 by grind,Rat.mul_one] at this
theorem y9 (l:List Int) (k:Nat):rl (ph l k).1≤1:=by
 have h1:=ep (l:=l) (k:=k) (n:=13) (by decide)
 have h2:=ep (l:=l) (k:=eu l (eu l k)) (n:=4) (by decide)
 unfold ph;split
 ·exact mw (by omega) (by omega)
 ·exact gl (by omega)
theorem AJ {P:Program} {L:St} {t b sz:Nat} {blk:Blk} (h:L.slot t=.eptr b sz 0 0) (hb:L.heap b=some blk) (hp:aD blk.vals=true):jD P [.tmp t] L (.eptr 1 sz 0 0) [blk] :=
 ⟨[.eptr b sz 0 0],[.eptr 1 sz 0 0],L.heap,[b],.cons h .nil,bI.le_refl _,.cons (.ptr (k:=0) rfl) .nil,by simp,rfl,fun k c hk=>by
  cases k with
  | zero=>simp at hk;subst hk;exact⟨blk,hb,rfl,hp⟩
  | succ k=>simp at hk,rfl⟩
theorem ea {l:List Int} {k:Nat} (hl:l.length≤500) (hk:k≤500):eu l k≤500:=by unfold eu;split<;>omega
theorem oy {l:List Int} {k:Nat} (hl:l.length≤500) (hk:k≤500):(ph l k).2≤500:=by
 have h1:=ea (l:=l) hl hk
 have h2:=ea (l:=l) hl h1
 unfold ph;split
 ·exact ea hl h2
 ·exact h2
theorem fU (l:List Int) (k b:Nat):(cW l k).kill b=cW l k:=LV.kill_pure b _ (by simp [cW,LV.pure,aD,al kB])
open H0 in
theorem zJ (n m:Int) (hm:0<m) (hm2:m≤4611686018427387904):ap Tryz.prog 23 [iL n,iL m] (iL (n % m)):=by
 have hE:=AL (a:=n) hm
 have hb:=Int.tmod_lt_of_pos n hm
 have hb2:=Int.lt_tmod_of_pos n hm
 refine bS Tryz.func23 ?_
 refine cg ?_
 refine ab rfl (.bin rfl rfl (rO (by omega))) ?_
 refine bv ?_
 refine cr (fun L=>∃ (r:Int) (L1:St),(r=n % m)∧L=((St.mk L1.slot (hp [])).put (some 0) (iL r))) ?_ ?_
 ·refine an rfl (fun h9r h9=>?_) (fun h9r h9=>?_)
  ·refine bx ?_
   refine ab rfl (.bin rfl rfl (ez (by omega) (by omega))) ?_
   refine bx ?_
   exact⟨n.tmod m+m,_,by rw [hE,if_pos h9],((aa (aJ cl) cl)).symm⟩
  ·refine bG ?_
   exact⟨n.tmod m,_,by rw [hE,if_neg h9],((aa (aJ cl) cl)).symm⟩
 ·rintro _ ⟨r,LC9,hr,rfl⟩
  refine cx ?_
  rw [←hr]
  exact aS rfl (by first | exact .pure rfl | exact .pure (aG _) | exact .pure (ar _) | exact .pure (ah.pure _) | exact .pure (ak bB _ _) | exact .pure (ak ah _ _))
open H0 in
theorem Ay (l:List Int) (h:l.length≤9223372036854775807):ap Tryz.prog 7 [.list 1 (l.map gi)] (bL (decide (l.length≤500))):=by
 refine bS Tryz.func7 ?_
 refine dI ?_
 refine aS (x:=.v (.bool (decide (((l.length:Nat):Int)≤500)))) rfl ?_
 rw [show decide (((l.length:Nat):Int)≤500)=decide (l.length≤500) by rw [decide_eq_decide];omega]
 exact .pure rfl
open H0 in
theorem x6 (l:List Int):dB Tryz.prog 9 [.list 1 (l.map gi)] (.eptr 1 2 0 0) [⟨2,[cW l 0],true⟩]:=by
 refine El Tryz.func9 ?_
 refine cx ?_
 refine ab rfl (.build (zs:=[.v (.slice none 0 0),.v (.int .i64 0)]) E0 Iy (by simp only [List.forall_mem_cons];exact⟨⟨_,rfl,rfl,mT⟩,fun _ h=>by cases h⟩)) ?_
 refine bM rfl rfl (.box mT) ?_
 refine bw ?_
 exact AJ rfl rfl (aw l 0)
namespace Lk
theorem bQ {p q:Prop} (k:q) (e:p=q:=by simp only [e1,e2,e3,e4,p1,p2,p3,q1,q2,q3,l1,t0,t1,r1,r2,r3,r4,Nat.zero_add,Nat.reduceMul,Nat.reduceAdd,b1,b2,b3,b4,b5,b6,i1,i2,i3,i4,i5,i6,Nat.reduceBEq,l1,ek1,Dn];exact rfl):p:=e.mpr k
end Lk
open Lk in
theorem eh (l:List Int) (k:Nat) (n:Int) (hl:l.length≤500) (hk:k≤500) (hn:0<n) (hn2:n≤1000):dK Tryz.prog 56 ⟨2,[cW l k],true⟩ [.eptr 0 2 0 0,iL n] (iL (ga l k n)) ⟨2,[cW l (eu l k)],true⟩:=by
 refine BC Tryz.func56 ?_
 have ek1:True:=trivial
 refine bV ?_
 refine au 10 (by decide +kernel) ?_
 refine bE ?_
 refine an rfl (fun h14r h14=>?_) (fun h14r h14=>?_)
 ·have hk1:¬ k<l.length:=by omega
  refine bV ?_
  rw [ga,if_neg hk1,eu,if_neg hk1]
  exact i8 rfl (.imm (.pure rfl)) rfl rfl (aw l _)
 ·have hk1:k<l.length:=by omega
  have ek1:(((k+1:Nat):Int)-1).toNat=k:=by omega
  refine bD ?_
  refine aK rfl (.store (y:=cW l k) (y':=cW l (k+1)) rfl rfl rfl rfl rfl rfl rfl T3 mT) ?_
  refine bx ?_
  refine au 14 (by decide +kernel) ?_
  refine cx ?_
  refine ab rfl (.bin rfl rfl (eo (by first | omega | (simp;omega)) (by first | omega | (simp;omega)))) ?_
  refine bx ?_
  refine cp bf (zJ _ _ (by omega) (by omega)) ?_
  refine bw ?_
  rw [ga,if_pos hk1,eu,if_pos hk1]
  exact i8 rfl (.imm (.pure rfl)) rfl rfl (aw l _)
namespace Mm
theorem bQ {p q:Prop} (k:q) (e:p=q:=by simp only [e1,e2,e3,e4,p1,p2,p3,q1,q2,q3,l1,t0,t1,r1,r2,r3,r4,Nat.zero_add,Nat.reduceMul,Nat.reduceAdd,b1,b2,b3,b4,b5,b6,i1,i2,i3,i4,i5,i6,Nat.reduceBEq,l1];exact rfl):p:=e.mpr k
end Mm
open Mm in
theorem nJ (l:List Int) (k:Nat) (hl:l.length≤500) (hk:k≤500):dK Tryz.prog 124 ⟨2,[cW l k],true⟩ [.eptr 0 2 0 0] (ratL (ph l k).1) ⟨2,[cW l (ph l k).2],true⟩:=by
 have k1:=ea (l:=l) hl hk
 have k2:=ea (l:=l) hl k1
 have hb1:=ep (l:=l) (k:=k) (n:=13) (by decide)
 have hb2:=ep (l:=l) (k:=eu l (eu l k)) (n:=4) (by decide)
 refine BC Tryz.func124 ?_
 refine cx ?_
 refine f7 0 rfl rfl rfl (aw l _) (.cons .ptr (.cons (.imm (.pure rfl)) .nil)) .ptr (eh l k 13 (by omega) (by omega) (by decide) (by decide)) rfl (aw l _) ?_
 refine bV ?_
 refine f7 0 rfl rfl rfl (aw l _) (.cons .ptr (.cons (.imm (.pure rfl)) .nil)) .ptr (eh l (eu l k) 4 (by omega) (by omega) (by decide) (by decide)) rfl (aw l _) ?_
 refine bx ?_
 refine an rfl (fun h8r h8=>?_) (fun h8r h8=>?_)
 ·refine bx ?_
  refine ab rfl (.bin rfl rfl (eo (by omega) (by omega))) ?_
  refine aL ?_
  refine f7 0 rfl rfl rfl (aw l _) (.cons .ptr (.cons (.imm (.pure rfl)) .nil)) .ptr (eh l (eu l (eu l k)) 4 (by omega) (by omega) (by decide) (by decide)) rfl (aw l _) ?_
  refine ab rfl (.bin rfl rfl (ez (by omega) (by omega))) ?_
  refine cp bf (fJ (ga l k 13-6) (1+ga l (eu l (eu l k)) 4) (by omega) (by omega) (by omega) (by omega) (by omega)) ?_
  refine ca ?_
  rw [ph,if_pos h8]
  exact kJ rfl rfl (ah.csize _) (am _) bF (.pure (ah.pure _)) rfl rfl (aw l _)
 ·refine ca ?_
  refine ab rfl (.bin rfl rfl (eo (by omega) (by omega))) ?_
  refine cp bK (eO (ga l k 13-6) (by omega) (by omega)) ?_
  refine bw ?_
  rw [ph,if_neg h8]
  exact kJ rfl rfl (ah.csize _) (am _) bF (.pure (ah.pure _)) rfl rfl (aw l _)
theorem sn (q:Rat):eP q≠1:=by rw [fi];split<;>omega
theorem pE (n:Nat) (h:(aE n).length≤4611686018427387904):ap Tryz.prog 223 [ba n] (bL true):=by
 have:=y7 (aE n) h
 rwa [decide_eq_true] at this
 by_cases h0:(aE n).length=0
 ·exact .inl h0
 ·exact .inr (fw (jJ n) (by omega))
theorem oT (n:Nat) (h:(aE n).length≤4611686018427387904):ap Tryz.prog 231 [ba n] (bL true):=by
 have:=z9 (aE n) h
 rwa [decide_eq_true] at this
 by_cases h0:(aE n).length=0
 ·exact .inl h0
 ·exact .inr (fw (jJ n) (by omega))
theorem FV {q:Rat} (h:0<(aE (eP q)).length):Nat.gcd q.num.natAbs (eP q)=1:=by
 rw [jC h];exact q.reduced
theorem EP (q:Rat):Nat.gcd q.num.natAbs q.den=1:=q.reduced
def BS (n:Nat):LV:=.v (.int .u8 (n:Nat))
theorem F3:EncOK BS 1 false:=⟨fun _=>rfl,fun _=>rfl,fun _=>rfl⟩
end Go.Proofs.YtfpdccbgngdhkaaGreat
namespace Go.Lg
open Go.Proofs.YtfpdccbgngdhkaaGreat in
theorem OpP.cv8 {P:Program} {H:bI} {ρ:Operand→LV} {S T:TypeId} {x:Operand} {d:TypeDesc} {k':IntKind} {n:Nat} (hS:P.underlying S=some d) (hD:P.underlying T=some (.int .u8)) (hx:ρ x=.v (.int k' (n:Nat))) (h:n<256) :
  OpP P H ρ (.convert S T x) (BS n):=by
 have:=OpP.conv (H:=H) hS hD hx
 rwa [IntKind.wrap_u8,show ((n:Nat):Int) % 256=(n:Int) by omega] at this
end Go.Lg
namespace Go.Proofs.YtfpdccbgngdhkaaGreat
open Go.Lg
theorem FJ {a b:Nat} (h:0<b):cj .rem .u32 (a:Nat) (b:Nat)=some (.int .u32 ((a % b:Nat):Int)):=by
 have e:((a:Int)).tmod b=((a % b:Nat):Int):=by rw [Int.tmod_eq_emod_of_nonneg (by omega)];simp
 simp [cj,e];omega
theorem E7 {a b:Nat} (h:0<b) (h1:a<4294967296):cj .quo .u32 (a:Nat) (b:Nat)=some (.int .u32 ((a/b:Nat):Int)):=by
 have e:((a:Int)).tdiv b=((a/b:Nat):Int):=by rw [Int.tdiv_eq_ediv_of_nonneg (by omega)];simp
 have:=Nat.div_le_self a b
 simp only [cj,if_neg (show ¬ ((b:Nat):Int)=0 by omega),e]
 rw [IntKind.wrap_u32]
 generalize a/b=x at *
 congr 2;omega
theorem m10 {m:Nat} (h:m<10):(48+m % 10) % 4294967296=48+m:=by
 rw [Nat.mod_eq_of_lt h,Nat.mod_eq_of_lt (Nat.lt_of_lt_of_le (Nat.add_lt_add_left h 48) (by decide))]
namespace LI
theorem bQ {p q:Prop} (k:q) (e:p=q:=by simp only [e1,e2,e3,e4,p1,p2,p3,q1,q2,q3,l1,t0,t1,r1,r2,r3,r4,Nat.zero_add,Nat.reduceMul,Nat.reduceAdd,b1,b2,b3,b4,b5,b6,i1,i2,i3,i4,i5,i6,Nat.reduceBEq,az,cS,zD];exact rfl):p:=e.mpr k
end LI
open LI in
theorem zI (q:Rat) (h:rl q≤1099511627776):ap Tryz.prog 158 [ratL q] (bL true):=by
 have a1:=db q
 have a2:=dx q
 have a3:=cF q
 have hne:=sn q
 refine bS Tryz.func158 ?_
 refine bD ?_
 refine cp bK (pE _ (by omega)) ?_
 refine bw ?_
 refine cp bK (pE _ (by omega)) ?_
 refine cx ?_
 refine bT 18 rfl (fun h18r h18=>?_) (fun h18r h18=>?_)
 ·refine cg ?_
  refine an rfl (fun h25r h25=>?_) (fun h25r h25=>?_)
  ·exfalso
   have:=(gr (n:=eP q) (by omega)).1
   omega
  ·refine bD ?_
   refine an rfl (fun h29r h29=>?_) (fun h29r h29=>?_)
   ·refine bJ ?_
    refine bT 33 rfl (fun h33r h33=>?_) (fun h33r h33=>?_)
    ·have hz:=oO (q:=q) (by omega)
     subst hz
     refine bv ?_
     exact aS rfl (by first | exact .pure rfl | exact .pure (aG _) | exact .pure (ar _) | exact .pure (ah.pure _) | exact .pure (ak bB _ _) | exact .pure (ak ah _ _))
    ·exfalso
     have hz:=oO (q:=q) (by omega)
     subst hz
     revert h33r
     decide
   ·refine cg ?_
    refine bT 43 rfl (fun h43r h43=>?_) (fun h43r h43=>?_)
    ·refine ca ?_
     first | simp only [az,hg1] | skip
     refine bV ?_
     exact aS rfl (by first | exact .pure rfl | exact .pure (aG _) | exact .pure (ar _) | exact .pure (ah.pure _) | exact .pure (ak bB _ _) | exact .pure (ak ah _ _))
    ·have hg1:=FV (q:=q) (by omega)
     refine bw ?_
     refine cp bf (tv _ _ (aB _) (aB _) (by omega) (by omega)) ?_
     first | simp only [az,hg1] | skip
     refine cp bK (gU (aE 1) (aB _) (by decide)) ?_
     refine bJ ?_
     exact aS rfl (by first | exact .pure rfl | exact .pure (aG _) | exact .pure (ar _) | exact .pure (ah.pure _) | exact .pure (ak bB _ _) | exact .pure (ak ah _ _))
 ·refine tz ?_
  refine an rfl (fun h29r h29=>?_) (fun h29r h29=>?_)
  ·refine bJ ?_
   refine bT 33 rfl (fun h33r h33=>?_) (fun h33r h33=>?_)
   ·have hz:=oO (q:=q) (by omega)
    subst hz
    refine bv ?_
    exact aS rfl (by first | exact .pure rfl | exact .pure (aG _) | exact .pure (ar _) | exact .pure (ah.pure _) | exact .pure (ak bB _ _) | exact .pure (ak ah _ _))
   ·exfalso
    have hz:=oO (q:=q) (by omega)
    subst hz
    revert h33r
    decide
  ·refine cg ?_
   refine bT 43 rfl (fun h43r h43=>?_) (fun h43r h43=>?_)
   ·refine ca ?_
    first | simp only [az,hg1] | skip
    refine bV ?_
    exact aS rfl (by first | exact .pure rfl | exact .pure (aG _) | exact .pure (ar _) | exact .pure (ah.pure _) | exact .pure (ak bB _ _) | exact .pure (ak ah _ _))
   ·have hg1:=FV (q:=q) (by omega)
    refine bw ?_
    refine cp bf (tv _ _ (aB _) (aB _) (by omega) (by omega)) ?_
    first | simp only [az,hg1] | skip
    refine cp bK (gU (aE 1) (aB _) (by decide)) ?_
    refine bJ ?_
    exact aS rfl (by first | exact .pure rfl | exact .pure (aG _) | exact .pure (ar _) | exact .pure (ah.pure _) | exact .pure (ak bB _ _) | exact .pure (ak ah _ _))
namespace KG
theorem bQ {p q:Prop} (k:q) (e:p=q:=by simp only [e1,e2,e3,e4,p1,p2,p3,q1,q2,q3,l1,t0,t1,r1,r2,r3,r4,Nat.zero_add,Nat.reduceMul,Nat.reduceAdd,b1,b2,b3,b4,b5,b6,i1,i2,i3,i4,i5,i6,Nat.reduceBEq,az,cS,zD,hdv,hmd,m10 h10,hm100,aQ,bo,aW,List.length_cons,List.length_nil,List.nil_append,ae F3,LV.kill,ei0,List.map_cons,List.map_nil,List.length_map];exact rfl):p:=e.mpr k
end KG
open KG in
theorem sb (m:Nat) (h0:0<m) (h10:m<10):ap Tryz.prog 123 [ba m] (.v (.string ⟨#[UInt8.ofNat (48+m)]⟩)):=by
 have hd:=fx h0 (by omega:m<4294967296)
 have hl:(aE m).length=1:=by rw [hd];rfl
 have hdv:m/1000000000=0:=by omega
 have hmd:m % 1000000000=m:=by omega
 have hm100:m/10=0:=by omega
 refine bS Tryz.func123 ?_
 have ei0:True:=trivial
 refine ct ?_
 refine an rfl (fun h11r h11=>?_) (fun h11r h11=>?_)
 ·omega
 ·refine cg ?_
  refine cN (aP.own (t:=3) 39 1 rfl rfl) ?_
  refine ik (fun(a:Nat) (o:List Nat) L=>(((St.mk L.slot (hp [(39,⟨1,o.map BS,true⟩)])).put (some 0) (ba a)).put (some 3) (.ref 39 1 0 o.length))) (fun a o=>(m=a∧o=[])∨(a=0∧o=[48+m])) (fun a o=>a) m ([]) (.inl ⟨rfl,rfl⟩) ?_
  rintro a o L1 hao
  refine cx ?_
  refine an rfl (fun h14r h14=>?_) (fun h14r h14=>?_)
  ·have hao2:m=a∧o=[]:=by
    rcases hao with h | h
    ·exact h
    ·rw [h.1] at h14;exact absurd h14 (by decide)
   obtain⟨rfl,rfl⟩:=hao2
   refine bJ ?_
   refine cp bf (pk m 1000000000 (by omega) (by omega) (by omega)) ?_
   refine dI ?_
   refine tp (fun(i r:Nat) (o2:List Nat) L=>((((((St.mk L.slot (hp [(39,⟨1,o2.map BS,true⟩)])).put (some 0) (ba m)).put (some 3) (.ref 39 1 0 o2.length)).put (some 4) (ba 0)).put (some 5) (iV r)).put (some 6) (ai i))) (fun i r o2=>(i=0∧m=r∧o2=[])∨(i=1∧r=0∧o2=[48+m])) (fun i r o2=>r) 0 m ([]) (.inl ⟨rfl,rfl,rfl⟩) ?_
   rintro i r o2 L2 hio
   refine bG ?_
   refine cr (fun L=>∃ (t:Bool) (L1:St),(t=decide (0<r))∧L=(((((((St.mk L1.slot (hp [(39,⟨1,o2.map BS,true⟩)])).put (some 0) (ba m)).put (some 3) (.ref 39 1 0 o2.length)).put (some 4) (ba 0)).put (some 5) (iV r)).put (some 6) (ai i)).put (some 30) (bL t))) ?_ ?_
   ·refine bw ?_
    refine bT 22 rfl (fun h22r h22=>?_) (fun h22r h22=>?_)
    ·refine bx ?_
     refine bT 25 rfl (fun h25r h25=>?_) (fun h25r h25=>?_)
     ·refine bV ?_
      exact⟨true,_,by symm;rw [decide_eq_true_iff];omega,((aa (aa (aa (aa (aa (aa (aJ cl) cl) cl) cl) cl) cl) cl)).symm⟩
     ·refine bV ?_
      exact⟨false,_,by symm;rw [decide_eq_false_iff_not];omega,((aa (aa (aa (aa (aa (aa (aJ cl) cl) cl) cl) cl) cl) cl)).symm⟩
    ·exfalso
     omega
   ·rintro _ ⟨t,LR7,ht,rfl⟩
    refine aL ?_
    refine an rfl (fun h30r h30=>?_) (fun h30r h30=>?_)
    ·rw [ht,decide_eq_true_iff] at h30r
     have hio2:i=0∧m=r∧o2=[]:=by
      rcases hio with h | h
      ·exact h
      ·omega
     obtain⟨rfl,rfl,rfl⟩:=hio2
     refine cx ?_
     refine ab rfl (.bin rfl rfl (FJ (b:=10) (by decide))) ?_
     refine ab rfl (.bin rfl rfl (yI)) ?_
     refine ab rfl (.cv8 (n:=48+m) Tryz.underlying182 Tryz.underlying5 (by simp only [e1,p1,p2,Nat.reduceBEq,m10 h10];rfl) (by omega)) ?_
     refine bM rfl rfl (.lit1 F3 Tryz.underlying197 Z5 T5 rfl (by decide) (by decide)) ?_
     refine aK rfl (.app (news:=[BS (48+m)]) rfl rfl rfl rfl rfl (by simp) (.inl rfl) (by decide) Tryz.underlying197 Tryz.underlying197 Z5 T5 rfl B5 (.inl ⟨38,0,_,rfl,by decide,rfl,rfl,by simp,rfl,rfl⟩) (by simp) (by simp) (by decide)) ?_
     refine ca ?_
     refine ab rfl (.bin rfl rfl (E7 (b:=10) (by decide) (by omega))) ?_
     refine bw ?_
     refine aY (aP.kill _ 38) ?_
     refine ca ?_
     exact rb 1 0 ([48+m]) (.inr ⟨rfl,rfl,rfl⟩) (hm:=h0)
    ·rw [ht,decide_eq_false_iff_not] at h30r
     have hio2:i=1∧r=0∧o2=[48+m]:=by
      rcases hio with h | h
      ·omega
      ·exact h
     obtain⟨rfl,rfl,rfl⟩:=hio2
     refine bD ?_
     exact gk 0 ([48+m]) (.inr ⟨rfl,rfl⟩) (hm:=h0)
  ·have hao2:a=0∧o=[48+m]:=by
    rcases hao with h | h
    ·rw [←h.1] at h14;omega
    ·exact h
   obtain⟨rfl,rfl⟩:=hao2
   refine cg ?_
   refine bM rfl rfl (.makeM (n:=1) (m:=1) F3 Tryz.underlying197 Z5 T5 B5 ml ml om om om) ?_
   refine bv ?_
   refine ik (fun(i:Nat) (w:List Nat) L=>((((St.mk L.slot (hp [(39,⟨1,[48+m].map BS,true⟩),(45,⟨1,w.map BS,true⟩)])).put (some 3) (.ref 39 1 0 1)).put (some 7) (.ref 45 1 0 1)).put (some 8) (ai i))) (fun i w=>(i=0∧w=[0])∨(i=1∧w=[48+m])) (fun i w=>1-i) 0 ([0]) (.inl ⟨rfl,rfl⟩) ?_
   rintro i w L3 hiw
   refine cg ?_
   refine an rfl (fun h49r h49=>?_) (fun h49r h49=>?_)
   ·have hiw2:i=0∧w=[0]:=by
     rcases hiw with h | h
     ·exact h
     ·omega
    obtain⟨rfl,rfl⟩:=hiw2
    have ei0:((1:Int)-1-0).toNat=0:=rfl
    refine ct ?_
    refine ab rfl qN ?_
    refine ab rfl fS ?_
    refine ab rfl qN ?_
    refine aK rfl (by exact .storeM F3 rfl rfl rfl T5 om) ?_
    refine cg ?_
    exact gk 1 ([48+m]) (.inr ⟨rfl,rfl⟩)
   ·have hiw2:i=1∧w=[48+m]:=by
     rcases hiw with h | h
     ·omega
     ·exact h
    obtain⟨rfl,rfl⟩:=hiw2
    refine cx ?_
    refine ab rfl (.strR (ns:=[48+m]) Tryz.underlying197 Tryz.underlying5 Tryz.underlying9 rfl rfl rfl rfl (by simp)) ?_
    refine bw ?_
    exact aS rfl (.pure rfl)
namespace KF
theorem bQ {p q:Prop} (k:q) (e:p=q:=by simp only [e1,e2,e3,e4,p1,p2,p3,q1,q2,q3,l1,t0,t1,r1,r2,r3,r4,Nat.zero_add,Nat.reduceMul,Nat.reduceAdd,b1,b2,b3,b4,b5,b6,i1,i2,i3,i4,i5,i6,Nat.reduceBEq,edd];exact rfl):p:=e.mpr k
end KF
open KF in
theorem BH (q:Rat) (h0:0<q) (hn:q.num.natAbs<10) (hd:q.den<10):ap Tryz.prog 54 [ratL q] (.v (.string (if q.den=1 then⟨#[UInt8.ofNat (48+q.num.natAbs)]⟩ else⟨#[UInt8.ofNat (48+q.num.natAbs),47,UInt8.ofNat (48+q.den)]⟩))):=by
 have hq0:0<q.num.natAbs:=by have:=uA.1 h0;omega
 have hnn:¬ q<0:=by grind
 have hdp:=q.den_pos
 refine bS Tryz.func54 ?_
 have edd:True:=trivial
 refine bv ?_
 refine cp bK (sb _ (by omega) (by omega)) ?_
 refine bv ?_
 refine an rfl (fun h8r h8=>?_) (fun h8r h8=>?_)
 ·exact absurd h8 hnn
 ·refine bD ?_
  refine an rfl (fun h14r h14=>?_) (fun h14r h14=>?_)
  ·have edd:=jC (q:=q) (by omega)
   have hd1:q.den≠1:=fun e=>by have:=fi q;rw [if_pos e] at this;omega
   refine bw ?_
   simp only [edd]
   refine cp bK (sb _ (by omega) (by omega)) ?_
   refine ab rfl (.addS rfl rfl (Nat.le_of_ble_eq_true rfl)) ?_
   refine ab rfl (.addS rfl rfl (Nat.le_of_ble_eq_true rfl)) ?_
   refine bv ?_
   rw [if_neg hd1]
   exact aS rfl (.pure rfl)
  ·have hd1:=jG (q:=q) (by omega)
   refine cg ?_
   rw [if_pos hd1]
   exact aS rfl (.pure rfl)
def HS (p:List Rat) (t:Rat):Prop:=∃ cc,rl (1-t)+rl t+1≤cc∧cc≤1073741824∧∀ x∈p,(rl x+cc)*2 ^ p.length≤1073741824
theorem wF (p:List Rat) (t:Rat) (h:HS p t):ap Tryz.prog 198 [.list 3 (p.map ratL),ratL t] (.tup [.list 3 ((CV p t).map ratL),.list 3 ((Gb p t).map ratL)]):=by
 obtain⟨cc,h1,h2,h3⟩:=h
 exact xB p t cc h1 h2 h3
theorem HS.len {p:List Rat} {t:Rat} (h:HS p t):p.length≤30:=by
 obtain⟨cc,h1,h2,h3⟩:=h
 exact yy (Nat.le_trans (Nat.le_add_left 1 _) h1) h3
theorem HS.rl {p:List Rat} {t:Rat} (h:HS p t):rl t≤1073741824∧∀ x∈p,Go.Lg.rl x≤1073741824:=by
 obtain⟨cc,h1,h2,h3⟩:=h
 exact⟨by omega,fun x hx=>by have:=nj (h3 x hx);omega⟩
def uI (p:List Rat) (t:Rat):Rat:=(CV p t).getD (p.length-1) 0
theorem jn (o:List Rat) (i x:Nat) (v:Rat) (hi:i<o.length):(o.set i v).getD x 0=if x=i then v else o.getD x 0:=by
 rw [List.getD_eq_getElem?_getD,List.getD_eq_getElem?_getD,List.getElem?_set]
 by_cases h:i=x
 ·subst h;simp [hi]
 ·rw [if_neg h,if_neg (fun e=>h e.symm)]
namespace J1
theorem bQ {p q:Prop} (k:q) (e:p=q:=by simp only [e1,e2,e3,e4,p1,p2,p3,q1,q2,q3,l1,t0,t1,r1,r2,r3,r4,Nat.zero_add,Nat.reduceMul,Nat.reduceAdd,b1,b2,b3,b4,b5,b6,i1,i2,i3,i4,i5,i6,Nat.reduceBEq,dU,ej,hll];exact rfl):p:=e.mpr k
end J1
open J1 in
theorem vM (p:List Rat) (t:Rat) (h:HS p t) (hp0:0<p.length):ap Tryz.prog 131 [.list 3 (p.map ratL),ratL t] (ratL (uI p t)):=by
 have hll:=BA p t
 have hlen:=h.len
 have hj:(((p.length:Nat):Int)-1).toNat=p.length-1:=by omega
 refine bS Tryz.func131 ?_
 have ej:True:=trivial
 refine dI ?_
 refine an rfl (fun h9r h9=>?_) (fun h9r h9=>?_)
 ·omega
 ·refine bJ ?_
  refine cp bf (wF _ _ (by assumption)) ?_
  refine bE ?_
  refine ab rfl (.bin rfl rfl (ee (by omega) (by omega))) ?_
  refine bJ ?_
  rw [uI]
  exact b9 [] rfl rfl rfl (ah.csize _) (am _) bF (.pure (ah.pure _))
def fX:Nat→Nat→Nat
 | _,0=>1
 | 0,_+1=>0
 | n+1,k+1=>fX n k+fX n (k+1)
theorem ni:∀ {n k:Nat},n<k→fX n k=0
 | 0,k+1,_=>rfl
 | n+1,k+1,h=>by rw [fX,ni (by omega),ni (by omega)]
theorem rz:∀ n,fX n n=1
 | 0=>rfl
 | n+1=>by rw [fX,rz n,ni (by omega)]
theorem nz (n:Nat):fX n 0=1:=by cases n<;>rfl
theorem tG:∀ n k,fX n k≤2 ^ n
 | n,0=>by rw [nz];exact Nat.pow_pos (by omega)
 | 0,k+1=>by simp [fX]
 | n+1,k+1=>by
   have h1:=tG n k
   have h2:=tG n (k+1)
   rw [fX,Nat.pow_succ];omega
theorem ky {n:Nat} (k:Nat) (h:n≤40):fX n k≤1099511627776:=Nat.le_trans (tG n k) (Nat.pow_le_pow_right (n:=2) (by omega) h)
def iy (n:Nat):List Int:=(List.range (n+1)).map fun x=>(fX n x:Int)
def wR (n:Nat):List Rat:=(List.range (n+1)).map fun x=>((fX n x:Int):Rat)
theorem ef (n:Nat):(iy n).length=n+1:=by simp [iy]
theorem qL (n:Nat):(wR n).length=n+1:=by simp [wR]
theorem iA {n x:Nat} (h:x≤n):(iy n).getD x 0=(fX n x:Int):=by
 rw [List.getD_eq_getElem?_getD,List.getElem?_eq_getElem (by rw [ef];omega)];simp [iy]
theorem uH {n x:Nat} (h:x≤n):(wR n).getD x 0=((fX n x:Int):Rat):=by
 rw [List.getD_eq_getElem?_getD,List.getElem?_eq_getElem (by rw [qL];omega)];simp [wR]
theorem Ij {p q:List Int} (hl:p.length=q.length) (h:∀ i,i<p.length→p.getD i 0=q.getD i 0):p=q:=by
 apply List.ext_getElem hl
 intro i h1 h2
 have:=h i h1
 rw [List.getD_eq_getElem?_getD,List.getD_eq_getElem?_getD,List.getElem?_eq_getElem h1,List.getElem?_eq_getElem h2] at this
 exact this
theorem zO (o:List Int) (i x:Nat) (v:Int) (hi:i<o.length):(o.set i v).getD x 0=if x=i then v else o.getD x 0:=by
 rw [List.getD_eq_getElem?_getD,List.getD_eq_getElem?_getD,List.getElem?_set]
 by_cases h:i=x
 ·subst h;simp [hi]
 ·rw [if_neg h,if_neg (fun e=>h e.symm)]
def wN (k i:Nat) (o:List Int):Prop:=o.length=k+2∧∀ x,x<k+2→o.getD x 0=if i<x∧x≤k then(fX (k+1) x:Int) else if x≤k then(fX k x:Int) else 1
theorem yM (k:Nat):wN k k (iy k++[1]):=by
 refine⟨by simp [ef],fun x hx=>?_⟩
 rw [if_neg (by omega)]
 by_cases h:x≤k
 ·rw [if_pos h,jS _ _ _ (by rw [ef];omega),iA h]
 ·rw [if_neg h,jU _ _ _ (by rw [ef];omega),ef,show x-(k+1)=0 by omega];rfl
theorem yE {k i:Nat} {o:List Int} (h:wN k (i+1) o) (hi:i+1≤k):wN k i (o.set (i+1) (o.getD (i+1) 0+o.getD i 0)):=by
 obtain⟨h1,h2⟩:=h
 refine⟨by simp [h1],fun x hx=>?_⟩
 rw [zO _ _ _ _ (by omega)]
 by_cases hxi:x=i+1
 ·subst hxi
  rw [if_pos rfl,if_pos ⟨by omega,hi⟩,h2 _ (by omega),h2 _ (by omega),if_neg (by omega),if_pos (by omega),if_neg (by omega),if_pos (by omega),fX]
  simp;omega
 ·rw [if_neg hxi,h2 x hx]
  by_cases h3:i+1<x∧x≤k
  ·rw [if_pos h3,if_pos ⟨by omega,h3.2⟩]
  ·rw [if_neg h3,if_neg (show ¬ (i<x∧x≤k) by omega)]
theorem Bx {k:Nat} {o:List Int} (h:wN k 0 o):o=iy (k+1):=by
 obtain⟨h1,h2⟩:=h
 refine Ij (by rw [ef,h1]) (fun x hx=>?_)
 rw [h2 x (by omega),iA (by omega)]
 by_cases h3:0<x∧x≤k
 ·rw [if_pos h3]
 ·rw [if_neg h3]
  by_cases h4:x≤k
  ·obtain rfl:x=0:=by omega
   rw [if_pos h4,nz,nz]
  ·obtain rfl:x=k+1:=by omega
   rw [if_neg h4,rz];rfl
theorem zo {k i:Nat} {o:List Int} (h:wN k i o) (hk:k≤39) {x:Nat} (hx:x<k+2):0≤o.getD x 0∧o.getD x 0≤1099511627776:=by
 rw [h.2 x hx]
 have h1:=ky (n:=k+1) x (by omega)
 have h2:=ky (n:=k) x (by omega)
 split
 ·omega
 ·split<;>omega
theorem oe {n:Nat} (hn:n≤40):∀ x∈wR n,rl x≤2:=by
 intro x hx
 simp only [wR,List.mem_map] at hx
 obtain⟨k,_,rfl⟩:=hx
 have h:=ky k hn
 rw [←n5]
 have:=rK (k:=2) (decide ((fX n k:Int)<0)) (n:=(fX n k:Int).natAbs) (d:=1) (by omega) (by decide)
 omega
theorem jV {o p:List Rat} {k:Nat} {v:Rat} (hk:k<p.length) (hol:o.length=p.length) (ht:o.take k=p.take k) (hv:v=p.getD k 0):(o.set k v).take (k+1)=p.take (k+1):=by subst hv;exact u6 hk hol ht
theorem EL (n:Nat) (f:Int→LV):((iy n).map f).take (n+1)=(iy n).map f:=by rw [List.take_of_length_le (by simp [ef])]
theorem Ai {p:List Rat} {k:Nat} (h:p.length≤k):p.getD k 0=0:=by
 rw [List.getD_eq_getElem?_getD,List.getElem?_eq_none h];rfl
theorem EV {a b:List Rat} (h:a.length=b.length) (h2:∀ k,k<a.length→a.getD k 0=b.getD k 0):a=b:=by
 refine List.ext_getElem h fun k h1 h3=>?_
 have:=h2 k h1
 rw [List.getD_eq_getElem?_getD,List.getD_eq_getElem?_getD,List.getElem?_eq_getElem h1,List.getElem?_eq_getElem h3] at this
 exact this
theorem xL (o:List Rat) (i:Nat) (v:Rat) (k:Nat) (h:i<o.length):(o.set i v).getD k 0=if i=k then v else o.getD k 0:=by
 rw [List.getD_eq_getElem?_getD,List.getD_eq_getElem?_getD,List.getElem?_set]
 split
 ·rename_i e;subst e;first | rw [if_pos h];rfl | rfl
 ·rfl
theorem cY {o:List Rat} {S:Nat} (h1:1≤S) (h:∀ x∈o,rl x≤S) (k:Nat):rl (o.getD k 0)≤S:=by
 rcases Nat.lt_or_ge k o.length with hk | hk
 ·exact h _ (bi hk)
 ·rw [List.getD_eq_getElem?_getD,List.getElem?_eq_none hk];show rl 0≤S;rw [show rl 0=1 from rfl];exact h1
theorem xG {o:List Rat} {S:Nat} {i:Nat} {v:Rat} (h:∀ x∈o,rl x≤S) (hv:rl v≤S):∀ x∈o.set i v,rl x≤S:=fun x hx=>by
 rcases List.mem_or_eq_of_mem_set hx with h1 | h1
 ·exact h x h1
 ·rw [h1];exact hv
theorem gf {a b:Nat} (h:a+b≤9223372036854775807):cj .add .i64 (a:Nat) (b:Nat)=some (.int .i64 ((a+b:Nat):Int)):=by
 rw [ez (by omega) (by omega)];congr 2
theorem a9 {a:Nat} (h:a+1≤9223372036854775807):cj .add .i64 (a:Nat) 1=some (.int .i64 ((a+1:Nat):Int)):=by
 rw [ez (by omega) (by omega)];congr 2
theorem pU {o:List Rat} {i:Nat} {v:Rat} (h:i<o.length):(o.set i v).getD i 0=v:=by rw [jn _ _ _ _ h,if_pos rfl]
def xc (x:Rat) (i:Nat) (y:List Rat) (q:List Rat) (o:List Rat):Nat→List Rat
 | 0=>o
 | j+1=>(xc x i y q o j).set (i+j) ((xc x i y q o j).getD (i+j) 0+x*(y.getD j 0*q.getD j 0))
def zR (p q:List Rat):Nat→List Rat
 | 0=>List.replicate (p.length-1+(q.length-1)+1) 0
 | i+1=>xc ((wR (p.length-1)).getD i 0*p.getD i 0) i (wR (q.length-1)) q (zR p q i) q.length
def qK (p q:List Rat):List Rat:=(List.range (p.length-1+(q.length-1)+1)).map fun k=>(zR p q p.length).getD k 0/(wR (p.length-1+(q.length-1))).getD k 0
theorem rD (p q:List Rat):(qK p q).length=p.length-1+(q.length-1)+1:=by simp [qK]
theorem u7 {x:Rat} {i R S:Nat} {y q o:List Rat} (hS:1≤S) (ho:∀ v∈o,rl v≤S) (hx:rl x≤R+2) (hy:∀ v∈y,rl v≤2) (hq:∀ v∈q,rl v≤R) (hR:1≤R):∀ j,∀ v∈xc x i y q o j,rl v≤S+j*(2*R+5)
 | 0,v,hv=>by have:=ho v hv;omega
 | j+1,v,hv=>by
   have ih:=u7 (i:=i) hS ho hx hy hq hR j
   refine xG (S:=S+(j+1)*(2*R+5)) (fun w hw=>?_) ?_ v hv
   ·have:=ih w hw;rw [Nat.succ_mul];omega
   ·have h1:=cY (by omega) ih (i+j)
    have h2:=cY (by omega) hy j
    have h3:=cY (by omega) hq j
    have e1:=bA (y.getD j 0) (q.getD j 0)
    have e2:=bA x (y.getD j 0*q.getD j 0)
    have e3:=dF ((xc x i y q o j).getD (i+j) 0) (x*(y.getD j 0*q.getD j 0))
    rw [Nat.succ_mul];omega
theorem vP {p q:List Rat} {R:Nat} (hpl:p.length≤41) (hql:q.length≤41) (hR:1≤R) (hp':∀ v∈p,rl v≤R) (hq':∀ v∈q,rl v≤R):∀ i,∀ v∈zR p q i,rl v≤1+i*(q.length*(2*R+5))
 | 0,v,hv=>by
   simp only [zR,List.mem_replicate] at hv
   rw [hv.2];show rl 0≤_;rw [show rl 0=1 from rfl];omega
 | i+1,v,hv=>by
   have ih:=vP hpl hql hR hp' hq' i
   have hx:rl ((wR (p.length-1)).getD i 0*p.getD i 0)≤R+2:=by
    have h1:=cY (by omega) (oe (n:=p.length-1) (by omega)) i
    have h2:=cY hR hp' i
    have:=bA ((wR (p.length-1)).getD i 0) (p.getD i 0)
    omega
   have:=u7 (by omega) ih hx (oe (n:=q.length-1) (by omega)) hq' hR q.length v hv
   rw [Nat.succ_mul];omega
theorem z8 (n x:Nat):(List.replicate n (0:Rat)).getD x 0=0:=by
 rw [List.getD_eq_getElem?_getD,List.getElem?_replicate];split<;>rfl
def fQ (p:List Rat):List Rat:=if p.length<2 then [0] else(List.range (p.length-1)).map fun i=>(((p.length-1:Nat):Int):Rat)*(p.getD (i+1) 0-p.getD i 0)
theorem jf {p:List Rat}:(fQ p).length=if p.length<2 then 1 else p.length-1:=by unfold fQ;split<;>simp
theorem rE {p:List Rat} {i:Nat} (h:i+1<p.length):(fQ p).getD i 0=(((p.length-1:Nat):Int):Rat)*(p.getD (i+1) 0-p.getD i 0):=by
 unfold fQ
 rw [if_neg (by omega),List.getD_eq_getElem?_getD,List.getElem?_eq_getElem (by simp;omega)];simp
theorem lb {p:List Rat} {R:Nat} (hR:1≤R) (hl:p.length≤1000) (h:∀ x∈p,rl x≤R):∀ x∈fQ p,rl x≤2*R+4:=by
 intro x hx
 obtain⟨k,hk,rfl⟩:=se hx
 rw [jf] at hk
 by_cases h2:p.length<2
 ·rw [if_pos h2] at hk
  have:fQ p=[0]:=by unfold fQ;rw [if_pos h2]
  rw [this]
  obtain rfl:k=0:=by omega
  show rl 0≤_
  rw [show rl 0=1 from rfl];omega
 ·rw [if_neg h2] at hk
  rw [rE (by omega)]
  have h3:=gl (n:=((p.length-1:Nat):Int)) (by omega)
  have h4:=h _ (bi (i:=k) (by omega))
  have h5:=h _ (bi (i:=k+1) (by omega))
  have h6:=fo (p.getD (k+1) 0) (p.getD k 0)
  have h7:=bA (((p.length-1:Nat):Int):Rat) (p.getD (k+1) 0-p.getD k 0)
  omega
namespace J9
theorem bQ {p q:Prop} (k:q) (e:p=q:=by simp only [e1,e2,e3,e4,p1,p2,p3,q1,q2,q3,l1,t0,t1,r1,r2,r3,r4,Nat.zero_add,Nat.reduceMul,Nat.reduceAdd,b1,b2,b3,b4,b5,b6,i1,i2,i3,i4,i5,i6,Nat.reduceBEq,dU,List.length_set,ae ah,ax,aC,LV.kill,aH];exact rfl):p:=e.mpr k
end J9
open J9 in
theorem y0 (p:List Rat) (hl:p.length≤1000) (hpr:∀ x∈p,rl x≤1073741824):ap Tryz.prog 144 [.list 3 (p.map ratL)] (.list 3 ((fQ p).map ratL)):=by
 refine bS Tryz.func144 ?_
 refine ct ?_
 refine an rfl (fun h8r h8=>?_) (fun h8r h8=>?_)
 ·have hE:fQ p=[0]:=by unfold fQ;rw [if_pos (by omega)]
  refine bG ?_
  refine ab rfl (.build0 lU cz) ?_
  refine bJ ?_
  rw [hE]
  exact fM [10] rfl rfl (bg ah rfl rfl rfl)
 ·have hdl:(fQ p).length=p.length-1:=by rw [jf,if_neg (by omega)]
  refine bJ ?_
  refine ab rfl (.bin rfl rfl (ee (by omega) (by omega))) ?_
  refine cp bK (kr ((p.length-1:Nat):Int) (by omega) (by omega)) ?_
  refine cx ?_
  refine ab rfl (.bin rfl rfl (ee (by omega) (by omega))) ?_
  refine bM rfl rfl (.mkE (n:=(p.length-1)) (m:=(p.length-1)) ml ml om om om) ?_
  refine bE ?_
  refine ik (fun(i:Nat) (w:List Rat) L=>(((((((St.mk L.slot (hp [(3,⟨3,[ratL (((p.length-1:Nat):Int):Rat)],true⟩),(18,⟨3,w.map ratL,true⟩)])).put (some 0) (.list 3 (p.map ratL))).put (some 3) (.eptr 3 3 0 0)).put (some 4) (.ref 18 3 0 (p.length-1))).put (some 19) (.ref 18 3 0 (p.length-1))).put (some 20) (ai (p.length-1))).put (some 21) (ai i))) (fun i w=>i≤p.length-1∧w.length=p.length-1∧w.take i=(fQ p).take i) (fun i w=>p.length-1-i) 0 (List.replicate (p.length-1) 0) ⟨Nat.zero_le _,by simp,rfl⟩ ?_
  rintro i w L1 ⟨hi,hwl,hwt⟩
  refine bJ ?_
  refine an rfl (fun h22r h22=>?_) (fun h22r h22=>?_)
  ·have hi2:i<p.length-1:=by omega
   have hr1:=hpr _ (bi (i:=i) (by omega))
   have hr2:=hpr _ (bi (i:=i+1) (by omega))
   have hr3:=fo (p.getD (i+1) 0) (p.getD i 0)
   have hr4:=gl (n:=((p.length-1:Nat):Int)) (by omega)
   refine bv ?_
   refine au 15 (by decide +kernel) ?_
   refine ca ?_
   refine ab rfl (.bin rfl rfl (a9 (by omega))) ?_
   refine bJ ?_
   refine cp bf (gg (p.getD (i+1) 0) (p.getD i 0) (by omega)) ?_
   refine cp bf (dc (((p.length-1:Nat):Int):Rat) (p.getD (i+1) 0-p.getD i 0) (by omega)) ?_
   refine bv ?_
   exact gk (i+1) (w.set i ((((p.length-1:Nat):Int):Rat)*(p.getD (i+1) 0-p.getD i 0))) ⟨by omega,by simp [hwl],jV (by omega) (by omega) hwt (rE (by omega)).symm⟩
  ·obtain rfl:i=p.length-1:=by omega
   have hE:w=fQ p:=by
    rw [List.take_of_length_le (by omega),List.take_of_length_le (by omega)] at hwt
    exact hwt
   subst hE
   refine bE ?_
   exact fM [18] rfl rfl (bg ah rfl rfl hdl.symm)
end Go.Proofs.YtfpdccbgngdhkaaGreat
namespace Go.Lg
theorem aP.imm {L:St} {t:Nat} {x y:LV} (bs:List Nat) (h0:bs.contains 0=false) (h:L.slot t=x) (hi:Imm (L.frz bs).heap x y):aP L ((L.frz bs).put (some t) y):=by
 rintro n W X Z0 a w ⟨hdf,hsz,μ,Z,hc,hr⟩
 obtain⟨Z1,k1,k2⟩:=hc.widen (fF bs h0)
 refine⟨hdf,hsz,μ,Z1,by rw [cw];exact k1,fun s=>?_⟩
 have hfr:Frame Z μ w w:=⟨fun _ _=>rfl,fun _ id _ c _ _ hh=>⟨c,hh,rfl⟩⟩
 have hs:=(hr s).mono k2 (fun _ _ h=>h) hfr
 rw [bz]
 split
 ·rename_i hst
  subst hst
  rw [h] at hs
  exact be.of1 (LV.pure_ne_tup hi.lay.2.2) (hi.soundV k1 hs)
 ·exact hs
end Go.Lg
namespace Go.Proofs.YtfpdccbgngdhkaaGreat
open Go.Lg
theorem u9 {a:Rat} (h:0<a):gM a=1:=by unfold gM;rw [if_neg (by grind),if_neg (by grind)]
def fE (a b:Rat):Nat→(Nat→Rat)→Rat
 | 0,f=>f 0
 | n+1,f=>fE a b n (fun i=>a*f i+b*f (i+1))
theorem rN (a b:Rat):∀ (n:Nat) (f g:Nat→Rat),(∀ i,i≤n→f i=g i)→fE a b n f=fE a b n g
 | 0,f,g,h=>h 0 (Nat.le_refl _)
 | n+1,f,g,h=>rN a b n _ _ fun i hi=>by rw [h i (by omega),h (i+1) (by omega)]
theorem Cx (t:Rat):∀ (k:Nat) (q:List Rat),k<q.length→(wT t q.length q).getD k 0=fE (1-t) t k (fun i=>q.getD i 0)
 | 0,q,h=>by
  obtain⟨m,hm⟩:∃ m,q.length=m+1:=⟨q.length-1,by omega⟩
  rw [hm];rfl
 | k+1,q,h=>by
  obtain⟨m,hm⟩:∃ m,q.length=m+1:=⟨q.length-1,by omega⟩
  have hs:(stp t q).length=m:=by rw [eY];omega
  have:=Cx t k (stp t q) (by omega)
  rw [hs] at this
  rw [hm,wT,List.getD_cons_succ,this,fE]
  exact rN _ _ _ _ _ fun i hi=>kF t q i (by omega)
theorem EU {p:List Rat} {t:Rat} (h:0<p.length):uI p t=fE (1-t) t (p.length-1) (fun i=>p.getD i 0):=Cx t _ p (by omega)
theorem Ca {t:Rat} {C M:Nat} (hC:rl (1-t)+rl t+1≤C):∀ (k:Nat) (q:List Rat),q.length=k→(∀ x∈q,(rl x+C)*2 ^ k≤M)→∀ x∈wT t k q,rl x+C≤M
 | 0,q,_,_,x,hx=>by cases hx
 | k+1,q,hq,h,x,hx=>by
  rw [wT,List.mem_cons] at hx
  rcases hx with rfl | hx
  ·exact nj (h _ (bi (by omega)))
  ·exact Ca hC k (stp t q) (by rw [eY];omega) (um hC h) x hx
theorem B8 {t:Rat} {C M:Nat} (hC:rl (1-t)+rl t+1≤C):∀ (k:Nat) (q tl:List Rat),q.length=k→(∀ x∈q,(rl x+C)*2 ^ k≤M)→(∀ x∈tl,rl x+C≤M)→∀ x∈EW t k q tl,rl x+C≤M
 | 0,q,tl,hq,_,h2,x,hx=>by
  obtain rfl:q=[]:=List.eq_nil_of_length_eq_zero hq
  exact h2 x hx
 | k+1,q,tl,hq,h,h2,x,hx=>by
  refine B8 hC k (stp t q) _ (by rw [eY];omega) (um hC h) (fun y hy=>?_) x hx
  rcases List.mem_cons.1 hy with rfl | hy
  ·exact nj (h _ (bi (by omega)))
  ·exact h2 y hy
theorem HS.lo {p:List Rat} {t:Rat} (h:HS p t):∀ x∈CV p t,Go.Lg.rl x≤1073741824:=fun x hx=>by
 obtain⟨cc,h1,h2,h3⟩:=h
 have:=Ca h1 p.length p rfl h3 x hx
 omega
theorem HS.hi {p:List Rat} {t:Rat} (h:HS p t):∀ x∈Gb p t,Go.Lg.rl x≤1073741824:=fun x hx=>by
 obtain⟨cc,h1,h2,h3⟩:=h
 have:=B8 h1 p.length p [] rfl h3 (fun y hy=>by cases hy) x hx
 omega
theorem HS.ev {p:List Rat} {t:Rat} (h:HS p t):Go.Lg.rl (uI p t)≤1073741824:=cY (by decide) h.lo _
def s9 (a b:Rat):Rat:=if b<a then b else a
def mA (a b:Rat):Rat:=if a<b then b else a
def rY (s:Rat × Rat) (t:Rat × Rat):Rat × Rat:=(s9 s.1 t.1,mA s.2 t.2)
def Aa (p:List Rat):Nat→Rat × Rat
 | 0=>(0,0)
 | k+1=>rY (if k=0 then(p.getD k 0,p.getD k 0) else Aa p k) (p.getD k 0,p.getD k 0)
def wI (p:List Rat):Rat × Rat:=Aa p p.length
theorem vx (a:Rat):s9 a a=a:=by unfold s9;split<;>rfl
theorem vG (a:Rat):mA a a=a:=by unfold mA;split<;>rfl
theorem Fa (a b:Rat):s9 a b≤a∧s9 a b≤b∧(s9 a b=a∨s9 a b=b):=by unfold s9;split<;>grind
theorem Fj (a b:Rat):a≤mA a b∧b≤mA a b∧(mA a b=a∨mA a b=b):=by unfold mA;split<;>grind
theorem pS (p:List Rat):∀ k,(∀ i,i<k→(Aa p k).1≤p.getD i 0∧p.getD i 0≤(Aa p k).2)∧(0<k→(∃ i,i<k∧(Aa p k).1=p.getD i 0)∧∃ i,i<k∧(Aa p k).2=p.getD i 0)
 | 0=>⟨fun i h=>by omega,fun h=>by omega⟩
 | k+1=>by
  obtain⟨h1,h2⟩:=pS p k
  rw [Aa]
  by_cases hk:k=0
  ·subst hk
   rw [if_pos rfl]
   simp only [rY,vx,vG]
   refine⟨fun i hi=>?_,fun _=>⟨⟨0,by omega,rfl⟩,⟨0,by omega,rfl⟩⟩⟩
   obtain rfl:i=0:=by omega
   exact⟨Rat.le_refl,Rat.le_refl⟩
  ·rw [if_neg hk]
   obtain⟨⟨i,hi,ei⟩,⟨j,hj,ej⟩⟩:=h2 (by omega)
   have a:=Fa (Aa p k).1 (p.getD k 0)
   have b:=Fj (Aa p k).2 (p.getD k 0)
   simp only [rY]
   refine⟨fun x hx=>?_,fun _=>⟨?_,?_⟩⟩
   ·by_cases hxk:x=k
    ·subst hxk;exact⟨a.2.1,b.2.1⟩
    ·have:=h1 x (by omega)
     exact⟨Rat.le_trans a.1 this.1,Rat.le_trans this.2 b.1⟩
   ·rcases a.2.2 with e | e
    ·exact⟨i,by omega,by rw [e,ei]⟩
    ·exact⟨k,by omega,e⟩
   ·rcases b.2.2 with e | e
    ·exact⟨j,by omega,by rw [e,ej]⟩
    ·exact⟨k,by omega,e⟩
theorem pT {a b:Rat}:gJ a b≤0↔a≤b:=by
 unfold gJ;split
 ·rename_i h;exact⟨fun _=>Rat.le_of_lt h,fun _=>by decide⟩
 ·split
  ·rename_i h;exact⟨fun e=>absurd e (by decide),fun e=>absurd h (Rat.not_lt.2 e)⟩
  ·rename_i h;exact⟨fun _=>Rat.not_lt.1 h,fun _=>by decide⟩
def mg (s:Rat × Rat) (x:Rat):Bool:=decide (s.1≤x) && decide (x≤s.2)
theorem Hg {s:Rat × Rat} {x:Rat} (h:decide (gJ s.1 x≤0)=true):decide (gJ x s.2≤0)=mg s x:=by
 unfold mg
 rw [decide_eq_true (pT.1 (of_decide_eq_true h)),Bool.true_and,decide_eq_decide,pT]
theorem GG {s:Rat × Rat} {x:Rat} (h:decide (gJ s.1 x≤0)=false):false=mg s x:=by
 unfold mg
 rw [decide_eq_false (fun e=>of_decide_eq_false h (pT.2 e)),Bool.false_and]
theorem C2 {m M a b x y:Rat} (ha:0≤a) (hb:0≤b) (hab:a+b=1) (hx:m≤x∧x≤M) (hy:m≤y∧y≤M):m≤a*x+b*y∧a*x+b*y≤M:=by
 have h1:=Rat.mul_nonneg ha (show 0≤x-m by grind)
 have h2:=Rat.mul_nonneg hb (show 0≤y-m by grind)
 have h3:=Rat.mul_nonneg ha (show 0≤M-x by grind)
 have h4:=Rat.mul_nonneg hb (show 0≤M-y by grind)
 have e1:b=1-a:=by grind
 subst e1
 constructor<;>grind
def C0 (m M:Rat) (l:List Rat):Prop:=∀ i,i<l.length→m≤l.getD i 0∧l.getD i 0≤M
theorem AT {t m M:Rat} (h0:0≤t) (h1:t≤1) {p:List Rat} (h:C0 m M p):C0 m M (stp t p):=fun i hi=>by
 rw [eY] at hi
 rw [kF t p i (by omega)]
 exact C2 (by grind) h0 (by grind) (h i (by omega)) (h (i+1) (by omega))
theorem yk {m M x:Rat} {l:List Rat} (hx:m≤x∧x≤M) (h:C0 m M l):C0 m M (x :: l)
 | 0,_=>hx
 | i+1,hi=>h i (by simpa using hi)
theorem z6 {t m M:Rat} (h0:0≤t) (h1:t≤1):∀ (k:Nat) (p:List Rat),p.length=k→C0 m M p→C0 m M (wT t k p)
 | 0,_,_,_=>fun i hi=>by simp [wT] at hi
 | k+1,p,hp,h=>yk (h 0 (by omega)) (z6 h0 h1 k (stp t p) (by rw [eY];omega) (AT h0 h1 h))
theorem A4 (p:List Rat):C0 (wI p).1 (wI p).2 p:=fun i hi=>(pS p p.length).1 i hi
theorem Ah {p:List Rat} {x:Rat} (h:(wI p).1≤x∧x≤(wI p).2):mg (wI p) x=true:=by
 unfold mg;rw [decide_eq_true h.1,decide_eq_true h.2];rfl
theorem D4 {p:List Rat} {t:Rat} (h0:0≤t) (h1:t≤1) (h:0<p.length):mg (wI p) (uI p t)=true :=
 Ah (z6 h0 h1 _ p rfl (A4 p) _ (by rw [qR];omega))
open H0 in
theorem B0 (a b:Rat) (h:rl a+rl b≤549755813888):ap Tryz.prog 182 [ratL a,ratL b] (spL (s9 a b,mA a b)):=by
 refine bS Tryz.func182 ?_
 refine cx ?_
 refine au 7 (by decide +kernel) ?_
 refine bG ?_
 refine cp bf (xK _ _ (by omega)) ?_
 refine bG ?_
 refine cp bf (tA _ _ (by omega)) ?_
 refine ca ?_
 exact b9 [] rfl rfl rfl (fb.csize _) (f6 _) Ad (.pure (fb.pure _))
namespace LM
theorem bQ {p q:Prop} (k:q) (e:p=q:=by simp only [e1,e2,e3,e4,p1,p2,p3,q1,q2,q3,l1,t0,t1,r1,r2,r3,r4,Nat.zero_add,Nat.reduceMul,Nat.reduceAdd,b1,b2,b3,b4,b5,b6,i1,i2,i3,i4,i5,i6,Nat.reduceBEq,vx,vG];exact rfl):p:=e.mpr k
end LM
open LM in
theorem iw (a:Rat) (h:rl a+rl a≤549755813888):ap Tryz.prog 109 [ratL a] (spL (a,a)):=by
 refine bS Tryz.func109 ?_
 refine bv ?_
 refine cp bf (B0 _ _ (by omega)) ?_
 refine bw ?_
 exact b9 [] rfl rfl rfl (fb.csize _) (f6 _) Ad (.pure (fb.pure _))
open H0 in
theorem qM (s t:Rat × Rat) (h1:rl s.1+rl t.1≤549755813888) (h2:rl s.2+rl t.2≤549755813888):ap Tryz.prog 171 [spL s,spL t] (spL (rY s t)):=by
 refine bS Tryz.func171 ?_
 refine cx ?_
 refine au 11 (by decide +kernel) ?_
 refine bw ?_
 refine cp bf (xK _ _ (by omega)) ?_
 refine bw ?_
 refine cp bf (tA _ _ (by omega)) ?_
 refine ca ?_
 exact b9 [] rfl rfl rfl (fb.csize _) (f6 _) Ad (.pure (fb.pure _))
open H0 in
theorem D2 (a b:Rat) (h:rl a+rl b≤34359738368):ap Tryz.prog 236 [ratL a,ratL b] (ratL (s9 a b)):=by
 refine bS Tryz.func236 ?_
 refine bE ?_
 refine cp bf (qx _ _ (by omega)) ?_
 refine bx ?_
 refine an rfl (fun h8r h8=>?_) (fun h8r h8=>?_)
 ·have hE:s9 a b=b:=if_pos (k5.1 h8)
  refine cx ?_
  rw [hE]
  exact b9 [] rfl rfl rfl (ah.csize _) (am _) bF (.pure (ah.pure _))
 ·have hE:s9 a b=a:=if_neg (fun e=>h8 (k5.2 e))
  refine cg ?_
  rw [hE]
  exact b9 [] rfl rfl rfl (ah.csize _) (am _) bF (.pure (ah.pure _))
open H0 in
theorem w8 (a b:Rat) (h:rl a+rl b≤34359738368):ap Tryz.prog 86 [ratL a,ratL b] (ratL (mA a b)):=by
 refine bS Tryz.func86 ?_
 refine bE ?_
 refine cp bf (qx _ _ (by omega)) ?_
 refine bx ?_
 refine an rfl (fun h8r h8=>?_) (fun h8r h8=>?_)
 ·have hE:mA a b=b:=if_pos (lc.1 h8)
  refine cx ?_
  rw [hE]
  exact b9 [] rfl rfl rfl (ah.csize _) (am _) bF (.pure (ah.pure _))
 ·have hE:mA a b=a:=if_neg (fun e=>h8 (lc.2 e))
  refine cg ?_
  rw [hE]
  exact b9 [] rfl rfl rfl (ah.csize _) (am _) bF (.pure (ah.pure _))
open H0 in
theorem iB (a:Rat):ap Tryz.prog 174 [ratL a] (spL (a,a)):=by
 refine bS Tryz.func174 ?_
 refine en ?_
 exact b9 [] rfl rfl rfl (fb.csize _) (f6 _) Ad (.pure (fb.pure _))
open H0 in
theorem qe (s t:Rat × Rat) (h1:rl s.1+rl t.1≤34359738368) (h2:rl s.2+rl t.2≤34359738368):ap Tryz.prog 173 [spL s,spL t] (spL (rY s t)):=by
 refine bS Tryz.func173 ?_
 refine cx ?_
 refine au 11 (by decide +kernel) ?_
 refine bw ?_
 refine cp bf (D2 _ _ (by omega)) ?_
 refine bw ?_
 refine cp bf (w8 _ _ (by omega)) ?_
 refine ca ?_
 exact b9 [] rfl rfl rfl (fb.csize _) (f6 _) Ad (.pure (fb.pure _))
open H0 in
theorem lE (s:Rat × Rat) (h1:rl s.1≤17179869184) (h2:rl s.2≤17179869184):ap Tryz.prog 91 [spL s,spL s] (bL true):=by
 refine bS Tryz.func91 ?_
 refine ct ?_
 refine cp bf (fc _ _ (by omega)) ?_
 refine aL ?_
 refine ab (ao (v:=true) rfl rfl ((decide_eq_true rfl)) rfl) gI ?_
 refine ab (ao (v:=true) rfl rfl ((decide_eq_true rfl)) rfl) fS ?_
 refine ab (ao (v:=true) rfl rfl ((decide_eq_true rfl)) rfl) gI ?_
 refine ab (ao (v:=true) rfl rfl ((decide_eq_true rfl)) rfl) fS ?_
 refine ci (ao (v:=true) rfl rfl ((decide_eq_true rfl)) rfl) (.cons fR (.cons fR .nil)) (fc _ _ (by omega)) ?_
 refine ab rfl (.pickT rfl ((decide_eq_true rfl))) ?_
 refine bw ?_
 exact aS (x:=bL true) rfl (.pure rfl)
def Ir (p q:V3):V3:=⟨p.x+q.x,p.y+q.y,p.z+q.z⟩
def jz (p q:V3):V3:=⟨p.x-q.x,p.y-q.y,p.z-q.z⟩
def FH (r:Rat) (p:V3):V3:=⟨r*p.x,r*p.y,r*p.z⟩
def cZ (p q:V3):Rat:=0+p.x*q.x+p.y*q.y+p.z*q.z
def eN (R:Nat) (p:V3):Prop:=rl p.x≤R∧rl p.y≤R∧rl p.z≤R
theorem eN.le {R S:Nat} {p:V3} (h:eN R p) (hRS:R≤S):eN S p:=⟨Nat.le_trans h.1 hRS,Nat.le_trans h.2.1 hRS,Nat.le_trans h.2.2 hRS⟩
theorem ij {R:Nat} {p q:V3} (hp:eN R p) (hq:eN R q):eN (2*R+1) (jz p q):=by
 have h1:=fo p.x q.x
 have h2:=fo p.y q.y
 have h3:=fo p.z q.z
 obtain⟨a1,a2,a3⟩:=hp
 obtain⟨b1,b2,b3⟩:=hq
 exact⟨by show rl (p.x-q.x)≤_;omega,by show rl (p.y-q.y)≤_;omega,by show rl (p.z-q.z)≤_;omega⟩
theorem kz {R S:Nat} {p q:V3} (hp:eN R p) (hq:eN S q):rl (cZ p q)≤3*(R+S)+4:=by
 obtain⟨a1,a2,a3⟩:=hp
 obtain⟨b1,b2,b3⟩:=hq
 have h1:=bA p.x q.x
 have h2:=bA p.y q.y
 have h3:=bA p.z q.z
 have h4:=dF 0 (p.x*q.x)
 have h5:=dF (0+p.x*q.x) (p.y*q.y)
 have h6:=dF (0+p.x*q.x+p.y*q.y) (p.z*q.z)
 have h0:rl 0=1:=rfl
 unfold cZ
 omega
def w9 (a b p:V3):Rat :=
 if cZ (jz p a) (jz b a)≤0 then cZ (jz p a) (jz p a)
 else if cZ (jz b a) (jz b a)≤cZ (jz p a) (jz b a) then cZ (jz p b) (jz p b)
 else cZ (jz p (Ir a (FH (cZ (jz p a) (jz b a)/cZ (jz b a) (jz b a)) (jz b a)))) (jz p (Ir a (FH (cZ (jz p a) (jz b a)/cZ (jz b a) (jz b a)) (jz b a))))
def jN (R:Nat) (q:PoR):Prop:=eN R q.p∧rl q.w≤R∧0<q.w
theorem aN (q:V3) (b:Nat):(cQ q).kill b=cQ q:=LV.kill_pure b _ (cT.pure q)
theorem aM (q:PoR) (b:Nat):(dX q).kill b=dX q:=LV.kill_pure b _ (cA.pure q)
namespace Mi
theorem bQ {p q:Prop} (k:q) (e:p=q:=by simp only [e1,e2,e3,e4,p1,p2,p3,q1,q2,q3,l1,t0,t1,r1,r2,r3,r4,Nat.zero_add,Nat.reduceMul,Nat.reduceAdd,b1,b2,b3,b4,b5,b6,i1,i2,i3,i4,i5,i6,Nat.reduceBEq,dq];exact rfl):p:=e.mpr k
end Mi
open Mi in
theorem DW (f:Nat) (g:Rat→Rat→Rat) (p q:V3) (h1:ap Tryz.prog f [ratL p.x,ratL q.x] (ratL (g p.x q.x))) (h2:ap Tryz.prog f [ratL p.y,ratL q.y] (ratL (g p.y q.y))) (h3:ap Tryz.prog f [ratL p.z,ratL q.z] (ratL (g p.z q.z))):ap Tryz.prog 215 [cQ p,cQ q,.clo f []] (cQ ⟨g p.x q.x,g p.y q.y,g p.z q.z⟩):=by
 refine bS Tryz.func215 (ht:=(fun r=>LV.ren_pure r _ (cT.pure _))) ?_
 refine ia ?_
 refine aA ?_
 refine bJ ?_
 refine aR (b:=_) rfl (by decide) ?_
 refine bv ?_
 refine au 10 (by decide +kernel) ?_
 refine cx ?_
 refine cI [] rfl rfl (.clo (f:=f) (cap:=[]) (args:=[ratL p.x,ratL q.x]) rfl (.cons fR (.cons fR .nil)) ⟨rfl,fun _ h=>by cases h⟩ h1.1 (by decide) (fun _ h=>by cases h)) (h1.2 _) ?_
 refine bv ?_
 refine aA ?_
 refine bJ ?_
 refine aR (b:=_) rfl (by decide) ?_
 refine bv ?_
 refine au 10 (by decide +kernel) ?_
 refine cx ?_
 refine cI [] rfl rfl (.clo (f:=f) (cap:=[]) (args:=[ratL p.y,ratL q.y]) rfl (.cons fR (.cons fR .nil)) ⟨rfl,fun _ h=>by cases h⟩ h2.1 (by decide) (fun _ h=>by cases h)) (h2.2 _) ?_
 refine bv ?_
 refine aA ?_
 refine bJ ?_
 refine aR (b:=_) rfl (by decide) ?_
 refine bv ?_
 refine au 10 (by decide +kernel) ?_
 refine cx ?_
 refine cI [] rfl rfl (.clo (f:=f) (cap:=[]) (args:=[ratL p.z,ratL q.z]) rfl (.cons fR (.cons fR .nil)) ⟨rfl,fun _ h=>by cases h⟩ h3.1 (by decide) (fun _ h=>by cases h)) (h3.2 _) ?_
 refine bv ?_
 refine aA ?_
 refine bJ ?_
 refine bb (b:=_) rfl (by decide) ?_
 refine bE ?_
 exact b9 [] rfl rfl rfl cs (bX cs rfl) lq (.pure pu)
open H0 in
theorem qn (p q:V3) (R:Nat) (hR:R≤100000000000) (hp:eN R p) (hq:eN R q):ap Tryz.prog 149 [cQ p,cQ q] (cQ (jz p q)):=by
 obtain⟨a1,a2,a3⟩:=hp
 obtain⟨b1,b2,b3⟩:=hq
 refine bS Tryz.func149 (ht:=(fun r=>LV.ren_pure r _ (cT.pure _))) ?_
 refine bD ?_
 refine cp jt (DW 82 (·-·) p q (gg _ _ (by omega)) (gg _ _ (by omega)) (gg _ _ (by omega))) ?_
 refine bw ?_
 exact b9 [] rfl rfl rfl cs (bX cs rfl) lq (.pure pu)
open H0 in
theorem tm (p q:V3) (R:Nat) (hR:R≤1000000000) (hp:eN R p) (hq:eN R q):ap Tryz.prog 83 [cQ p,cQ q] (ratL (cZ p q)):=by
 obtain⟨a1,a2,a3⟩:=hp
 obtain⟨b1,b2,b3⟩:=hq
 have m1:=bA p.x q.x
 have m2:=bA p.y q.y
 have m3:=bA p.z q.z
 have s1:=dF 0 (p.x*q.x)
 have s2:=dF (0+p.x*q.x) (p.y*q.y)
 have hz0:rl 0=1:=rfl
 refine bS Tryz.func83 ?_
 refine ia ?_
 refine aA ?_
 refine bJ ?_
 refine aR (b:=_) rfl (by decide) ?_
 refine bv ?_
 refine au 9 (by decide +kernel) ?_
 refine bV ?_
 refine cp bf (dc p.x q.x (by omega)) ?_
 refine cp bf (gh 0 (p.x*q.x) (by omega)) ?_
 refine cg ?_
 refine aA ?_
 refine bJ ?_
 refine aR (b:=_) rfl (by decide) ?_
 refine bv ?_
 refine au 9 (by decide +kernel) ?_
 refine bV ?_
 refine cp bf (dc p.y q.y (by omega)) ?_
 refine cp bf (gh (0+p.x*q.x) (p.y*q.y) (by omega)) ?_
 refine cg ?_
 refine aA ?_
 refine bJ ?_
 refine aR (b:=_) rfl (by decide) ?_
 refine bv ?_
 refine au 9 (by decide +kernel) ?_
 refine bV ?_
 refine cp bf (dc p.z q.z (by omega)) ?_
 refine cp bf (gh (0+p.x*q.x+p.y*q.y) (p.z*q.z) (by omega)) ?_
 refine cg ?_
 refine aA ?_
 refine bJ ?_
 refine bb (b:=_) rfl (by decide) ?_
 refine bE ?_
 exact b9 [] rfl rfl rfl (ah.csize _) (am _) bF (.pure (ah.pure _))
open H0 in
theorem tf (p q:V3) (R:Nat) (hR:R≤1000000000) (hp:eN R p) (hq:eN R q):ap Tryz.prog 47 [cQ p,cQ q] (ratL (cZ p q)):=by
 obtain⟨a1,a2,a3⟩:=hp
 obtain⟨b1,b2,b3⟩:=hq
 have m1:=bA p.x q.x
 have m2:=bA p.y q.y
 have m3:=bA p.z q.z
 have s1:=dF 0 (p.x*q.x)
 have s2:=dF (0+p.x*q.x) (p.y*q.y)
 have hz0:rl 0=1:=rfl
 refine bS Tryz.func47 ?_
 refine ia ?_
 refine aA ?_
 refine bV ?_
 refine aR (b:=_) rfl (by decide) ?_
 refine bw ?_
 refine au 9 (by decide +kernel) ?_
 refine bV ?_
 refine cp bf (dA p.x q.x (by omega)) ?_
 refine cp bf (eX 0 (p.x*q.x) (by omega)) ?_
 refine bv ?_
 refine aA ?_
 refine bV ?_
 refine aR (b:=_) rfl (by decide) ?_
 refine bw ?_
 refine au 9 (by decide +kernel) ?_
 refine bV ?_
 refine cp bf (dA p.y q.y (by omega)) ?_
 refine cp bf (eX (0+p.x*q.x) (p.y*q.y) (by omega)) ?_
 refine bv ?_
 refine aA ?_
 refine bV ?_
 refine aR (b:=_) rfl (by decide) ?_
 refine bw ?_
 refine au 9 (by decide +kernel) ?_
 refine bV ?_
 refine cp bf (dA p.z q.z (by omega)) ?_
 refine cp bf (eX (0+p.x*q.x+p.y*q.y) (p.z*q.z) (by omega)) ?_
 refine bv ?_
 refine aA ?_
 refine bV ?_
 refine bb (b:=_) rfl (by decide) ?_
 refine bE ?_
 exact b9 [] rfl rfl rfl (ah.csize _) (am _) bF (.pure (ah.pure _))
open H0 in
theorem mz (p q:V3) (R:Nat) (hR:R≤1000000000) (hp:eN R p) (hq:eN R q):ap Tryz.prog 118 [cQ p,cQ q] (cQ (jz p q)):=by
 obtain⟨a1,a2,a3⟩:=hp
 obtain⟨b1,b2,b3⟩:=hq
 refine bS Tryz.func118 (ht:=(fun r=>LV.ren_pure r _ (cT.pure _))) ?_
 refine dI ?_
 refine aA ?_
 refine bV ?_
 refine aR (b:=_) rfl (by decide) ?_
 refine bw ?_
 refine au 9 (by decide +kernel) ?_
 refine bV ?_
 refine cp bf (iU p.x q.x (by omega)) ?_
 refine bD ?_
 refine aA ?_
 refine bV ?_
 refine aR (b:=_) rfl (by decide) ?_
 refine bw ?_
 refine au 9 (by decide +kernel) ?_
 refine bV ?_
 refine cp bf (iU p.y q.y (by omega)) ?_
 refine bD ?_
 refine aA ?_
 refine bV ?_
 refine aR (b:=_) rfl (by decide) ?_
 refine bw ?_
 refine au 9 (by decide +kernel) ?_
 refine bV ?_
 refine cp bf (iU p.z q.z (by omega)) ?_
 refine bD ?_
 refine aA ?_
 refine bV ?_
 refine bb (b:=_) rfl (by decide) ?_
 refine bE ?_
 exact b9 [] rfl rfl rfl cs (bX cs rfl) lq (.pure pu)
open H0 in
theorem wG (r:Rat) (p:V3) (R:Nat) (hR:R≤1000000000) (hr:rl r≤R) (hp:eN R p):ap Tryz.prog 148 [ratL r,cQ p] (cQ (FH r p)):=by
 obtain⟨a1,a2,a3⟩:=hp
 refine bS Tryz.func148 (ht:=(fun r=>LV.ren_pure r _ (cT.pure _))) ?_
 refine dI ?_
 refine aA ?_
 refine bV ?_
 refine aR (b:=_) rfl (by decide) ?_
 refine bw ?_
 refine au 7 (by decide +kernel) ?_
 refine ca ?_
 refine cp bf (dA r p.x (by omega)) ?_
 refine bD ?_
 refine aA ?_
 refine bV ?_
 refine aR (b:=_) rfl (by decide) ?_
 refine bw ?_
 refine au 7 (by decide +kernel) ?_
 refine ca ?_
 refine cp bf (dA r p.y (by omega)) ?_
 refine bD ?_
 refine aA ?_
 refine bV ?_
 refine aR (b:=_) rfl (by decide) ?_
 refine bw ?_
 refine au 7 (by decide +kernel) ?_
 refine ca ?_
 refine cp bf (dA r p.z (by omega)) ?_
 refine bD ?_
 refine aA ?_
 refine bV ?_
 refine bb (b:=_) rfl (by decide) ?_
 refine bE ?_
 exact b9 [] rfl rfl rfl cs (bX cs rfl) lq (.pure pu)
theorem vc {a b:Rat}:0≤gJ a b↔b≤a:=by
 unfold gJ
 constructor
 ·intro h
  split at h
  ·exact absurd h (by decide)
  ·grind
 ·intro h
  split
  ·exfalso;grind
  ·split<;>decide
end Go.Proofs.YtfpdccbgngdhkaaGreat
namespace Go.Lg
theorem v4 {P:Program} {f:FuncId} {args:List LV} {sz n:Nat} {vals:List LV} {mt:Bool} (h:dB P f args (.ref 1 sz 0 n) [⟨sz,vals,mt⟩]) (hp:aD vals=true) (hn:vals.length=n):ap P f args (.list sz vals):=by
 refine⟨⟨h.1,fun W Z0 vs hz hr=>Calls.mono (h.2 W Z0 vs hz hr) (fun e w'=>?_)⟩,fun g=>LV.ren_pure g _ (by simp [LV.pure,hp])⟩
 rintro⟨v,μ,Z,he,hc,hv⟩
 have hle:bI.le (cE [⟨sz,vals,mt⟩]) (cE [⟨sz,vals,false⟩]):=fun b blk hb=>by
  unfold cE at hb ⊢
  by_cases h0:b=0
  ·rw [if_pos h0] at hb;cases hb
  ·rw [if_neg h0] at hb
   rcases Nat.lt_or_ge (b-1) 1 with h1 | h1
   ·have e:b-1=0:=by omega
    rw [e] at hb
    simp only [List.getElem?_cons_zero,Option.some.injEq] at hb
    subst hb
    exact⟨false,by rw [if_neg h0,e];rfl,fun _=>rfl,fun _ _=>h0⟩
   ·rw [List.getElem?_eq_none (by simpa using h1)] at hb;cases hb
 obtain⟨Z1,k1,k2⟩:=hc.widen hle
 have hfr:Frame Z μ w' w':=⟨fun _ _=>rfl,fun _ id _ c _ _ hh=>⟨c,hh,rfl⟩⟩
 have hv1:=hv.mono k2 (fun _ _ h=>h) hfr
 have hi:Imm (cE [⟨sz,vals,false⟩]) (.ref 1 sz 0 n) (.list sz vals):=by
  have:=Imm.ref (H:=cE [⟨sz,vals,false⟩]) (b:=1) (off:=0) (len:=n) (blk:=⟨sz,vals,false⟩) rfl rfl hp (by simp [hn]) rfl
  simpa [←hn] using this
 refine⟨v,ec μ 1,Z1,he,?_,be.of1 (fun l h=>by cases h) (hi.soundV k1 hv1)⟩
 have kk:=Core.kill (L:=⟨fun _=>.any,cE [⟨sz,vals,false⟩]⟩) 1 (by decide) k1
 refine kk.reheap fun b id hb=>?_
 have hb1:b≠1:=fun e=>by rw [e] at hb;simp [ec] at hb
 have hb2:μ b=some id:=by unfold ec at hb;split at hb<;>first | exact hb | cases hb
 obtain⟨blk,g1,_⟩:=k1.heap b id hb2
 unfold cE at g1
 split at g1
 ·cases g1
 ·rw [List.getElem?_eq_none (by simp;omega)] at g1;cases g1
end Go.Lg
namespace Go.Proofs.YtfpdccbgngdhkaaGreat
open Go.Lg
theorem ww (p:List Rat) (hl:p.length≤1048576) (hpr:∀ x∈p,rl x≤274877906944):ap Tryz.prog 257 [.list 3 (p.map ratL)] (.list 3 (p.map ratL)) :=
 v4 (pF p hl hpr) (al ah _) (by simp)
def rW (p:List Rat) (i:Nat):Rat:=(if 0<i then((i:Int):Rat)/((p.length:Int):Rat)*p.getD (i-1) 0 else 0)+(if i<p.length then(((p.length:Int)-(i:Int):Int):Rat)/((p.length:Int):Rat)*p.getD i 0 else 0)
def mc (p:List Rat):List Rat:=(List.range (p.length+1)).map (rW p)
def Cq:Nat→List Rat→List Rat
 | 0,p=>p
 | k+1,p=>Cq k (mc p)
def uk (p:List Rat) (n:Nat):List Rat:=Cq (n+1-p.length) p
theorem dJ (p:List Rat):(mc p).length=p.length+1:=by simp [mc]
theorem nD {p:List Rat} {i:Nat} (h:i<p.length+1):(mc p).getD i 0=rW p i:=by
 rw [List.getD_eq_getElem?_getD,List.getElem?_eq_getElem (by rw [dJ];exact h)];simp [mc]
theorem uZ:∀ (k:Nat) (p:List Rat),(Cq k p).length=p.length+k
 | 0,p=>rfl
 | k+1,p=>by rw [Cq,uZ k,dJ];omega
theorem qP {p:List Rat} {n:Nat} (h:p.length≤n+1):(uk p n).length=n+1:=by rw [uk,uZ];omega
theorem Bl {p:List Rat} {i:Nat} (h0:0<i) (h1:i<p.length):rW p i=((i:Int):Rat)/((p.length:Int):Rat)*p.getD (i-1) 0+(((p.length:Int)-(i:Int):Int):Rat)/((p.length:Int):Rat)*p.getD i 0:=by
 rw [rW,if_pos h0,if_pos h1]
theorem BK {p:List Rat} {i:Nat} (h0:0<i) (h1:¬ i<p.length):rW p i=((i:Int):Rat)/((p.length:Int):Rat)*p.getD (i-1) 0:=by
 rw [rW,if_pos h0,if_neg h1,Rat.add_zero]
theorem BM {p:List Rat} {i:Nat} (h0:¬ 0<i) (h1:i<p.length):rW p i=(((p.length:Int)-(i:Int):Int):Rat)/((p.length:Int):Rat)*p.getD i 0:=by
 rw [rW,if_neg h0,if_pos h1,Rat.zero_add]
def we (p:List Rat) (n:Nat):Prop:=(∀ x∈p,rl x≤1073741824)∧∀ k,p.length+k≤n+1→∀ x∈Cq k p,rl x≤1073741824
theorem tc {p:List Rat} {n:Nat} (h:we p n) (k:Nat):rl (p.getD k 0)≤1073741824:=cY (by decide) h.1 k
theorem yg {p:List Rat} {n:Nat} (hl:p.length≤n) (h:we p n):we (mc p) n:=⟨h.2 1 (by omega),fun k hk=>h.2 (k+1) (by rw [dJ] at hk;omega)⟩
theorem na {p:List Rat} {n:Nat} (h:n+1≤p.length):uk p n=p:=by rw [uk,show n+1-p.length=0 by omega];rfl
theorem yz {p:List Rat} {n:Nat} (h:p.length≤n):Cq (n+1-(mc p).length) (mc p)=Cq (n+1-p.length) p:=by
 rw [show n+1-p.length=(n+1-(mc p).length)+1 by rw [dJ];omega];rfl
def nT (g:Rat→Rat→Rat) (a b:List Rat):List Rat:=(List.range a.length).map fun i=>g (a.getD i 0) (b.getD i 0)
theorem rS (g:Rat→Rat→Rat) (a b:List Rat):(nT g a b).length=a.length:=by simp [nT]
namespace MB
theorem bQ {p q:Prop} (k:q) (e:p=q:=by simp only [e1,e2,e3,e4,p1,p2,p3,q1,q2,q3,l1,t0,t1,r1,r2,r3,r4,Nat.zero_add,Nat.reduceMul,Nat.reduceAdd,b1,b2,b3,b4,b5,b6,i1,i2,i3,i4,i5,i6,Nat.reduceBEq,dU,List.length_set,List.set_set,egs,egz,eim,Rat.zero_add,ae ah,ax,LV.kill,aH];exact rfl):p:=e.mpr k
end MB
open MB in
theorem Ib (p:List Rat) (n:Nat) (hp0:0<p.length) (hn:n≤1000) (hl:p.length≤1001) (hs:we p n):ap Tryz.prog 281 [.list 3 (p.map ratL),ai n] (.list 3 ((uk p n).map ratL)):=by
 refine bS Tryz.func281 ?_
 have egs:True:=trivial
 have egz:True:=trivial
 have eim:True:=trivial
 refine cx ?_
 refine cp bK (ww p (by omega) (fun x hx=>by have:=tc hs;have h9:=List.getElem_of_mem hx;obtain⟨k,hk,rfl⟩:=h9;have h8:=this k;rw [List.getD_eq_getElem?_getD,List.getElem?_eq_getElem hk] at h8;exact Nat.le_trans h8 (by decide))) ?_
 refine ca ?_
 refine gE (fun(o:List Rat) L=>(((St.mk L.slot (hp [])).put (some 1) (ai n)).put (some 5) (.list 3 (o.map ratL)))) (fun o=>0<o.length∧o.length≤1001∧we o n∧Cq (n+1-o.length) o=uk p n) (fun o=>n+1-o.length) p ⟨hp0,hl,hs,rfl⟩ ?_
 rintro o L1 ⟨ho0,hol,hos,hit⟩
 refine bV ?_
 refine bT 18 rfl (fun h18r h18=>?_) (fun h18r h18=>?_)
 ·refine bV ?_
  refine an rfl (fun h23r h23=>?_) (fun h23r h23=>?_)
  ·have hon:o.length≤n:=by omega
   refine ct ?_
   refine ab rfl (.bin rfl rfl (a9 (by omega))) ?_
   refine bM rfl rfl (.mkE (n:=(o.length+1)) (m:=(o.length+1)) ml ml om om om) ?_
   refine bE ?_
   refine ik (fun(i:Nat) (w:List Rat) L=>((((((((St.mk L.slot (hp [(28,⟨3,w.map ratL,true⟩)])).put (some 1) (ai n)).put (some 5) (.list 3 (o.map ratL))).put (some 6) (ai o.length)).put (some 7) (.ref 28 3 0 (o.length+1))).put (some 29) (.ref 28 3 0 (o.length+1))).put (some 30) (ai (o.length+1))).put (some 31) (ai i))) (fun i w=>i≤o.length+1∧w.length=o.length+1∧w.take i=(mc o).take i∧∀ x,i≤x→w.getD x 0=0) (fun i w=>o.length+1-i) 0 (List.replicate (o.length+1) 0) ⟨Nat.zero_le _,by simp,rfl,fun x _=>by simp [List.getD_eq_getElem?_getD,List.getElem?_replicate];split<;>rfl⟩ ?_
   rintro i w L2 ⟨hi,hwl,hwt,hz⟩
   refine bJ ?_
   refine an rfl (fun h32r h32=>?_) (fun h32r h32=>?_)
   ·have hi2:i<o.length+1:=by omega
    have hf1:=mw (n:=(i:Int)) (d:=(o.length:Int)) (by omega) (by omega)
    have hf2:=mw (n:=(o.length:Int)-(i:Int)) (d:=(o.length:Int)) (by omega) (by omega)
    have hr1:=tc hos (i-1)
    have hr2:=tc hos i
    have hm1:=bA (((i:Int):Rat)/((o.length:Int):Rat)) (o.getD (i-1) 0)
    have hm2:=bA ((((o.length:Int)-(i:Int):Int):Rat)/((o.length:Int):Rat)) (o.getD i 0)
    have egs:=fun v=>pU (o:=w) (i:=i) (v:=v) (by omega)
    have egz:=hz i (Nat.le_refl _)
    have eim:((i:Int)-1).toNat=i-1:=by omega
    have hr0:rl 0=1:=rfl
    refine iP ?_
    refine an rfl (fun h35r h35=>?_) (fun h35r h35=>?_)
    ·have hi0:0<i:=by omega
     refine bw ?_
     refine cp bf (qc (i:Int) (o.length:Int) (by omega) (by omega) (by omega) (by omega) (by omega)) ?_
     refine cx ?_
     refine au 10 (by decide +kernel) ?_
     refine cx ?_
     try simp only [t1,dU,eim]
     refine cp bf (dc _ _ (by omega)) ?_
     refine bE ?_
     refine an rfl (fun h55r h55=>?_) (fun h55r h55=>?_)
     ·have hi1:i<o.length:=by omega
      refine bw ?_
      refine ab rfl (.bin rfl rfl (eo (by omega) (by omega))) ?_
      refine aL ?_
      refine cp bf (qc ((o.length:Int)-(i:Int)) (o.length:Int) (by omega) (by omega) (by omega) (by omega) (by omega)) ?_
      refine cx ?_
      refine au 14 (by decide +kernel) ?_
      refine bD ?_
      try simp only [t1,dU]
      refine cp bf (dc _ _ (by omega)) ?_
      try simp only [t1,dU,Nat.zero_add,egs,egz]
      refine cp bf (gh _ _ (by omega)) ?_
      refine ca ?_
      refine aY ((aP.kill _ 9).trans (aP.kill _ 11)) ?_
      refine bw ?_
      exact gk (i+1) (w.set i (((i:Int):Rat)/((o.length:Int):Rat)*o.getD (i-1) 0+(((o.length:Int)-(i:Int):Int):Rat)/((o.length:Int):Rat)*o.getD i 0)) ⟨by omega,by simp [hwl],jV (by rw [dJ];omega) (by rw [dJ];omega) hwt (by rw [nD (by omega),Bl hi0 hi1]),fun x hx=>by rw [jn _ _ _ _ (by omega),if_neg (by omega)];exact hz x (by omega)⟩
     ·have hi1:¬ i<o.length:=by omega
      refine bx ?_
      refine aY ((aP.kill _ 9).trans (aP.kill _ 11)) ?_
      refine bw ?_
      exact gk (i+1) (w.set i (((i:Int):Rat)/((o.length:Int):Rat)*o.getD (i-1) 0)) ⟨by omega,by simp [hwl],jV (by rw [dJ];omega) (by rw [dJ];omega) hwt (by rw [nD (by omega),BK hi0 hi1]),fun x hx=>by rw [jn _ _ _ _ (by omega),if_neg (by omega)];exact hz x (by omega)⟩
    ·have hi0:¬ 0<i:=by omega
     refine bv ?_
     refine an rfl (fun h55r h55=>?_) (fun h55r h55=>?_)
     ·have hi1:i<o.length:=by omega
      refine bw ?_
      refine ab rfl (.bin rfl rfl (eo (by omega) (by omega))) ?_
      refine aL ?_
      refine cp bf (qc ((o.length:Int)-(i:Int)) (o.length:Int) (by omega) (by omega) (by omega) (by omega) (by omega)) ?_
      refine cx ?_
      refine au 14 (by decide +kernel) ?_
      refine bD ?_
      try simp only [t1,dU]
      refine cp bf (dc _ _ (by omega)) ?_
      try simp only [t1,dU,Nat.zero_add,egs,egz]
      refine cp bf (gh _ _ (by omega)) ?_
      refine ca ?_
      refine aY ((aP.kill _ 9).trans (aP.kill _ 11)) ?_
      refine bw ?_
      exact gk (i+1) (w.set i ((((o.length:Int)-(i:Int):Int):Rat)/((o.length:Int):Rat)*o.getD i 0)) ⟨by omega,by simp [hwl],jV (by rw [dJ];omega) (by rw [dJ];omega) hwt (by rw [nD (by omega),BM hi0 hi1]),fun x hx=>by rw [jn _ _ _ _ (by omega),if_neg (by omega)];exact hz x (by omega)⟩
     ·have hi1:¬ i<o.length:=by omega
      refine bx ?_
      refine aY ((aP.kill _ 9).trans (aP.kill _ 11)) ?_
      refine bw ?_
      exact gk (i+1) w (False.elim (by omega))
   ·obtain rfl:i=o.length+1:=by omega
    have hE:w=mc o:=by
     rw [List.take_of_length_le (by omega),List.take_of_length_le (by rw [dJ];omega)] at hwt
     exact hwt
    subst hE
    refine ca ?_
    refine aY ((aP.imm (t:=7) [28] rfl rfl (bg ah rfl rfl (by rw [dJ]))).trans (aP.kill _ 28)) ?_
    refine ca ?_
    exact fA (mc o) ⟨by rw [dJ];omega,by rw [dJ];omega,yg (by omega) hos,by rw [yz (by omega)];exact hit⟩ (hm:=by rw [dJ];omega)
  ·refine bE ?_
   have hE:uk p n=o:=by rw [←hit,show n+1-o.length=0 by omega];rfl
   rw [hE]
   exact aS rfl (by first | exact .pure rfl | exact .pure (aG _) | exact .pure (ar _) | exact .pure (ah.pure _) | exact .pure (ak bB _ _) | exact .pure (ak ah _ _))
 ·refine ib ?_
  have hE:uk p n=o:=by rw [←hit,show n+1-o.length=0 by omega];rfl
  rw [hE]
  exact aS rfl (by first | exact .pure rfl | exact .pure (aG _) | exact .pure (ar _) | exact .pure (ah.pure _) | exact .pure (ak bB _ _) | exact .pure (ak ah _ _))
def cR (n k:Nat):Rat:=((fX n k:Nat):Int)
def sq (p:List Rat) (k:Nat):Rat:=cR (p.length-1) k*p.getD k 0
theorem Fi {p:List Rat} {k:Nat} (h:p.length≤k):sq p k=0:=by unfold sq;rw [Ai h,Rat.mul_zero]
def sm:Nat→(Nat→Rat)→Rat
 | 0,_=>0
 | n+1,f=>sm n f+f n
theorem jh:∀ (n:Nat) (f g:Nat→Rat),(∀ i,i<n→f i=g i)→sm n f=sm n g
 | 0,_,_,_=>rfl
 | n+1,f,g,h=>by rw [sm,sm,jh n f g (fun i hi=>h i (by omega)),h n (by omega)]
theorem yq:∀ (n:Nat) (f g:Nat→Rat),sm n (fun i=>f i+g i)=sm n f+sm n g
 | 0,_,_=>by show (0:Rat)=0+0;grind
 | n+1,f,g=>by rw [sm,sm,sm,yq n];grind
theorem vR (n:Nat) (f:Nat→Rat) (h:∀ i,i<n→f i=0):sm n f=0:=by
 induction n with
 | zero=>rfl
 | succ n ih=>rw [sm,ih (fun i hi=>h i (by omega)),h n (by omega)];exact Rat.add_zero 0
theorem up (n:Nat) (f:Nat→Rat) (h:∀ i,n≤i→f i=0):∀ m,sm (n+m) f=sm n f
 | 0=>rfl
 | m+1=>by rw [←Nat.add_assoc,sm,up n f h m,h _ (by omega)];grind
def cf (f g:Nat→Rat) (k:Nat):Rat:=sm (k+1) fun i=>f i*g (k-i)
theorem zx {x y:Rat} (hx:0<x) (h:x≤y):0<1/y∧1/y≤1/x:=by
 have hy:0<y:=by grind
 have e1:1/x*x=1:=by grind
 have e2:1/y*y=1:=by grind
 have r0:0<1/x:=by rw [Rat.div_def,Rat.one_mul];exact Rat.inv_pos.2 hx
 have s0:0<1/y:=by rw [Rat.div_def,Rat.one_mul];exact Rat.inv_pos.2 hy
 revert e1 e2 r0 s0
 generalize 1/x=r
 generalize 1/y=s
 intro e1 e2 r0 s0
 refine⟨s0,?_⟩
 have h1:=Rat.mul_le_mul_of_nonneg_left h (Rat.le_of_lt (Rat.mul_pos s0 r0))
 have e3:s*r*x=s:=by rw [Rat.mul_assoc,e1,Rat.mul_one]
 have e4:s*r*y=r:=by rw [Rat.mul_comm s r,Rat.mul_assoc,e2,Rat.mul_one]
 rwa [e3,e4] at h1
open H0 in
theorem DH (p:List Rat) (n:Nat) (hp0:0<p.length) (hn:n≤40) (hpn:p.length≤n+1) (hps:we p n):ap Tryz.prog 277 [.list 3 (p.map ratL),ai n] (.tup [.list 3 ((uk p n).map ratL),iL 0]):=by
 refine bS Tryz.func277 ?_
 refine bE ?_
 refine ab rfl (.bin rfl rfl (eo (by omega) (by omega))) ?_
 refine bG ?_
 refine bT 11 rfl (fun h11r h11=>?_) (fun h11r h11=>?_)
 ·refine dI ?_
  exfalso
  omega
 ·refine ca ?_
  refine an rfl (fun h14r h14=>?_) (fun h14r h14=>?_)
  ·omega
  ·refine bJ ?_
   refine cp bf (Ib p n hp0 (by omega) (by omega) hps) ?_
   refine ca ?_
   exact lr rfl (.pure (ak ah _ _)) rfl (.pure rfl)
end Go.Proofs.YtfpdccbgngdhkaaGreat
namespace Go.Lg
theorem aP.cell {L:St} (b:Nat) {sz:Nat} {x y:LV} {mt:Bool} (hb:L.heap b=some ⟨sz,[x],mt⟩) (h:∀ Z μ w cs,bt Z μ w x cs→bt Z μ w y cs):aP L (L.setB b (some ⟨sz,[y],mt⟩)):=by
 rintro n W X Z0 a w ⟨hdf,hsz,μ,Z,hc,hr⟩
 refine⟨hdf,hsz,μ,Z,?_,hr⟩
 have hs:∀ c,(L.setB b (some ⟨sz,[y],mt⟩)).heap c=if c=b then some ⟨sz,[y],mt⟩ else L.heap c:=fun c=>rfl
 refine⟨hc.keep,hc.zone,hc.zsup,hc.zsub,hc.inj,hc.own,hc.x0,hc.xlt,hc.x1,fun c id blk g1 g2=>?_,fun c id blk g1 g2=>?_,fun c id g1=>?_⟩
 ·rw [hs] at g2
  split at g2
  ·rename_i e;subst e;cases g2;exact hc.mutz c id ⟨sz,[x],mt⟩ g1 hb
  ·exact hc.mutz c id blk g1 g2
 ·rw [hs] at g2
  split at g2
  ·rename_i e;subst e;cases g2;exact hc.frz c id ⟨sz,[x],mt⟩ g1 hb
  ·exact hc.frz c id blk g1 g2
 ·obtain⟨blk,k1,k2⟩:=hc.heap c id g1
  rw [hs]
  by_cases e:c=b
  ·subst e
   rw [if_pos rfl]
   rw [hb] at k1
   cases k1
   refine⟨_,rfl,?_⟩
   obtain⟨cs,T,part,rest,e1,e2,e3⟩:=k2
   refine⟨cs,T,part,rest,e1,e2,?_⟩
   simp only [av] at e3 ⊢
   obtain⟨c1,c2,q1,q2,q3,q4⟩:=e3
   exact⟨c1,c2,q1,q2,h _ _ _ _ q3,q4⟩
  ·rw [if_neg e];exact⟨blk,k1,k2⟩
theorem aP.newB (L:St) (d sz:Nat) (hd:L.heap d=none):aP L (L.setB d (some ⟨sz,[],true⟩)):=by
 rintro n W X Z0 a w ⟨hdf,hsz,μ,Z,hc,hr⟩
 refine⟨hdf,hsz,μ,Z,?_,hr⟩
 refine hc.reheap fun c id hcd=>?_
 have:c≠d:=by rintro rfl;rw [eH hc hd] at hcd;cases hcd
 simp [St.setB,this]
theorem iQ (d sz:Nat) (x y:LV) (Z:Nat→Prop) (μ:Nat→Option Nat) (w:World) (cs:List Value) (h:bt Z μ w (.agg [x,y,.v (.slice none 0 0)]) cs):bt Z μ w (.agg [x,y,.ref d sz 0 0]) cs:=by
 simp only [bt,bn] at h ⊢
 obtain⟨c1,c2,e1,e2,e3,c3,c4,e4,e5,e6,c5,c6,e7,e8,e9,e10⟩:=h
 exact⟨c1,c2,e1,e2,e3,c3,c4,e4,e5,e6,c5,c6,e7,e8,.inl ⟨e9.1,trivial⟩,e10⟩
end Go.Lg
namespace Go.Proofs.YtfpdccbgngdhkaaGreat
open Go.Lg
def _root_.Go.Lg.V3.at (p:V3):Nat→Rat
 | 0=>p.x
 | 1=>p.y
 | _=>p.z
def dz (po:List PoR) (k:Nat):List Rat:=po.map fun q=>q.w*q.p.at k
def dL (po:List PoR):List Rat:=po.map fun q=>q.w
theorem cV (po:List PoR) (k:Nat):(dz po k).length=po.length:=by simp [dz]
theorem f5 (po:List PoR):(dL po).length=po.length:=by simp [dL]
theorem oX {R:Nat} {p:V3} (h:eN R p):∀ k,rl (p.at k)≤R
 | 0=>h.1
 | 1=>h.2.1
 | _+2=>h.2.2
theorem xu {R:Nat} {po:List PoR} (h:∀ q∈po,jN R q) (k:Nat):∀ x∈dz po k,rl x≤2*R:=fun x hx=>by
 obtain⟨q,hq,rfl⟩:=List.mem_map.1 hx
 obtain⟨h1,h2,_⟩:=h q hq
 have h3:=oX h1 k
 have h4:=bA q.w (q.p.at k)
 show rl (q.w*q.p.at k)≤_
 omega
theorem ze {R:Nat} {po:List PoR} (h:∀ q∈po,jN R q):∀ x∈dL po,rl x≤R:=fun x hx=>by
 obtain⟨q,hq,rfl⟩:=List.mem_map.1 hx
 exact(h q hq).2.1
def Hq (po:List PoR) (k:Nat):List Rat:=nT (·-·) (qK (fQ (dz po k)) (dL po)) (qK (dz po k) (fQ (dL po)))
theorem sC {p q:List Rat} {R:Nat} (h:p.length-1+(q.length-1)≤40) (hpl:p.length≤41) (hql:q.length≤41) (hR1:1≤R) (hR:R≤100) (wU:∀ x∈p,rl x≤R) (hqR:∀ x∈q,rl x≤R):∀ x∈qK p q,rl x≤344700:=fun x hx=>by
 obtain⟨k,hk,rfl⟩:=List.mem_map.1 hx
 have hS:=vP hpl hql hR1 wU hqR p.length
 have hbd:p.length*(q.length*(2*R+5))≤41*(41*205):=Nat.mul_le_mul hpl (Nat.mul_le_mul hql (by omega))
 have hg1:=cY (by omega) hS k
 have hg2:=cY (S:=2) (by decide) (oe (n:=p.length-1+(q.length-1)) h) k
 have h3:=ji ((zR p q p.length).getD k 0) ((wR (p.length-1+(q.length-1))).getD k 0)
 omega
theorem AZ {R:Nat} {p q:List Rat} {g:Rat→Rat→Rat} (hg:∀ a b,rl (g a b)≤rl a+rl b+1) (hR:1≤R) (hp:∀ x∈p,rl x≤R) (hq:∀ x∈q,rl x≤R):∀ x∈nT g p q,rl x≤2*R+1:=fun x hx=>by
 obtain⟨i,_,rfl⟩:=List.mem_map.1 hx
 have h1:=cY hR hp i
 have h2:=cY hR hq i
 have h3:=hg (p.getD i 0) (q.getD i 0)
 omega
structure cvF (po:List PoR) (d:Nat):Prop where
 hl:po.length=d+1
 hd:1≤d
 h6:d≤6
 ok:∀ q∈po,jN 1 q
section
variable {po:List PoR} {d:Nat} (h:cvF po d)
theorem cvF.n (h:cvF po d) (k:Nat):(dz po k).length=d+1∧∀ x∈dz po k,rl x≤2:=⟨by rw [cV,h.hl],xu h.ok k⟩
theorem cvF.w (h:cvF po d):(dL po).length=d+1∧∀ x∈dL po,rl x≤2:=⟨by rw [f5,h.hl],fun x hx=>Nat.le_trans (ze h.ok x hx) (by decide)⟩
theorem cvF.dn (h:cvF po d) (k:Nat):(fQ (dz po k)).length=d∧∀ x∈fQ (dz po k),rl x≤8:=by
 obtain⟨h1,h2⟩:=h.n k
 have:=h.hd
 have:=h.h6
 exact⟨by rw [jf,h1,if_neg (by omega)];omega,lb (by decide) (by omega) h2⟩
theorem cvF.dw (h:cvF po d):(fQ (dL po)).length=d∧∀ x∈fQ (dL po),rl x≤8:=by
 obtain⟨h1,h2⟩:=h.w
 have:=h.hd
 have:=h.h6
 exact⟨by rw [jf,h1,if_neg (by omega)];omega,lb (by decide) (by omega) h2⟩
theorem cvF.m1 (h:cvF po d) (k:Nat):(qK (fQ (dz po k)) (dL po)).length=2*d-1+1∧∀ x∈qK (fQ (dz po k)) (dL po),rl x≤344700:=by
 obtain⟨h1,h2⟩:=h.dn k
 obtain⟨h3,h4⟩:=h.w
 have:=h.hd
 have:=h.h6
 exact⟨by rw [rD,h1,h3];omega,sC (R:=8) (by omega) (by omega) (by omega) (by decide) (by decide) h2 (fun x hx=>Nat.le_trans (h4 x hx) (by decide))⟩
theorem cvF.m2 (h:cvF po d) (k:Nat):(qK (dz po k) (fQ (dL po))).length=2*d-1+1∧∀ x∈qK (dz po k) (fQ (dL po)),rl x≤344700:=by
 obtain⟨h1,h2⟩:=h.n k
 obtain⟨h3,h4⟩:=h.dw
 have:=h.hd
 have:=h.h6
 exact⟨by rw [rD,h1,h3];omega,sC (R:=8) (by omega) (by omega) (by omega) (by decide) (by decide) (fun x hx=>Nat.le_trans (h2 x hx) (by decide)) h4⟩
theorem cvF.t (h:cvF po d) (k:Nat):(Hq po k).length=2*d-1+1∧∀ x∈Hq po k,rl x≤689401:=by
 obtain⟨h1,h2⟩:=h.m1 k
 obtain⟨_,h4⟩:=h.m2 k
 exact⟨by rw [Hq,rS,h1],fun x hx=>AZ fo (by decide) h2 h4 x hx⟩
end
theorem dl {po:List PoR} {j:Nat} (h:j<po.length):po.getD j default∈po:=by
 rw [List.getD_eq_getElem?_getD,List.getElem?_eq_getElem h];exact List.getElem_mem h
namespace KC
theorem bQ {p q:Prop} (k:q) (e:p=q:=by simp only [e1,e2,e3,e4,p1,p2,p3,q1,q2,q3,l1,t0,t1,r1,r2,r3,r4,Nat.zero_add,Nat.reduceMul,Nat.reduceAdd,b1,b2,b3,b4,b5,b6,i1,i2,i3,i4,i5,i6,Nat.reduceBEq,dU,ae ah,ax,aC,LV.kill,aH];exact rfl):p:=e.mpr k
end KC
open KC in
theorem xS (p q:List Rat) (hl:p.length≤1048576) (hl2:q.length≤1048576) (hpr:∀ x∈p,rl x≤137438953472) (hqr:∀ x∈q,rl x≤137438953472):ap Tryz.prog 79 [.list 3 (p.map ratL),.list 3 (q.map ratL)] (bL (decide (p=q))):=by
 refine bS Tryz.func79 ?_
 refine en ?_
 refine an rfl (fun h10r h10=>?_) (fun h10r h10=>?_)
 ·have hne:p≠q:=fun e=>by rw [e] at h10;exact h10 rfl
  refine bV ?_
  rw [decide_eq_false hne]
  exact aS rfl (by first | exact .pure rfl | exact .pure (aG _) | exact .pure (ar _) | exact .pure (ah.pure _) | exact .pure (ak bB _ _) | exact .pure (ak ah _ _))
 ·have hle:p.length=q.length:=by omega
  refine cg ?_
  refine gE (fun(k:Nat) L=>((((St.mk L.slot (hp [])).put (some 0) (.list 3 (p.map ratL))).put (some 1) (.list 3 (q.map ratL))).put (some 5) (ai k))) (fun k=>k≤p.length∧∀ i,i<k→p.getD i 0=q.getD i 0) (fun k=>p.length-k) 0 ⟨Nat.zero_le _,fun i h=>absurd h (Nat.not_lt_zero i)⟩ ?_
  rintro k L1 ⟨hk,hg⟩
  refine cg ?_
  refine an rfl (fun h14r h14=>?_) (fun h14r h14=>?_)
  ·have hk2:k<p.length:=by omega
   have hr1:=hpr _ (bi (i:=k) hk2)
   have hr2:=hqr _ (bi (i:=k) (by omega))
   refine ca ?_
   refine au 10 (by decide +kernel) ?_
   refine cx ?_
   refine cp bf (fc (p.getD k 0) (q.getD k 0) (by omega)) ?_
   refine bx ?_
   refine an rfl (fun h26r h26=>?_) (fun h26r h26=>?_)
   ·have hne:p≠q:=fun e=>by rw [e] at h26;exact h26 rfl
    refine bD ?_
    rw [decide_eq_false hne]
    exact aS rfl (by first | exact .pure rfl | exact .pure (aG _) | exact .pure (ar _) | exact .pure (ah.pure _) | exact .pure (ak bB _ _) | exact .pure (ak ah _ _))
   ·have heq:p.getD k 0=q.getD k 0:=h26
    refine cg ?_
    exact fA (k+1) ⟨by omega,fun i hi=>by rcases Nat.lt_or_ge i k with h | h;exact hg i h;rw [show i=k by omega];exact heq⟩
  ·obtain rfl:k=p.length:=by omega
   have hE:p=q:=EV hle hg
   refine bD ?_
   rw [decide_eq_true hE]
   exact aS rfl (by first | exact .pure rfl | exact .pure (aG _) | exact .pure (ar _) | exact .pure (ah.pure _) | exact .pure (ak bB _ _) | exact .pure (ak ah _ _))
end Go.Proofs.YtfpdccbgngdhkaaGreat
namespace Go.Lg
end Go.Lg
namespace Go.Proofs.YtfpdccbgngdhkaaGreat
open Go.Lg
theorem mV {n:Nat} (k:Nat) (hn:n≤40):rl (((fX n k:Nat):Int):Rat)≤2:=by
 rcases Nat.lt_or_ge n k with h | h
 ·rw [ni h];decide
 ·have h1:=oe hn _ (bi (i:=k) (by rw [qL];omega))
  rw [uH h] at h1;exact h1
def IH (α β:Rat):Rat→List Rat→List Rat
 | c,[]=>[β*c]
 | c,x :: l=>(β*c+α*x) :: IH α β x l
inductive KS:Nat→List Rat→Prop
 | z {s:Int} {l:List Rat}:l≠[]→s=1∨s=-1→(∀ x∈l,gM x=s)→KS 0 l
 | r {n:Nat} {l:List Rat} {a b:Rat}:KS n l→0<a→0<b→KS (n+1) (IH (-a) b 0 l)
theorem FI {P:Program} {L:St} {a u:Nat} {T U:TypeId} {b c sz sy:Nat} {x y x' y':LV} {m m':Bool} {n n':Nat} {ag ag':Bool} (bs:List Nat) (h0:bs.contains 0=false) (h:L.slot a=.eptr b sz 0 0) (hb:L.heap b=some ⟨sz,[x],m⟩)
  (hx:x.csize=sz) (hat:x.at 0 n ag=some x) (hT:bj P T n ag) (hi:Imm (L.frz bs).heap x y) (h':L.slot u=.eptr c sy 0 0) (hc:L.heap c=some ⟨sy,[x'],m'⟩)
  (hx':x'.csize=sy) (hat':x'.at 0 n' ag'=some x') (hT':bj P U n' ag') (hi':Imm (L.frz bs).heap x' y'):jD P [.cell a T,.cell u U] L (.tup [y,y']) [] :=
 ⟨[x,x'],[y,y'],(L.frz bs).heap,[],.cons ⟨b,sz,0,0,_,x,n,ag,h,hb,rfl,rfl,hx,hat,hT⟩ (.cons ⟨c,sy,0,0,_,x',n',ag',h',hc,rfl,rfl,hx',hat',hT'⟩ .nil),fF bs h0,.cons (.imm hi) (.cons (.imm hi') .nil),List.nodup_nil,rfl,fun k b h=>by simp at h,rfl⟩
section
variable {P:Program} {H:bI} {ρ:Operand→LV} {T E:TypeId}
end
theorem Eb (po:List PoR) (i:Nat):(po.map (·.p)).getD i default=(po.getD i default).p:=by
 rw [List.getD_eq_getElem?_getD,List.getD_eq_getElem?_getD,List.getElem?_map]
 cases po[i]?<;>rfl
def mf {α:Type} (pr:α→Bool) (l:List α):Int:=if l.any pr then(l.findIdx pr:Nat) else -1
theorem oG {α:Type} [Inhabited α] {pr:α→Bool} {l:List α} {i:Nat} (hi:i<l.length) (h0:∀ j,j<i→pr (l.getD j default)=false) (h:pr (l.getD i default)=true):mf pr l=(i:Int):=by
 have hg:∀ j (hj:j<l.length),l.getD j default=l[j]:=fun j hj=>by rw [List.getD_eq_getElem?_getD,List.getElem?_eq_getElem hj];rfl
 have e:l.findIdx pr=i:=by
  rw [List.findIdx_eq hi]
  refine⟨by rw [←hg i hi];exact h,fun j hj=>?_⟩
  rw [←hg j (by omega)];exact h0 j hj
 have ha:l.any pr=true:=List.any_eq_true.2 ⟨l[i],List.getElem_mem hi,by rw [←hg i hi];exact h⟩
 unfold mf
 rw [if_pos ha,e]
theorem lL {α:Type} [Inhabited α] {pr:α→Bool} {l:List α} (h0:∀ j,j<l.length→pr (l.getD j default)=false):mf pr l=-1:=by
 have ha:l.any pr=false:=by
  rw [List.any_eq_false]
  intro x hx
  obtain⟨i,hi,rfl⟩:=List.mem_iff_getElem.1 hx
  have:=h0 i hi
  rw [List.getD_eq_getElem?_getD,List.getElem?_eq_getElem hi] at this
  simpa using this
 unfold mf
 rw [if_neg (by rw [ha];decide)]
theorem ol {α:Type} (pr:α→Bool) (l:List α):decide (mf pr l≥0)=l.any pr:=by
 unfold mf
 split
 ·rename_i h
  rw [h];exact decide_eq_true (by omega)
 ·rename_i h
  rw [Bool.not_eq_true] at h
  rw [h];rfl
theorem jP {α:Type} [Inhabited α] {l:List α} {i:Nat} (h:i<l.length):l.getD i default∈l:=by
 rw [List.getD_eq_getElem?_getD,List.getElem?_eq_getElem h];exact List.getElem_mem h
namespace K3
theorem bQ {p q:Prop} (k:q) (e:p=q:=by simp only [e1,e2,e3,e4,p1,p2,p3,q1,q2,q3,l1,t0,t1,r1,r2,r3,r4,Nat.zero_add,Nat.reduceMul,Nat.reduceAdd,b1,b2,b3,b4,b5,b6,i1,i2,i3,i4,i5,i6,Nat.reduceBEq,List.set_cons_zero,List.set_cons_succ,Nat.reduceEqDiff,reduceIte,if_true,if_false,aN,aM,ae cT,ae cA,ae ah,ax,aC,LV.kill,aH,List.length_map];exact rfl):p:=e.mpr k
end K3
open K3 in
theorem Di (f:Nat) (pr:Rat→Bool) (l:List Rat) (hl:l.length≤1048576) (hf:∀ x∈l,ap Tryz.prog f [ratL x] (bL (pr x))):ap Tryz.prog 222 [.list 3 (l.map ratL),.clo f []] (iL (mf pr l)):=by
 refine bS Tryz.func222 ?_
 refine dI ?_
 refine gE (fun(i:Nat) L=>((((((St.mk L.slot (hp [])).put (some 0) (.list 3 (l.map ratL))).put (some 1) (.clo f [])).put (some 6) (.list 3 (l.map ratL))).put (some 7) (ai l.length)).put (some 8) (ai i))) (fun i=>i≤l.length∧∀ j,j<i→pr (l.getD j default)=false) (fun i=>l.length-i) 0 ⟨Nat.zero_le _,fun j hj=>absurd hj (Nat.not_lt_zero j)⟩ ?_
 rintro i L1 ⟨hi,h0⟩
 refine bJ ?_
 refine an rfl (fun h9r h9=>?_) (fun h9r h9=>?_)
 ·have hi2:i<l.length:=by omega
  have hc:=hf _ (jP hi2)
  refine iP ?_
  refine cI [] rfl rfl (.clo (f:=f) (cap:=[]) (args:=[ratL (l.getD i 0)]) rfl (.cons fR .nil) ⟨rfl,fun _ h=>by cases h⟩ hc.1 (by decide) (fun _ h=>by cases h)) (hc.2 _) ?_
  refine bG ?_
  refine an rfl (fun h16r h16=>?_) (fun h16r h16=>?_)
  ·have hV:mf pr l=(i:Int):=oG hi2 h0 (by first | exact h16r | exact h16)
   refine bE ?_
   rw [hV]
   exact aS rfl (.pure rfl)
  ·have hn:∀ j,j<i+1→pr (l.getD j default)=false:=fun j hj=>by
    rcases Nat.lt_succ_iff_lt_or_eq.1 hj with e | rfl
    ·exact h0 j e
    ·first | exact h16r | (simpa using h16)
   refine bw ?_
   refine ab rfl (.bin rfl rfl (a9 (by omega))) ?_
   refine bx ?_
   exact fA (i+1) ⟨by omega,hn⟩
 ·obtain rfl:i=l.length:=by omega
  refine bD ?_
  rw [lL h0]
  exact aS rfl (.pure rfl)
namespace K0
theorem bQ {p q:Prop} (k:q) (e:p=q:=by simp only [e1,e2,e3,e4,p1,p2,p3,q1,q2,q3,l1,t0,t1,r1,r2,r3,r4,Nat.zero_add,Nat.reduceMul,Nat.reduceAdd,b1,b2,b3,b4,b5,b6,i1,i2,i3,i4,i5,i6,Nat.reduceBEq,List.set_cons_zero,List.set_cons_succ,Nat.reduceEqDiff,reduceIte,if_true,if_false,aN,aM,ae cT,ae cA,ae ah,ax,aC,LV.kill,aH];exact rfl):p:=e.mpr k
end K0
open K0 in
theorem ya (f:Nat) (pr:Rat→Bool) (l:List Rat) (hl:l.length≤1048576) (hf:∀ x∈l,ap Tryz.prog f [ratL x] (bL (pr x))):ap Tryz.prog 156 [.list 3 (l.map ratL),.clo f []] (bL (l.any pr)):=by
 refine bS Tryz.func156 ?_
 refine cg ?_
 refine cp bf (Di f pr l hl hf) ?_
 refine ca ?_
 rw [←ol]
 exact aS rfl (.pure rfl)
namespace K2
theorem bQ {p q:Prop} (k:q) (e:p=q:=by simp only [e1,e2,e3,e4,p1,p2,p3,q1,q2,q3,l1,t0,t1,r1,r2,r3,r4,Nat.zero_add,Nat.reduceMul,Nat.reduceAdd,b1,b2,b3,b4,b5,b6,i1,i2,i3,i4,i5,i6,Nat.reduceBEq,List.set_cons_zero,List.set_cons_succ,Nat.reduceEqDiff,reduceIte,if_true,if_false,aN,aM,ae cT,ae cA,ae ah,ax,aC,LV.kill,aH,List.length_map];exact rfl):p:=e.mpr k
end K2
open K2 in
theorem C9 (f:Nat) (pr:PoR→Bool) (l:List PoR) (hl:l.length≤1048576) (hf:∀ x∈l,ap Tryz.prog f [dX x] (bL (pr x))):ap Tryz.prog 230 [.list 12 (l.map dX),.clo f []] (iL (mf pr l)):=by
 refine bS Tryz.func230 ?_
 refine dI ?_
 refine gE (fun(i:Nat) L=>((((((St.mk L.slot (hp [])).put (some 0) (.list 12 (l.map dX))).put (some 1) (.clo f [])).put (some 6) (.list 12 (l.map dX))).put (some 7) (ai l.length)).put (some 8) (ai i))) (fun i=>i≤l.length∧∀ j,j<i→pr (l.getD j default)=false) (fun i=>l.length-i) 0 ⟨Nat.zero_le _,fun j hj=>absurd hj (Nat.not_lt_zero j)⟩ ?_
 rintro i L1 ⟨hi,h0⟩
 refine bJ ?_
 refine an rfl (fun h9r h9=>?_) (fun h9r h9=>?_)
 ·have hi2:i<l.length:=by omega
  have hc:=hf _ (jP hi2)
  refine iP ?_
  refine cI [] rfl rfl (.clo (f:=f) (cap:=[]) (args:=[dX (l.getD i default)]) rfl (.cons fR .nil) ⟨rfl,fun _ h=>by cases h⟩ hc.1 (by decide) (fun _ h=>by cases h)) (hc.2 _) ?_
  refine bG ?_
  refine an rfl (fun h16r h16=>?_) (fun h16r h16=>?_)
  ·have hV:mf pr l=(i:Int):=oG hi2 h0 (by first | exact h16r | exact h16)
   refine bE ?_
   rw [hV]
   exact aS rfl (.pure rfl)
  ·have hn:∀ j,j<i+1→pr (l.getD j default)=false:=fun j hj=>by
    rcases Nat.lt_succ_iff_lt_or_eq.1 hj with e | rfl
    ·exact h0 j e
    ·first | exact h16r | (simpa using h16)
   refine bw ?_
   refine ab rfl (.bin rfl rfl (a9 (by omega))) ?_
   refine bx ?_
   exact fA (i+1) ⟨by omega,hn⟩
 ·obtain rfl:i=l.length:=by omega
  refine bD ?_
  rw [lL h0]
  exact aS rfl (.pure rfl)
namespace KZ
theorem bQ {p q:Prop} (k:q) (e:p=q:=by simp only [e1,e2,e3,e4,p1,p2,p3,q1,q2,q3,l1,t0,t1,r1,r2,r3,r4,Nat.zero_add,Nat.reduceMul,Nat.reduceAdd,b1,b2,b3,b4,b5,b6,i1,i2,i3,i4,i5,i6,Nat.reduceBEq,List.set_cons_zero,List.set_cons_succ,Nat.reduceEqDiff,reduceIte,if_true,if_false,aN,aM,ae cT,ae cA,ae ah,ax,aC,LV.kill,aH];exact rfl):p:=e.mpr k
end KZ
open KZ in
theorem Dj (f:Nat) (pr:PoR→Bool) (l:List PoR) (hl:l.length≤1048576) (hf:∀ x∈l,ap Tryz.prog f [dX x] (bL (pr x))):ap Tryz.prog 161 [.list 12 (l.map dX),.clo f []] (bL (l.any pr)):=by
 refine bS Tryz.func161 ?_
 refine cg ?_
 refine cp bf (C9 f pr l hl hf) ?_
 refine ca ?_
 rw [←ol]
 exact aS rfl (.pure rfl)
theorem H6 {α:Type} (e:α→LV) (l:List α) (a b c d:α):l.map e++[e a,e b,e c,e d]=(l++[a,b,c,d]).map e:=by simp
theorem u4 {a b:Nat} (h:aE a=aE b):a=b:=by rw [←az a,h,az]
section
variable {a b:Rat}
theorem HV (h2:decide (aE a.num.natAbs=aE b.num.natAbs)=false):false=decide (a=b):=by
 symm;rw [decide_eq_false_iff_not];rintro rfl;simp at h2
theorem GR (h:(decide (a<0)==decide (b<0))=true) (h2:decide (aE a.num.natAbs=aE b.num.natAbs)=true):decide (aE (eP a)=aE (eP b))=decide (a=b):=by
 rw [decide_eq_decide,kG]
 exact⟨fun h3=>⟨eq_of_beq h,u4 (of_decide_eq_true h2),u4 h3⟩,fun h3=>by rw [h3.2.2]⟩
end
def lK (q:Rat):Nat:=max (cy q.num.natAbs) (cy q.den)
theorem vD {q:Rat} {R:Nat} (h:rl q≤R):lK q≤32*R:=by
 have h1:=db q
 have h2:=dx q
 have e1:cy q.num.natAbs≤32*R:=by
  rw [eI,Nat.pow_mul]
  exact bZ (Nat.le_trans h1 h)
 have e2:cy q.den≤32*R:=by
  rw [eI,Nat.pow_mul]
  exact bZ (Nat.le_trans h2 h)
 unfold lK;omega
def gu (k:List Rat) (t:Rat):Nat→Nat
 | 0=>0
 | i+1=>gu k t i+(if k.getD i 0=t then 1 else 0)
theorem ov (k:List Rat) (t:Rat):∀ i,gu k t i≤i
 | 0=>Nat.le_refl _
 | i+1=>by have:=ov k t i;rw [gu];split<;>omega
def cP (k:List Rat):Nat→List Rat
 | 0=>[]
 | i+1=>if i=0∨k.getD i 0≠k.getD (i-1) 0 then cP k i++[k.getD i 0] else cP k i
theorem nQ (k:List Rat):∀ i,(cP k i).length≤i
 | 0=>Nat.le_refl _
 | i+1=>by
  have:=nQ k i
  rw [cP];split
  ·simp;omega
  ·omega
theorem mq (k:List Rat):∀ i,0<i→0<(cP k i).length
 | 1,_=>by rw [cP,if_pos (.inl rfl)];simp
 | i+2,_=>by
  have:=mq k (i+1) (by omega)
  rw [cP];split
  ·simp
  ·exact this
theorem lm (k:List Rat):∀ i,i≤k.length→∀ x∈cP k i,x∈k
 | 0,_,x,h=>by cases h
 | i+1,hi,x,h=>by
  rw [cP] at h
  split at h
  ·rcases List.mem_append.1 h with h | h
   ·exact lm k i (by omega) x h
   ·rw [List.mem_singleton.1 h];exact bi (by omega)
  ·exact lm k i (by omega) x h
structure kOK (k:List Rat) (d:Nat):Prop where
 d1:1≤d
 d6:d≤6
 len:2*d+2≤k.length
 max:k.length≤d+41
 srt:∀ i,i+1<k.length→k.getD i 0≤k.getD (i+1) 0
 ne:k.getD 0 0≠k.getD (k.length-1) 0
 endk:∀ t∈k,(t=k.getD 0 0∨t=k.getD (k.length-1) 0)→gu k t k.length=d+1
 ink:∀ t∈k,t≠k.getD 0 0→t≠k.getD (k.length-1) 0→gu k t k.length≤d
 sz:∀ x∈k,rl x≤64
theorem qb {k:List Rat}:∀ i,i≤k.length→(∀ j,1≤j→j<i→k.getD j 0≠k.getD (j-1) 0)→cP k i=k.take i
 | 0,_,_=>rfl
 | i+1,hi,h=>by
  rw [cP,qb i (by omega) (fun j h1 h2=>h j h1 (by omega)),if_pos (by
   by_cases e:i=0
   ·exact .inl e
   ·exact .inr (h i (by omega) (by omega))),List.take_add_one,List.getD_eq_getElem?_getD,List.getElem?_eq_getElem (by omega)];rfl
theorem Gw {k:List Rat} {i:Nat} (h0:0<i) (h:k.getD i 0≠k.getD (i-1) 0):cP k (i+1)=cP k i++[k.getD i 0]:=by rw [cP,if_pos (.inr h)]
theorem FU {k:List Rat} {i:Nat} (h0:0<i) (h:k.getD i 0=k.getD (i-1) 0):cP k (i+1)=cP k i:=by rw [cP,if_neg (fun e=>e.elim (fun e=>by omega) (fun e=>e h))]
theorem DP {w:List Rat} {m n:Nat} (hm:m≤n) (hw:w.length=n):(w.map ratL).take m++List.replicate (n-m) (ratL 0)++(w.map ratL).drop (m+(n-m))=(w.take m++List.replicate (n-m) 0).map ratL:=by
 rw [List.drop_of_length_le (by simp;omega)]
 simp [List.map_take]
theorem tT {l:List Rat} {k:Nat} (h:k<l.length):l.take k++[l.getD k 0]=l.take (k+1):=by
 rw [List.take_add_one,List.getElem?_eq_getElem h,List.getD_eq_getElem?_getD,List.getElem?_eq_getElem h];rfl
theorem Ao {α:Type} {e:α→LV} {ag:Bool} {bs:List Nat} {L:St} {b sz len:Nat} {l m:List α} {t:Bool} (he:EncOK e sz ag) (hb:L.heap b=some ⟨sz,(l++m).map e,t⟩) (hbs:bs.contains b=true) (hl:len=l.length):Imm (L.frz bs).heap (.ref b sz 0 len) (.list sz (l.map e)):=by
 have:=mC (off:=0) (len:=len) hb hbs (al he _) (by simp;omega)
 subst hl
 rwa [List.drop_zero,←List.map_take,List.take_left] at this
open H0 in
theorem g8 (a b:Rat) (h:rl a+rl b≤1099511627776):ap Tryz.prog 175 [ratL a,ratL b] (bL (decide (a=b))):=by
 have a1:=db a
 have a3:=cF a
 have c1:=db b
 have c3:=cF b
 refine bS Tryz.func175 ?_
 refine en ?_
 refine bT 10 rfl (fun h10r h10=>?_) (fun h10r h10=>?_)
 ·refine bw ?_
  refine cp bf (ms _ _ (by omega) (by omega)) ?_
  refine bG ?_
  refine bT 17 rfl (fun h17r h17=>?_) (fun h17r h17=>?_)
  ·refine bw ?_
   refine cp bf (ms _ _ (by omega) (by omega)) ?_
   refine ca ?_
   rw [←GR h10r h17r]
   exact aS rfl (by first | exact .pure rfl | exact .pure (aG _) | exact .pure (ar _) | exact .pure (ah.pure _) | exact .pure (ak bB _ _) | exact .pure (ak ah _ _))
  ·refine bv ?_
   rw [←HV h17r]
   exact aS rfl (by first | exact .pure rfl | exact .pure (aG _) | exact .pure (ar _) | exact .pure (ah.pure _) | exact .pure (ak bB _ _) | exact .pure (ak ah _ _))
 ·refine iP ?_
  rw [←Cg h10r]
  exact aS rfl (by first | exact .pure rfl | exact .pure (aG _) | exact .pure (ar _) | exact .pure (ah.pure _) | exact .pure (ak bB _ _) | exact .pure (ak ah _ _))
namespace LB
theorem bQ {p q:Prop} (k:q) (e:p=q:=by simp only [e1,e2,e3,e4,p1,p2,p3,q1,q2,q3,l1,t0,t1,r1,r2,r3,r4,Nat.zero_add,Nat.reduceMul,Nat.reduceAdd,b1,b2,b3,b4,b5,b6,i1,i2,i3,i4,i5,i6,Nat.reduceBEq,az];exact rfl):p:=e.mpr k
end LB
open LB in
theorem Bk (q:Rat) (h:rl q≤1000000):ap Tryz.prog 164 [ratL q] (ai (lK q)):=by
 have a1:=db q
 have a2:=dx q
 have a3:=cF q
 refine bS Tryz.func164 ?_
 refine bV ?_
 refine au 8 (by decide +kernel) ?_
 refine bG ?_
 refine cp bK (gU _ (aB _) (by omega)) ?_
 refine aL ?_
 refine cp bK (jw _) ?_
 refine cp bK (gU _ (aB _) (by omega)) ?_
 refine ca ?_
 rw [lK]
 refine aS ?_ (.pure rfl)
 simp only [e1,e2,e3,e4,p1,p2,p3,q1,q2,q3,Nat.reduceBEq,az]
 congr 2
 omega
namespace K5
theorem bQ {p q:Prop} (k:q) (e:p=q:=by simp only [e1,e2,e3,e4,p1,p2,p3,q1,q2,q3,l1,t0,t1,r1,r2,r3,r4,Nat.zero_add,Nat.reduceMul,Nat.reduceAdd,b1,b2,b3,b4,b5,b6,i1,i2,i3,i4,i5,i6,Nat.reduceBEq,dU,eij,eii,List.set_cons_zero,List.set_cons_succ,Nat.reduceEqDiff,reduceIte,if_true,if_false,aN,aM,ae cT,ae cA,ae ah,ax,aC,LV.kill,aH];exact rfl):p:=e.mpr k
end K5
open K5 in
theorem tP (f:Nat) (k:List Rat) (h0:0<k.length) (hl:k.length≤1048576) (hs:∀ i,i+1<k.length→k.getD i 0≤k.getD (i+1) 0) (hf:∀ x∈k,∀ y∈k,ap Tryz.prog f [ratL x,ratL y] (iL (gJ x y))):ap Tryz.prog 224 [.list 3 (k.map ratL),.clo f []] (bL true):=by
 refine bS Tryz.func224 ?_
 have eij:True:=trivial
 have eii:True:=trivial
 refine bv ?_
 refine ab rfl (.bin rfl rfl (ee (by omega) (by omega))) ?_
 refine bw ?_
 refine gE (fun(i:Nat) L=>((((St.mk L.slot (hp [])).put (some 0) (.list 3 (k.map ratL))).put (some 1) (.clo f [])).put (some 5) (ai i))) (fun i=>i<k.length) (fun i=>i) (k.length-1) (by omega) ?_
 rintro i L1 hi
 refine bV ?_
 refine an rfl (fun h10r h10=>?_) (fun h10r h10=>?_)
 ·have hi2:0<i:=by omega
  have eij:((i:Int)-1).toNat=i-1:=by omega
  have eii:((i:Int)).toNat=i:=by omega
  have hc:=hf _ (bi (p:=k) (i:=i) hi) _ (bi (p:=k) (i:=i-1) (by omega))
  have hge:=hs (i-1) (by omega)
  rw [Nat.sub_add_cancel (by omega)] at hge
  have hcg:0≤gJ (k.getD i 0) (k.getD (i-1) 0):=vc.2 hge
  refine ca ?_
  refine au 12 (by decide +kernel) ?_
  refine bV ?_
  refine ab rfl (.bin rfl rfl (ee (by omega) (by omega))) ?_
  refine bG ?_
  refine cI [] rfl rfl (.clo (f:=f) (cap:=[]) (args:=[ratL (k.getD i 0),ratL (k.getD (i-1) 0)]) rfl (.cons fR (.cons fR .nil)) ⟨rfl,fun _ h=>by cases h⟩ hc.1 (by decide) (fun _ h=>by cases h)) (hc.2 _) ?_
  refine bx ?_
  refine an rfl (fun h24r h24=>?_) (fun h24r h24=>?_)
  ·omega
  ·refine ca ?_
   refine ab rfl (.bin rfl rfl (ee (by omega) (by omega))) ?_
   refine bx ?_
   exact fA (i-1) (by omega)
 ·refine bD ?_
  exact aS rfl (.pure rfl)
namespace K7
theorem bQ {p q:Prop} (k:q) (e:p=q:=by simp only [e1,e2,e3,e4,p1,p2,p3,q1,q2,q3,l1,t0,t1,r1,r2,r3,r4,Nat.zero_add,Nat.reduceMul,Nat.reduceAdd,b1,b2,b3,b4,b5,b6,i1,i2,i3,i4,i5,i6,Nat.reduceBEq,dU,List.set_cons_zero,List.set_cons_succ,Nat.reduceEqDiff,reduceIte,if_true,if_false,aN,aM,ae cT,ae cA,ae ah,ax,aC,LV.kill,aH];exact rfl):p:=e.mpr k
end K7
open K7 in
theorem zF (k:List Rat) (hl:k.length≤1048576) (hr:∀ x∈k,rl x≤549755813888) (t:Rat) (ht:rl t≤549755813888):ap Tryz.prog 226 [.list 3 (k.map ratL),ratL t] (ai (gu k t k.length)):=by
 refine bS Tryz.func226 ?_
 refine ib ?_
 refine gE (fun(i:Nat) L=>((((((St.mk L.slot (hp [(3,⟨3,[ratL t],true⟩)])).put (some 3) (.eptr 3 3 0 0)).put (some 5) (ai (gu k t i))).put (some 8) (.list 3 (k.map ratL))).put (some 9) (ai k.length)).put (some 10) (ai i))) (fun i=>i≤k.length) (fun i=>k.length-i) 0 (Nat.zero_le _) ?_
 rintro i L1 hi
 refine bJ ?_
 refine an rfl (fun h11r h11=>?_) (fun h11r h11=>?_)
 ·have hi2:i<k.length:=by omega
  have hx:=hr _ (bi (i:=i) (by omega))
  have htl:=ov k t i
  refine ie ?_
  refine cp bf (g8 (k.getD i 0) t (by omega)) ?_
  refine bG ?_
  refine an rfl (fun h16r h16=>?_) (fun h16r h16=>?_)
  ·have hT:gu k t (i+1)=gu k t i+1:=by rw [gu,if_pos h16]
   refine bG ?_
   refine ab rfl (.bin rfl rfl (a9 (by omega))) ?_
   refine bw ?_
   refine aY (aP.kill _ 7) ?_
   refine ab rfl (.bin rfl rfl (a9 (by omega))) ?_
   refine bx ?_
   exact fA (i+1) (by omega)
  ·have hT:gu k t (i+1)=gu k t i:=by rw [gu,if_neg h16];rfl
   refine bx ?_
   refine aY (aP.kill _ 7) ?_
   refine ab rfl (.bin rfl rfl (a9 (by omega))) ?_
   refine bx ?_
   exact fA (i+1) (by omega)
 ·obtain rfl:i=k.length:=by omega
  refine bE ?_
  exact aS rfl (.pure rfl)
namespace J3
theorem bQ {p q:Prop} (k:q) (e:p=q:=by simp only [e1,e2,e3,e4,p1,p2,p3,q1,q2,q3,l1,t0,t1,r1,r2,r3,r4,Nat.zero_add,Nat.reduceMul,Nat.reduceAdd,b1,b2,b3,b4,b5,b6,i1,i2,i3,i4,i5,i6,Nat.reduceBEq,dU,eij,eii,eik,eia,ecl,eyl,ewa,ewb,Nat.zero_add,Nat.add_zero,List.length_set,List.length_map,List.set_cons_zero,List.set_cons_succ,Nat.reduceEqDiff,reduceIte,if_true,if_false,aN,aM,ae cT,ae cA,ae ah,ax,aC,LV.kill,aH];exact rfl):p:=e.mpr k
end J3
open J3 in
theorem wM (f:Nat) (l:List Rat) (h0:0<l.length) (hl:l.length≤1048576) (hf:∀ x∈l,∀ y∈l,ap Tryz.prog f [ratL x,ratL y] (bL (decide (x=y)))):dK Tryz.prog 268 ⟨3,l.map ratL,true⟩ [.ref 0 3 0 l.length,.clo f []] (.ref 0 3 0 (cP l l.length).length) ⟨3,((cP l l.length)++List.replicate (l.length-(cP l l.length).length) 0).map ratL,true⟩:=by
 refine BC Tryz.func268 ?_
 have eij:True:=trivial
 have eii:True:=trivial
 have eik:True:=trivial
 have eia:True:=trivial
 have ecl:True:=trivial
 have eyl:True:=trivial
 have ewa:True:=trivial
 have ewb:True:=trivial
 refine ct ?_
 refine an rfl (fun h10r h10=>?_) (fun h10r h10=>?_)
 ·obtain rfl1:l.length=1:=by omega
  have hE:(cP l l.length)=l:=by rw [qb _ (Nat.le_refl _) (fun j h1 h2=>by omega),List.take_length]
  refine cx ?_
  first | (rw [hE,Nat.sub_self,List.replicate_zero,List.append_nil];exact i8 rfl .ref rfl rfl (al ah _)) | (exact i8 rfl .ref (by first | rfl | (simp;done)) rfl (al ah _))
 ·refine cg ?_
  refine gE (fun(i:Nat) L=>((((St.mk L.slot (hp [(0,⟨3,l.map ratL,true⟩)])).put (some 0) (.ref 0 3 0 l.length)).put (some 1) (.clo f [])).put (some 5) (ai i))) (fun i=>1≤i∧i≤l.length∧∀ j,1≤j→j<i→l.getD j 0≠l.getD (j-1) 0) (fun i=>l.length-i) 1 ⟨Nat.le_refl _,by omega,fun j h1 h2=>by omega⟩ ?_
  rintro i L1 ⟨hi1,hil,hne⟩
  refine cg ?_
  refine an rfl (fun h15r h15=>?_) (fun h15r h15=>?_)
  ·have hi2:i<l.length:=by omega
   have eij:((i:Int)-1).toNat=i-1:=by omega
   have eii:((i:Int)).toNat=i:=by omega
   have hc:=hf _ (bi (p:=l) (i:=i) hi2) _ (bi (p:=l) (i:=i-1) (by omega))
   refine ca ?_
   refine au 11 (by decide +kernel) ?_
   refine bV ?_
   refine ab rfl (.bin rfl rfl (ee (by omega) (by omega))) ?_
   refine bG ?_
   try simp only [t1,dU,eij,eii,Nat.zero_add]
   refine cI [] rfl rfl (.clo (f:=f) (cap:=[]) (args:=[ratL (l.getD i 0),ratL (l.getD (i-1) 0)]) rfl (.cons fR (.cons fR .nil)) ⟨rfl,fun _ h=>by cases h⟩ hc.1 (by decide) (fun _ h=>by cases h)) (hc.2 _) ?_
   refine bG ?_
   refine an rfl (fun h28r h28=>?_) (fun h28r h28=>?_)
   ·have hdi:cP l (i+1)=cP l i:=FU (by omega) h28
    have hdt:cP l i=l.take i:=qb i hil hne
    have hln:(l.take i).length=i:=by rw [List.length_take];omega
    have hst:1≤1∧i+1≤l.length∧l.length=l.length∧(cP l (i+1)).length+1≤i+1∧l.take (cP l (i+1)).length=cP l (i+1)∧∀ x,i+1-1≤x→l.getD x 0=l.getD x 0:=⟨Nat.le_refl _,by omega,rfl,by rw [hdi,hdt,hln];omega,by rw [hdi,hdt,hln],fun _ _=>rfl⟩
    have eia:(cP l (i+1)).length=i:=by rw [hdi,hdt,hln]
    refine bw ?_
    refine ab rfl (.sliceR (a:=i) (h:=l.length) rfl Tryz.underlying36 bF (fun y hy=>by cases hy;exact⟨_,rfl⟩) (fun h=>by cases h) (fun y hy=>by cases hy) (fun _=>rfl) om om om) ?_
    refine bv ?_
    refine ik (fun(j:Nat) (w:List Rat) L=>((((((St.mk L.slot (hp [(0,⟨3,w.map ratL,true⟩)])).put (some 0) (.ref 0 3 0 l.length)).put (some 1) (.clo f [])).put (some 5) (ai (cP l (i+j)).length)).put (some 6) (.ref 0 3 i (l.length-i))).put (some 7) (ai j))) (fun j w=>1≤j∧i+j≤l.length∧w.length=l.length∧(cP l (i+j)).length+1≤i+j∧w.take (cP l (i+j)).length=(cP l (i+j))∧∀ x,i+j-1≤x→w.getD x 0=l.getD x 0) (fun j w=>l.length-(i+j)) 1 l hst ?_
    rintro j w L2 ⟨hj1,hij,hwl,hdl,hwt,hwx⟩
    refine cg ?_
    refine an rfl (fun h35r h35=>?_) (fun h35r h35=>?_)
    ·have hi3:i+j<l.length:=by omega
     have ewa:w.getD (i+j) 0=l.getD (i+j) 0:=hwx _ (by omega)
     have ewb:w.getD (i+(j-1)) 0=l.getD (i+j-1) 0:=by rw [show i+(j-1)=i+j-1 by omega];exact hwx _ (by omega)
     have eik:((j:Int)-1).toNat=j-1:=by omega
     have hc:=hf _ (bi (p:=l) (i:=i+j) hi3) _ (bi (p:=l) (i:=i+j-1) (by omega))
     have hd2:(cP l (i+j)).length<l.length:=by omega
     refine ca ?_
     refine au 12 (by decide +kernel) ?_
     refine bV ?_
     refine ab rfl (.bin rfl rfl (ee (by omega) (by omega))) ?_
     refine bG ?_
     try simp only [t1,dU,eik,ewa,ewb]
     refine cI [] rfl rfl (.clo (f:=f) (cap:=[]) (args:=[ratL (l.getD (i+j) 0),ratL (l.getD (i+j-1) 0)]) rfl (.cons fR (.cons fR .nil)) ⟨rfl,fun _ h=>by cases h⟩ hc.1 (by decide) (fun _ h=>by cases h)) (hc.2 _) ?_
     refine bx ?_
     refine an rfl (fun h49r h49=>?_) (fun h49r h49=>?_)
     ·have hy:=Gw (k:=l) (i:=i+j) (by omega) h49
      have eyl:(cP l (i+(j+1))).length=(cP l (i+j)).length+1:=by rw [←Nat.add_assoc,hy];simp
      have hyl:(cP l (i+j+1)).length=(cP l (i+j)).length+1:=by rw [hy];simp
      have hnA:1≤j+1∧i+(j+1)≤l.length∧(w.set (cP l (i+j)).length (l.getD (i+j) 0)).length=l.length∧(cP l (i+(j+1))).length+1≤i+(j+1)∧(w.set (cP l (i+j)).length (l.getD (i+j) 0)).take (cP l (i+(j+1))).length=cP l (i+(j+1))∧∀ x,i+(j+1)-1≤x→(w.set (cP l (i+j)).length (l.getD (i+j) 0)).getD x 0=l.getD x 0:=⟨by omega,by omega,by simp [hwl],by rw [←Nat.add_assoc,hyl];omega,by rw [←Nat.add_assoc,hyl,hy,List.take_add_one,List.take_set_of_le (Nat.le_refl _),hwt,List.getElem?_set_self (by omega)];rfl,fun x hx=>by rw [jn _ _ _ _ (by omega),if_neg (by omega)];exact hwx x (by omega)⟩
      refine cg ?_
      try simp only [t1,dU,ewa,Nat.zero_add]
      refine ca ?_
      refine ab rfl (.bin rfl rfl (a9 (by omega))) ?_
      refine bJ ?_
      refine ab rfl (.bin rfl rfl (a9 (by omega))) ?_
      refine bx ?_
      exact gk (j+1) (w.set (cP l (i+j)).length (l.getD (i+j) 0)) hnA
     ·have hy:=FU (k:=l) (i:=i+j) (by omega) h49
      have eyl:(cP l (i+(j+1))).length=(cP l (i+j)).length:=by rw [←Nat.add_assoc,hy]
      have hnB:1≤j+1∧i+(j+1)≤l.length∧w.length=l.length∧(cP l (i+(j+1))).length+1≤i+(j+1)∧w.take (cP l (i+(j+1))).length=cP l (i+(j+1))∧∀ x,i+(j+1)-1≤x→w.getD x 0=l.getD x 0:=⟨by omega,by omega,hwl,by rw [←Nat.add_assoc,hy];omega,by rw [←Nat.add_assoc,hy];exact hwt,fun x hx=>hwx x (by omega)⟩
      refine ca ?_
      refine ab rfl (.bin rfl rfl (a9 (by omega))) ?_
      refine bx ?_
      exact gk (j+1) w hnB
    ·obtain rfl:j=l.length-i:=by omega
     have eia:i+(l.length-i)=l.length:=by omega
     have hdr:=hdl
     rw [eia] at hdl hwt
     have ecl:=DP (w:=w) (m:=(cP l l.length).length) (n:=l.length) (by omega) hwl
     rw [hwt] at ecl
     refine cg ?_
     refine ab rfl (.sliceR (a:=(cP l (i+(l.length-i))).length) (h:=l.length) rfl Tryz.underlying36 bF (fun y hy=>by cases hy;exact⟨_,rfl⟩) (fun h=>by cases h) (fun y hy=>by cases hy) (fun _=>rfl) om om om) ?_
     refine aK rfl (.clr (n:=l.length-(cP l (i+(l.length-i))).length) (off:=0+(cP l (i+(l.length-i))).length) (z:=ratL 0) (blk:=⟨3,w.map ratL,true⟩) rfl rfl rfl rfl (by rw [List.length_map];omega) Tryz.underlying36 (cL ▸ cz) (ah.csize 0)) ?_
     refine bJ ?_
     refine ab rfl (.sliceRh rfl Tryz.underlying36 bF rfl om om) ?_
     refine cg ?_
     first | (rw [hE,Nat.sub_self,List.replicate_zero,List.append_nil];exact i8 rfl .ref rfl rfl (al ah _)) | (exact i8 rfl .ref (by first | rfl | (simp;done)) rfl (al ah _))
   ·have hnx:∀ j,1≤j→j<i+1→l.getD j 0≠l.getD (j-1) 0:=fun j h1 h2=>by
     rcases Nat.lt_succ_iff_lt_or_eq.1 h2 with e | rfl
     ·exact hne j h1 e
     ·exact h28
    refine ca ?_
    refine ab rfl (.bin rfl rfl (a9 (by omega))) ?_
    refine bx ?_
    exact fA (i+1) ⟨by omega,by omega,hnx⟩
  ·obtain rfl:i=l.length:=by omega
   have hE:(cP l l.length)=l:=by rw [qb _ (Nat.le_refl _) hne,List.take_length]
   refine bE ?_
   first | (rw [hE,Nat.sub_self,List.replicate_zero,List.append_nil];exact i8 rfl .ref rfl rfl (al ah _)) | (exact i8 rfl .ref (by first | rfl | (simp;done)) rfl (al ah _))
namespace K8
theorem bQ {p q:Prop} (k:q) (e:p=q:=by simp only [e1,e2,e3,e4,p1,p2,p3,q1,q2,q3,l1,t0,t1,r1,r2,r3,r4,Nat.zero_add,Nat.reduceMul,Nat.reduceAdd,b1,b2,b3,b4,b5,b6,i1,i2,i3,i4,i5,i6,Nat.reduceBEq,dU,Rat.add_zero,ers,etk,Nat.zero_add,aQ,bo,aW,List.length_cons,List.length_nil,List.nil_append,List.map_nil,List.take_nil,List.append_nil,List.set_cons_zero,List.set_cons_succ,Nat.reduceEqDiff,reduceIte,if_true,if_false,aN,aM,ae cT,ae cA,ae ah,ax,aC,LV.kill,aH];exact rfl):p:=e.mpr k
end K8
open K8 in
theorem ud (p:List Rat) (hl:p.length≤1048576) (hpr:∀ x∈p,rl x≤274877906944):dB Tryz.prog 269 [.list 3 (p.map ratL)] (.ref 1 3 0 p.length) [⟨3,p.map ratL,true⟩]:=by
 refine El Tryz.func269 ?_
 have ers:True:=trivial
 have etk:True:=trivial
 refine cg ?_
 refine bM rfl rfl (.mkE (n:=0) (m:=p.length) ml ml om om om) ?_
 refine bE ?_
 refine gE (fun(k:Nat) L=>(((((St.mk L.slot (hp [(8,⟨3,(p.take k).map ratL,true⟩)])).put (some 3) (.ref 8 3 0 k)).put (some 9) (.list 3 (p.map ratL))).put (some 10) (ai p.length)).put (some 11) (ai k))) (fun k=>k≤p.length) (fun k=>p.length-k) 0 (Nat.zero_le _) ?_
 rintro k L1 hk
 refine bJ ?_
 refine an rfl (fun h12r h12=>?_) (fun h12r h12=>?_)
 ·have hk2:k<p.length:=by omega
  have hrk:=hpr _ (bi hk2)
  have hA:=gh (p.getD k 0) 0 (by rw [show rl 0=1 from rfl];omega)
  rw [Rat.add_zero] at hA
  have ers:=tT (l:=p) hk2
  have etk:((p.take k).map ratL).take k=(p.take k).map ratL:=List.take_of_length_le (by rw [List.length_map,List.length_take];omega)
  refine en ?_
  refine ab rfl (.build0 lU cz) ?_
  refine cp bf (hA) ?_
  refine aL ?_
  refine aK rfl (.appX (d:=8) (news:=[ratL (p.getD k 0)]) rfl rfl rfl rfl (by simp;omega) (.inl rfl) (by decide) Tryz.underlying36 Tryz.underlying36 cz bF rfl f3 (.inl ⟨19,0,_,rfl,by decide,rfl,rfl,by simp,rfl,by simp [aD,ah.pure]⟩) (by simp;omega) (by simp;omega) (by decide)) ?_
  refine bw ?_
  refine aY ((aP.kill _ 5).trans (aP.kill _ 19)) ?_
  refine ab rfl (.bin rfl rfl (a9 (by omega))) ?_
  refine bx ?_
  exact fA (k+1) (by omega)
 ·obtain rfl:k=p.length:=by omega
  have hE:p.take p.length=p:=List.take_length
  refine bE ?_
  rw [hE]
  exact k9 rfl rfl (al ah _)
namespace Ka
theorem bQ {p q:Prop} (k:q) (e:p=q:=by simp only [e1,e2,e3,e4,p1,p2,p3,q1,q2,q3,l1,t0,t1,r1,r2,r3,r4,Nat.zero_add,Nat.reduceMul,Nat.reduceAdd,b1,b2,b3,b4,b5,b6,i1,i2,i3,i4,i5,i6,Nat.reduceBEq,List.set_cons_zero,List.set_cons_succ,Nat.reduceEqDiff,reduceIte,if_true,if_false,aN,aM,ae cT,ae cA,ae ah,ax,aC,LV.kill,aH];exact rfl):p:=e.mpr k
end Ka
open Ka in
theorem ut (k:List Rat) (h0:0<k.length) (hl:k.length≤1048576) (hr:∀ x∈k,rl x≤274877906944):ap Tryz.prog 225 [.list 3 (k.map ratL)] (.list 3 ((cP k k.length).map ratL)):=by
 refine bS Tryz.func225 ?_
 refine cx ?_
 refine gc [] rfl rfl (.cons (.pure (ak ah _ _)) .nil) (ud k hl hr) (al ah _) rfl ?_
 refine f7 1000065 rfl rfl rfl (al ah _) (.cons .ref (.cons (.imm (.pure rfl)) .nil)) (.ref h0) (wM 175 k h0 hl (fun x hx y hy=>g8 x y (by have:=hr x hx;have:=hr y hy;omega))) rfl (al ah _) ?_
 refine bw ?_
 exact fM [1000065] rfl rfl (Ao ah rfl rfl rfl)
open H0 in
theorem sG (k:List Rat) (d:Nat) (h:d+1≤k.length) (hl:k.length≤1048576):ap Tryz.prog 227 [.list 3 (k.map ratL),ai d] (ai (k.length-d-1)):=by
 refine bS Tryz.func227 ?_
 refine bv ?_
 refine ab rfl (.bin rfl rfl (eo (by omega) (by omega))) ?_
 refine ab rfl (.bin rfl rfl (eo (by omega) (by omega))) ?_
 refine bw ?_
 refine aS ?_ (.pure rfl)
 simp only [e1,e2,e3,e4,p1,p2,p3,q1,q2,q3,Nat.reduceBEq]
 congr 2
 omega
namespace K6
theorem bQ {p q:Prop} (k:q) (e:p=q:=by simp only [e1,e2,e3,e4,p1,p2,p3,q1,q2,q3,l1,t0,t1,r1,r2,r3,r4,Nat.zero_add,Nat.reduceMul,Nat.reduceAdd,b1,b2,b3,b4,b5,b6,i1,i2,i3,i4,i5,i6,Nat.reduceBEq,dU,hix,List.set_cons_zero,List.set_cons_succ,Nat.reduceEqDiff,reduceIte,if_true,if_false,aN,aM,ae cT,ae cA,ae ah,ax,aC,LV.kill,aH];exact rfl):p:=e.mpr k
end K6
open K6 in
theorem rT (k:List Rat) (d:Nat) (h:kOK k d):ap Tryz.prog 159 [.list 3 (k.map ratL),ai d] (iL 0):=by
 have hd1:=h.d1
 have hd6:=h.d6
 have hlen:=h.len
 have hmax:=h.max
 have hr:∀ x∈k,rl x≤274877906944:=fun x hx=>Nat.le_trans (h.sz x hx) (by decide)
 have hix:((k.length:Int)-1).toNat=k.length-1:=by omega
 have hr0:=h.sz _ (bi (p:=k) (i:=0) (by omega))
 have hr1:=h.sz _ (bi (p:=k) (i:=k.length-1) (by omega))
 have hS:ap Tryz.prog 224 [.list 3 (k.map ratL),.clo 152 []] (bL true):=tP 152 k (by omega) (by omega) h.srt (fun x hx y hy=>nv x y (by have:=h.sz x hx;have:=h.sz y hy;omega))
 refine bS Tryz.func159 ?_
 refine bD ?_
 refine ab rfl (.bin rfl rfl (eo (by omega) (by omega))) ?_
 refine ab rfl (.bin rfl rfl (eo (by omega) (by omega))) ?_
 refine cg ?_
 refine bT 18 rfl (fun h18r h18=>?_) (fun h18r h18=>?_)
 ·omega
 ·refine bJ ?_
  refine an rfl (fun h15r h15=>?_) (fun h15r h15=>?_)
  ·omega
  ·refine ca ?_
   refine ab rfl (.bin rfl rfl (l9 (by omega) (by omega))) ?_
   refine ab rfl (.bin rfl rfl (ez (by omega) (by omega))) ?_
   refine bw ?_
   refine an rfl (fun h22r h22=>?_) (fun h22r h22=>?_)
   ·omega
   ·refine bV ?_
    refine an rfl (fun h29r h29=>?_) (fun h29r h29=>?_)
    ·omega
    ·refine ca ?_
     refine au 15 (by decide +kernel) ?_
     refine aL ?_
     refine cp bf (hS) ?_
     refine cx ?_
     refine ab (ao (v:=false) rfl rfl (rfl) rfl) (.bin rfl rfl (eo (by omega) (by omega))) ?_
     refine bG ?_
     try simp only [t1,dU,hix]
     refine cp bf (g8 (k.getD 0 0) (k.getD (k.length-1) 0) (by omega)) ?_
     refine bx ?_
     refine bb (b:=_) rfl (decide_eq_false h.ne) ?_
     refine bJ ?_
     refine cp bK (ut k (by omega) (by omega) hr) ?_
     refine ca ?_
     refine gE (fun(i:Nat) L=>((((((St.mk L.slot (hp [])).put (some 0) (.list 3 (k.map ratL))).put (some 1) (ai d)).put (some 48) (.list 3 ((cP k k.length).map ratL))).put (some 49) (ai (cP k k.length).length)).put (some 50) (ai i))) (fun i=>i≤(cP k k.length).length) (fun i=>(cP k k.length).length-i) 0 (Nat.zero_le _) ?_
     rintro i L1 hi
     refine bJ ?_
     refine an rfl (fun h51r h51=>?_) (fun h51r h51=>?_)
     ·have hdl:=nQ k k.length
      have hi2:i<(cP k k.length).length:=by omega
      have hm:=lm k k.length (Nat.le_refl _) _ (bi hi2)
      have hrt:=h.sz _ hm
      have he1:=h.endk _ hm
      have he2:=h.ink _ hm
      refine ie ?_
      refine cp bf (zF k (by omega) (fun x hx=>Nat.le_trans (hr x hx) (by decide)) ((cP k k.length).getD i 0) (by omega)) ?_
      refine bw ?_
      refine au 16 (by decide +kernel) ?_
      refine bw ?_
      refine cp bf (g8 ((cP k k.length).getD i 0) (k.getD 0 0) (by omega)) ?_
      refine aL ?_
      refine bT 62 rfl (fun h62r h62=>?_) (fun h62r h62=>?_)
      ·refine bV ?_
       try simp only [t1,dU,hix]
       refine bD ?_
       refine ab (ao (v:=true) rfl rfl (rfl) rfl) (.bin rfl rfl (ez (by omega) (by omega))) ?_
       refine bx ?_
       refine bT 79 rfl (fun h79r h79=>?_) (fun h79r h79=>?_)
       ·have:=he1 (by first | exact .inl h62 | exact .inr h73)
        omega
       ·refine bx ?_
        refine fY (ao (v:=false) rfl rfl ((by first | rfl | (rw [h73r];rfl))) rfl) ?_
        refine fY (ao (v:=false) rfl rfl ((by first | rfl | (rw [h73r];rfl))) rfl) ?_
        refine fY (ao (v:=false) rfl rfl ((by first | rfl | (rw [h73r];rfl))) rfl) ?_
        refine ab (ao (v:=false) rfl rfl (h79r) rfl) (.pickF rfl ((by first | rfl | (rw [h73r];rfl)))) ?_
        refine bV ?_
        refine aY (aP.kill _ 7) ?_
        refine ab rfl (.bin rfl rfl (a9 (by omega))) ?_
        refine bx ?_
        exact fA (i+1) (by omega)
      ·refine bw ?_
       refine ab (ao (v:=false) rfl rfl (h62r) rfl) (.bin rfl rfl (eo (by omega) (by omega))) ?_
       refine bG ?_
       try simp only [t1,dU,hix]
       refine cp bf (g8 ((cP k k.length).getD i 0) (k.getD (k.length-1) 0) (by omega)) ?_
       refine cx ?_
       refine bT 73 rfl (fun h73r h73=>?_) (fun h73r h73=>?_)
       ·refine bG ?_
        refine ab (ao (v:=true) rfl rfl (h73r) rfl) (.bin rfl rfl (ez (by omega) (by omega))) ?_
        refine bx ?_
        refine bT 79 rfl (fun h79r h79=>?_) (fun h79r h79=>?_)
        ·have:=he1 (by first | exact .inl h62 | exact .inr h73)
         omega
        ·refine bx ?_
         refine fY (ao (v:=false) rfl rfl ((by first | rfl | (rw [h73r];rfl))) rfl) ?_
         refine fY (ao (v:=false) rfl rfl ((by first | rfl | (rw [h73r];rfl))) rfl) ?_
         refine fY (ao (v:=false) rfl rfl ((by first | rfl | (rw [h73r];rfl))) rfl) ?_
         refine ab (ao (v:=false) rfl rfl (h79r) rfl) (.pickF rfl ((by first | rfl | (rw [h73r];rfl)))) ?_
         refine bV ?_
         refine aY (aP.kill _ 7) ?_
         refine ab rfl (.bin rfl rfl (a9 (by omega))) ?_
         refine bx ?_
         exact fA (i+1) (by omega)
       ·refine cg ?_
        refine ab (ao (v:=true) rfl rfl ((by first | rfl | (rw [h73r];rfl))) rfl) (.move _) ?_
        refine ab (ao (v:=true) rfl rfl ((by first | rfl | (rw [h73r];rfl))) rfl) (.move _) ?_
        refine ab (ao (v:=true) rfl rfl ((by first | rfl | (rw [h73r];rfl))) rfl) (.bin rfl rfl rfl) ?_
        refine ab (ao (v:=false) rfl rfl (rfl) rfl) (.pickT rfl ((by first | rfl | (rw [h73r];rfl)))) ?_
        refine bx ?_
        refine an rfl (fun h87r h87=>?_) (fun h87r h87=>?_)
        ·have:=he2 h62 h73
         omega
        ·refine bx ?_
         refine aY (aP.kill _ 7) ?_
         refine ab rfl (.bin rfl rfl (a9 (by omega))) ?_
         refine bx ?_
         exact fA (i+1) (by omega)
     ·refine bD ?_
      exact aS rfl (.pure rfl)
def Ag (R:Nat) (s:Rat × Rat):Prop:=rl s.1≤R∧rl s.2≤R
theorem Ag.le {R S:Nat} {s:Rat × Rat} (h:Ag R s) (k:R≤S):Ag S s:=⟨Nat.le_trans h.1 k,Nat.le_trans h.2 k⟩
theorem FX {a b:Rat} {R:Nat} (ha:rl a≤R) (hb:rl b≤R):rl (s9 a b)≤R:=by unfold s9;split<;>assumption
theorem yp {a b:Rat} {R:Nat} (ha:rl a≤R) (hb:rl b≤R):rl (mA a b)≤R:=by unfold mA;split<;>assumption
theorem CN {R:Nat} {s t:Rat × Rat} (hs:Ag R s) (ht:Ag R t):Ag R (rY s t):=⟨FX hs.1 ht.1,yp hs.2 ht.2⟩
structure _root_.Go.Lg.Bx3 where
 x:Rat × Rat
 y:Rat × Rat
 z:Rat × Rat
abbrev wx (b:Bx3):LV:=.agg [spL b.x,spL b.y,spL b.z]
theorem bxE:EncOK wx 18 true:=by
 refine⟨fun b=>?_,fun b=>rfl,fun b=>?_⟩
 ·simp [wx,LV.csize,ay,fb.csize]
 ·simp [wx,LV.pure,aD,fb.pure]
def Eu (R:Nat) (b:Bx3):Prop:=Ag R b.x∧Ag R b.y∧Ag R b.z
open H0 in
theorem De (s:Rat × Rat) (x:Rat) (h1:rl s.1+rl x≤549755813888) (h2:rl x+rl s.2≤549755813888):ap Tryz.prog 130 [spL s,ratL x] (bL (mg s x)):=by
 refine bS Tryz.func130 ?_
 refine bE ?_
 refine cp bf (nv _ _ (by omega)) ?_
 refine bG ?_
 refine bT 10 rfl (fun h10r h10=>?_) (fun h10r h10=>?_)
 ·refine bx ?_
  refine cp bf (nv _ _ (by omega)) ?_
  refine bJ ?_
  rw [←Hg h10r]
  exact aS rfl (by first | exact .pure rfl | exact .pure (aG _) | exact .pure (ar _) | exact .pure (ah.pure _) | exact .pure (ak bB _ _) | exact .pure (ak ah _ _))
 ·refine bv ?_
  rw [←GG h10r]
  exact aS rfl (by first | exact .pure rfl | exact .pure (aG _) | exact .pure (ar _) | exact .pure (ah.pure _) | exact .pure (ak bB _ _) | exact .pure (ak ah _ _))
namespace Kx
theorem bQ {p q:Prop} (k:q) (e:p=q:=by simp only [e1,e2,e3,e4,p1,p2,p3,q1,q2,q3,l1,t0,t1,r1,r2,r3,r4,Nat.zero_add,Nat.reduceMul,Nat.reduceAdd,b1,b2,b3,b4,b5,b6,i1,i2,i3,i4,i5,i6,Nat.reduceBEq,List.set_cons_zero,List.set_cons_succ,Nat.reduceEqDiff,reduceIte,if_true,if_false,aN,aM,ae cT,ae cA,ae ah,ax,aC,LV.kill,aH];exact rfl):p:=e.mpr k
end Kx
open Kx in
theorem vT (p:V3) (h:eN 100000000000 p):ap Tryz.prog 20 [cQ p,cQ p] (bL true):=by
 obtain⟨a1,a2,a3⟩:=h
 refine bS Tryz.func20 ?_
 refine ct ?_
 refine cp bf (fc p.x p.x (by omega)) ?_
 refine aL ?_
 refine ab (ao (v:=true) rfl rfl ((decide_eq_true rfl)) rfl) qN ?_
 refine ab (ao (v:=true) rfl rfl ((decide_eq_true rfl)) rfl) fS ?_
 refine ab (ao (v:=true) rfl rfl ((decide_eq_true rfl)) rfl) qN ?_
 refine ab (ao (v:=true) rfl rfl ((decide_eq_true rfl)) rfl) fS ?_
 refine ci (ao (v:=true) rfl rfl ((decide_eq_true rfl)) rfl) (.cons fR (.cons fR .nil)) (fc p.y p.y (by omega)) ?_
 refine ab rfl (.pickT rfl ((decide_eq_true rfl))) ?_
 refine aL ?_
 refine ab (ao (v:=true) rfl rfl ((decide_eq_true rfl)) rfl) qN ?_
 refine ab (ao (v:=true) rfl rfl ((decide_eq_true rfl)) rfl) fS ?_
 refine ab (ao (v:=true) rfl rfl ((decide_eq_true rfl)) rfl) qN ?_
 refine ab (ao (v:=true) rfl rfl ((decide_eq_true rfl)) rfl) fS ?_
 refine ci (ao (v:=true) rfl rfl ((decide_eq_true rfl)) rfl) (.cons fR (.cons fR .nil)) (fc p.z p.z (by omega)) ?_
 refine ab rfl (.pickT rfl ((decide_eq_true rfl))) ?_
 refine bw ?_
 refine aS (x:=bL true) ?_ (.pure rfl)
 first | rfl | (simp;done)
namespace Kh
theorem bQ {p q:Prop} (k:q) (e:p=q:=by simp only [e1,e2,e3,e4,p1,p2,p3,q1,q2,q3,l1,t0,t1,r1,r2,r3,r4,Nat.zero_add,Nat.reduceMul,Nat.reduceAdd,b1,b2,b3,b4,b5,b6,i1,i2,i3,i4,i5,i6,Nat.reduceBEq,List.getD_cons_zero,List.getD_cons_succ,List.set_cons_zero,List.set_cons_succ,Nat.reduceEqDiff,reduceIte,if_true,if_false,aN,aM,ae cT,ae cA,ae ah,ax,aC,LV.kill,aH];exact rfl):p:=e.mpr k
end Kh
open Kh in
theorem wL (b:Bx3) (h:Eu 1000000 b):ap Tryz.prog 32 [wx b,wx b] (bL true):=by
 obtain⟨⟨a1,a2⟩,⟨a3,a4⟩,⟨a5,a6⟩⟩:=h
 refine bS Tryz.func32 ?_
 refine ct ?_
 refine cp bf (lE b.x (by omega) (by omega)) ?_
 refine ca ?_
 refine cp bf (lE b.y (by omega) (by omega)) ?_
 refine bJ ?_
 refine cp bf (lE b.z (by omega) (by omega)) ?_
 refine ca ?_
 exact aS rfl (.pure rfl)
def Hx (l:List Int) (k:Nat):V3:=⟨(ph l k).1,(ph l (ph l k).2).1,(ph l (ph l (ph l k).2).2).1⟩
def uh (l:List Int) (k:Nat):Nat:=(ph l (ph l (ph l k).2).2).2
theorem Cl (l:List Int) (k:Nat):eN 1 (Hx l k):=⟨y9 _ _,y9 _ _,y9 _ _⟩
theorem x5 {l:List Int} {k:Nat} (hl:l.length≤500) (hk:k≤500):uh l k≤500:=oy hl (oy hl (oy hl hk))
def Gn (l:List Int) (k:Nat):Rat:=((1+(ga l k 3).tmod 3:Int):Rat)
def js (l:List Int) (k:Nat):PoR:=⟨Hx l k,Gn l (uh l k)⟩
def Cw (l:List Int) (k:Nat):Nat:=eu l (uh l k)
theorem zq (l:List Int) (k:Nat):1≤1+(ga l k 3).tmod 3∧1+(ga l k 3).tmod 3≤3:=by
 have h:=ep (l:=l) (k:=k) (n:=3) (by decide)
 rw [Int.tmod_eq_emod_of_nonneg h.1]
 omega
theorem CD (l:List Int) (k:Nat):rl (Gn l k)≤1:=by
 have:=zq l k
 exact gl (by omega)
theorem xp (l:List Int) (k:Nat):0<Gn l k:=by
 have:=zq l k
 exact Rat.intCast_pos.2 (by omega)
theorem nU {l:List Int} {k:Nat} (hl:l.length≤500) (hk:k≤500):Cw l k≤500:=ea hl (x5 hl hk)
def wY (l:List Int):Nat→Nat→Nat
 | k,0=>k
 | k,c+1=>wY l (Cw l k) c
theorem tK {l:List Int} (hl:l.length≤500):∀ (k c:Nat),k≤500→wY l k c≤500
 | k,0,h=>h
 | k,c+1,h=>tK hl _ c (nU hl h)
def wE (d:Nat) (t:Rat):List Rat:=List.replicate (d+1) t++List.replicate (d+1) (t+1)
theorem uC (d:Nat) (t:Rat):(wE d t).length=2*(d+1):=by simp [wE];omega
def o7 (l:List Int) (k:Nat):Rat:=((ga l k 4-2:Int):Rat)
theorem BO (l:List Int) (k:Nat):rl (o7 l k)≤1∧rl (o7 l k+1)≤1:=by
 have h:=ep (l:=l) (k:=k) (n:=4) (by decide)
 refine⟨gl (by omega),?_⟩
 have e:o7 l k+1=((ga l k 4-1:Int):Rat):=by
  unfold o7
  rw [show ga l k 4-1=(ga l k 4-2)+1 by omega,Rat.intCast_add];rfl
 rw [e]
 exact gl (by omega)
def cD (l:List Int) (k:Nat) (n:Nat):Nat:=(1+ga l k (n:Int)).toNat
theorem BR (l:List Int) (k:Nat) {n:Nat} (hn:0<n):1≤cD l k n∧cD l k n≤n∧(cD l k n:Int)=1+ga l k (n:Int):=by
 have h:=ep (l:=l) (k:=k) (n:=(n:Int)) (by omega)
 unfold cD
 omega
theorem nx {P:Program} {ops:Array Oper} {D:Array Bool} {L:St} {K:St→Prop} {fuel:Nat} (i j k:Nat) (o o2 o3:Oper) (hr:Region.ready .any ops D=[i,j,k]) (ho:ops[i]?=some o) (ho2:ops[j]?=some o2) (ho3:ops[k]?=some o3)
  (h:opsL P false ops [o] L (fun L'=>ff P ops fuel (D.setIfInBounds i true) L' K)) (h2:opsL P false ops [o2] L (fun L'=>ff P ops fuel (D.setIfInBounds j true) L' K)) (h3:opsL P false ops [o3] L (fun L'=>ff P ops fuel (D.setIfInBounds k true) L' K)):ff P ops (fuel+1) D L K:=by
 simp only [opsL] at h h2 h3
 refine⟨fun e=>(by rw [hr] at e;cases e),fun x hx=>?_⟩
 rw [hr] at hx
 simp only [List.mem_cons,List.not_mem_nil,or_false] at hx
 rcases hx with rfl | rfl | rfl
 ·obtain⟨L',h1,h4⟩:=h
  exact⟨o,L',ho,h1,h4⟩
 ·obtain⟨L',h1,h4⟩:=h2
  exact⟨o2,L',ho2,h1,h4⟩
 ·obtain⟨L',h1,h4⟩:=h3
  exact⟨o3,L',ho3,h1,h4⟩
theorem rX {α:Type} (n:Nat) (t:α):List.replicate n t++[t]=List.replicate (n+1) t:=by
 rw [List.replicate_succ']
section
variable {P:Program} {H:bI} {ρ:Operand→LV} {T:TypeId}
theorem ou {o0 o1:Operand} {p:V3} {r:Rat} [z:ZI P T (.agg [.agg [ratL 0,ratL 0,ratL 0],ratL 0])] [s:SI P T [(9,true),(3,true)]] (h0:ρ o0=cQ p) (h1:ρ o1=ratL r) :
  OpP P H ρ (.build T #[(0,o0),(1,o1)]) (dX ⟨p,r⟩):=by
 have:=OpP.bd (H:=H) (ρ:=ρ) (ps:=#[(0,o0),(1,o1)]) (z:=z) (s:=s) (by simp [lay,LV.csize,ay,ah.csize,ah.isAgg,dp]) (by
  intro q hq
  simp only [List.mem_cons,List.not_mem_nil,or_false] at hq
  rcases hq with rfl | rfl
  ·exact⟨_,rfl,by rw [h0];simp [lay,cT.csize,LV.csize,ay,ah.csize];rfl,by rw [h0];exact LV.pure_ne_any (cT.pure _),by rw [h0];exact LV.pure_ne_tup (cT.pure _)⟩
  ·exact⟨_,rfl,by rw [h1];simp [lay,ah.csize,ah.isAgg],by rw [h1];exact LV.pure_ne_any (ah.pure _),by rw [h1];exact LV.pure_ne_tup (ah.pure _)⟩)
 simp only [dk,List.map,List.foldl,List.set,h0,h1] at this
 exact this
end
theorem CT {P:Program} {L:St} {a:Nat} {T:TypeId} {b sz:Nat} {x y:LV} {m:Bool} {n:Nat} {ag:Bool} {blk:Blk} (bs:List Nat) (h0:bs.contains 0=false) (h:L.slot a=.eptr b sz 0 0) (hb:L.heap b=some ⟨sz,[x],m⟩)
  (hx:x.csize=sz) (hat:x.at 0 n ag=some x) (hT:bj P T n ag) (hi:Imm (L.frz bs).heap x y) (hc:(L.frz bs).heap 0=some blk) (hm:blk.mt=true) (hp:aD blk.vals=true):rq P [.cell a T] L y blk :=
 ⟨[x],[y],(L.frz bs).heap,.cons ⟨b,sz,0,0,_,x,n,ag,h,hb,rfl,rfl,hx,hat,hT⟩ .nil,fF bs h0,.cons (.imm hi) .nil,hc,hm,hp,rfl⟩
namespace J6
theorem bQ {p q:Prop} (k:q) (e:p=q:=by simp only [e1,e2,e3,e4,p1,p2,p3,q1,q2,q3,l1,t0,t1,r1,r2,r3,r4,Nat.zero_add,Nat.reduceMul,Nat.reduceAdd,b1,b2,b3,b4,b5,b6,i1,i2,i3,i4,i5,i6,Nat.reduceBEq,l1,List.set_cons_zero,List.set_cons_succ,Nat.reduceEqDiff,reduceIte,if_true,if_false,aN,aM,ae cA,ae ah,ax,aC,LV.kill,aH,fU];exact rfl):p:=e.mpr k
end J6
open J6 in
theorem zH (l:List Int) (k:Nat) (hl:l.length≤500) (hk:k≤500):dK Tryz.prog 55 ⟨2,[cW l k],true⟩ [.eptr 0 2 0 0] (cQ (Hx l k)) ⟨2,[cW l (uh l k)],true⟩:=by
 have k1:=oy (l:=l) hl hk
 have k2:=oy (l:=l) hl k1
 refine BC Tryz.func55 ?_
 refine cx ?_
 refine bm 0 rfl rfl rfl (aw l _) (.cons .ptr .nil) .ptr (nJ l k (by omega) (by omega)) rfl (aw l _) (ah.pure _) ?_
 refine aL ?_
 refine bm 0 rfl rfl rfl (aw l _) (.cons .ptr .nil) .ptr (nJ l (ph l k).2 (by omega) (by omega)) rfl (aw l _) (ah.pure _) ?_
 refine aL ?_
 refine bm 0 rfl rfl rfl (aw l _) (.cons .ptr .nil) .ptr (nJ l (ph l (ph l k).2).2 (by omega) (by omega)) rfl (aw l _) (ah.pure _) ?_
 refine ca ?_
 exact kJ rfl rfl cs (bX cs rfl) lq (.pure pu) rfl rfl (aw l _)
namespace Kb
theorem bQ {p q:Prop} (k:q) (e:p=q:=by simp only [e1,e2,e3,e4,p1,p2,p3,q1,q2,q3,l1,t0,t1,r1,r2,r3,r4,Nat.zero_add,Nat.reduceMul,Nat.reduceAdd,b1,b2,b3,b4,b5,b6,i1,i2,i3,i4,i5,i6,Nat.reduceBEq,l1,List.set_cons_zero,List.set_cons_succ,Nat.reduceEqDiff,reduceIte,if_true,if_false,aN,aM,ae cA,ae ah,ax,aC,LV.kill,aH,fU];exact rfl):p:=e.mpr k
end Kb
open Kb in
theorem vi (l:List Int) (k:Nat) (hl:l.length≤500) (hk:k≤500):dK Tryz.prog 58 ⟨2,[cW l k],true⟩ [.eptr 0 2 0 0,bL false] (dX (js l k)) ⟨2,[cW l (Cw l k)],true⟩:=by
 have k1:=x5 (l:=l) hl hk
 have hb:=ep (l:=l) (k:=uh l k) (n:=3) (by decide)
 have hd:=zq l (uh l k)
 refine BC Tryz.func58 ?_
 refine cx ?_
 refine bm 0 rfl rfl rfl (aw l _) (.cons .ptr .nil) .ptr (zH l k (by omega) (by omega)) rfl (aw l _) (cT.pure _) ?_
 refine bv ?_
 refine an rfl (fun h8r h8=>?_) (fun h8r h8=>?_)
 ·first | exact h8.elim | cases h8r
 ·refine bx ?_
  refine jO ?_
  refine bY 0 1 _ _ (by decide +kernel) rfl rfl ?_ ?_
  ·refine aL ?_
   refine aj ?_
   refine aq 1 _ (by decide +kernel) rfl ?_
   refine aL ?_
   refine aj ?_
   refine aq 2 _ (by decide +kernel) rfl ?_
   refine bm 0 rfl rfl rfl (aw l _) (.cons .ptr (.cons (.imm (.pure rfl)) .nil)) .ptr (eh l (uh l k) 3 (by omega) (by omega) (by omega) (by omega)) rfl (aw l _) rfl ?_
   refine aj ?_
   refine aq 3 _ (by decide +kernel) rfl ?_
   refine ab rfl (.bin rfl rfl (rO (by decide))) ?_
   refine aj ?_
   refine aq 4 _ (by decide +kernel) rfl ?_
   refine ab rfl (.bin rfl rfl (ez (by omega) (by omega))) ?_
   refine aj ?_
   refine aq 5 _ (by decide +kernel) rfl ?_
   refine cp bK (eO (1+(ga l (uh l k) 3).tmod 3) (by omega) (by omega)) ?_
   refine aj ?_
   refine aq 6 _ (by decide +kernel) rfl ?_
   refine jc (ou rfl rfl) ?_
   refine aj ?_
   refine aq 7 _ (by decide +kernel) rfl ?_
   refine aL ?_
   refine aj ?_
   refine bq (by decide +kernel) ?_
   refine bG ?_
   exact kJ rfl rfl cs (bX cs rfl) me (.pure pu) rfl rfl (aw l _)
  ·refine aL ?_
   refine aj ?_
   refine bY 0 2 _ _ (by decide +kernel) rfl rfl ?_ ?_
   ·refine aL ?_
    refine aj ?_
    refine aq 2 _ (by decide +kernel) rfl ?_
    refine bm 0 rfl rfl rfl (aw l _) (.cons .ptr (.cons (.imm (.pure rfl)) .nil)) .ptr (eh l (uh l k) 3 (by omega) (by omega) (by omega) (by omega)) rfl (aw l _) rfl ?_
    refine aj ?_
    refine aq 3 _ (by decide +kernel) rfl ?_
    refine ab rfl (.bin rfl rfl (rO (by decide))) ?_
    refine aj ?_
    refine aq 4 _ (by decide +kernel) rfl ?_
    refine ab rfl (.bin rfl rfl (ez (by omega) (by omega))) ?_
    refine aj ?_
    refine aq 5 _ (by decide +kernel) rfl ?_
    refine cp bK (eO (1+(ga l (uh l k) 3).tmod 3) (by omega) (by omega)) ?_
    refine aj ?_
    refine aq 6 _ (by decide +kernel) rfl ?_
    refine jc (ou rfl rfl) ?_
    refine aj ?_
    refine aq 7 _ (by decide +kernel) rfl ?_
    refine aL ?_
    refine aj ?_
    refine bq (by decide +kernel) ?_
    refine bG ?_
    exact kJ rfl rfl cs (bX cs rfl) me (.pure pu) rfl rfl (aw l _)
   ·refine bm 0 rfl rfl rfl (aw l _) (.cons .ptr (.cons (.imm (.pure rfl)) .nil)) .ptr (eh l (uh l k) 3 (by omega) (by omega) (by omega) (by omega)) rfl (aw l _) rfl ?_
    refine aj ?_
    refine bY 0 3 _ _ (by decide +kernel) rfl rfl ?_ ?_
    ·refine aL ?_
     refine aj ?_
     refine aq 3 _ (by decide +kernel) rfl ?_
     refine ab rfl (.bin rfl rfl (rO (by decide))) ?_
     refine aj ?_
     refine aq 4 _ (by decide +kernel) rfl ?_
     refine ab rfl (.bin rfl rfl (ez (by omega) (by omega))) ?_
     refine aj ?_
     refine aq 5 _ (by decide +kernel) rfl ?_
     refine cp bK (eO (1+(ga l (uh l k) 3).tmod 3) (by omega) (by omega)) ?_
     refine aj ?_
     refine aq 6 _ (by decide +kernel) rfl ?_
     refine jc (ou rfl rfl) ?_
     refine aj ?_
     refine aq 7 _ (by decide +kernel) rfl ?_
     refine aL ?_
     refine aj ?_
     refine bq (by decide +kernel) ?_
     refine bG ?_
     exact kJ rfl rfl cs (bX cs rfl) me (.pure pu) rfl rfl (aw l _)
    ·refine ab rfl (.bin rfl rfl (rO (by decide))) ?_
     refine aj ?_
     refine bY 0 4 _ _ (by decide +kernel) rfl rfl ?_ ?_
     ·refine aL ?_
      refine aj ?_
      refine aq 4 _ (by decide +kernel) rfl ?_
      refine ab rfl (.bin rfl rfl (ez (by omega) (by omega))) ?_
      refine aj ?_
      refine aq 5 _ (by decide +kernel) rfl ?_
      refine cp bK (eO (1+(ga l (uh l k) 3).tmod 3) (by omega) (by omega)) ?_
      refine aj ?_
      refine aq 6 _ (by decide +kernel) rfl ?_
      refine jc (ou rfl rfl) ?_
      refine aj ?_
      refine aq 7 _ (by decide +kernel) rfl ?_
      refine aL ?_
      refine aj ?_
      refine bq (by decide +kernel) ?_
      refine bG ?_
      exact kJ rfl rfl cs (bX cs rfl) me (.pure pu) rfl rfl (aw l _)
     ·refine ab rfl (.bin rfl rfl (ez (by omega) (by omega))) ?_
      refine aj ?_
      refine bY 0 5 _ _ (by decide +kernel) rfl rfl ?_ ?_
      ·refine aL ?_
       refine aj ?_
       refine aq 5 _ (by decide +kernel) rfl ?_
       refine cp bK (eO (1+(ga l (uh l k) 3).tmod 3) (by omega) (by omega)) ?_
       refine aj ?_
       refine aq 6 _ (by decide +kernel) rfl ?_
       refine jc (ou rfl rfl) ?_
       refine aj ?_
       refine aq 7 _ (by decide +kernel) rfl ?_
       refine aL ?_
       refine aj ?_
       refine bq (by decide +kernel) ?_
       refine bG ?_
       exact kJ rfl rfl cs (bX cs rfl) me (.pure pu) rfl rfl (aw l _)
      ·refine cp bK (eO (1+(ga l (uh l k) 3).tmod 3) (by omega) (by omega)) ?_
       refine aj ?_
       refine aq 0 _ (by decide +kernel) rfl ?_
       refine aL ?_
       refine aj ?_
       refine aq 6 _ (by decide +kernel) rfl ?_
       refine jc (ou rfl rfl) ?_
       refine aj ?_
       refine aq 7 _ (by decide +kernel) rfl ?_
       refine aL ?_
       refine aj ?_
       refine bq (by decide +kernel) ?_
       refine bG ?_
       exact kJ rfl rfl cs (bX cs rfl) me (.pure pu) rfl rfl (aw l _)
theorem BN {a b:List Rat} {i:Nat} (h:i<a.length):(a++b).getD i 0=a.getD i 0:=by
 rw [List.getD_eq_getElem?_getD,List.getD_eq_getElem?_getD,List.getElem?_append_left h]
theorem B1 {a b:List Rat} {i:Nat} (h:a.length≤i):(a++b).getD i 0=b.getD (i-a.length) 0:=by
 rw [List.getD_eq_getElem?_getD,List.getD_eq_getElem?_getD,List.getElem?_append_right h]
theorem gy {n i:Nat} {T:Rat} (h:i<n):(List.replicate n T).getD i 0=T:=by
 rw [List.getD_eq_getElem?_getD,List.getElem?_eq_getElem (by simpa using h)];simp
theorem xA (a b:List Rat) (t:Rat):∀ i,i≤a.length→gu (a++b) t i=gu a t i
 | 0,_=>rfl
 | i+1,h=>by rw [gu,gu,xA a b t i (by omega),BN (by omega)]
theorem p7 (a b:List Rat) (t:Rat):∀ i,gu (a++b) t (a.length+i)=gu a t a.length+gu b t i
 | 0=>by rw [Nat.add_zero,xA _ _ _ _ (Nat.le_refl _)];rfl
 | i+1=>by
  rw [←Nat.add_assoc,gu,p7 a b t i,gu,B1 (by omega),Nat.add_sub_cancel_left];omega
theorem jq (n:Nat) (T t:Rat):∀ i,i≤n→gu (List.replicate n T) t i=if T=t then i else 0
 | 0,_=>by split<;>rfl
 | i+1,h=>by
  rw [gu,jq n T t i (by omega),gy (by omega)]
  split<;>rfl
theorem Dy (d:Nat) (T t:Rat):gu (wE d T) t (wE d T).length=(if T=t then d+1 else 0)+(if T+1=t then d+1 else 0):=by
 have h:=p7 (List.replicate (d+1) T) (List.replicate (d+1) (T+1)) t (d+1)
 rw [List.length_replicate] at h
 have e:(wE d T).length=d+1+(d+1):=by rw [uC];omega
 rw [e]
 show gu (List.replicate (d+1) T++_) t _=_
 rw [h,jq _ _ _ _ (Nat.le_refl _),jq _ _ _ _ (Nat.le_refl _)]
theorem mR (d:Nat) (T:Rat) (i:Nat) (h:i<2*(d+1)):(wE d T).getD i 0=if i<d+1 then T else T+1:=by
 unfold wE
 split
 ·rw [BN (by simp;omega),gy (by omega)]
 ·rw [B1 (by simp;omega),List.length_replicate,gy (by omega)]
theorem CY {d:Nat} {T:Rat} (h1:1≤d) (h6:d≤6) (hT:rl T≤64) (hT1:rl (T+1)≤64):kOK (wE d T) d:=by
 have hl:=uC d T
 have hne:T≠T+1:=by grind
 have e0:(wE d T).getD 0 0=T:=by rw [mR _ _ _ (by omega),if_pos (by omega)]
 have e1:(wE d T).getD ((wE d T).length-1) 0=T+1:=by rw [hl,mR _ _ _ (by omega),if_neg (by omega)]
 have hm:∀ x∈wE d T,x=T∨x=T+1:=fun x hx=>by
  rcases List.mem_append.1 hx with h | h
  ·exact .inl (List.mem_replicate.1 h).2
  ·exact .inr (List.mem_replicate.1 h).2
 refine⟨h1,h6,by omega,by omega,fun i hi=>?_,by rw [e0,e1];exact hne,fun t ht he=>?_,fun t ht g0 g1=>?_,fun x hx=>?_⟩
 ·rw [mR _ _ _ (by omega),mR _ _ _ (by omega)]
  split<;>split
  ·exact Rat.le_refl
  ·grind
  ·omega
  ·exact Rat.le_refl
 ·rw [Dy]
  rcases hm t ht with rfl | rfl
  ·rw [if_pos rfl,if_neg (fun e=>hne e.symm)]
  ·rw [if_neg hne,if_pos rfl,Nat.zero_add]
 ·rw [e0] at g0;rw [e1] at g1
  rcases hm t ht with h | h
  ·exact absurd h g0
  ·exact absurd h g1
 ·rcases hm x hx with rfl | rfl<;>assumption
theorem lD {α:Type} (l:List α):l.any (fun _=>false)=false:=by simp
theorem bW {P:Program} {L:St} {a u v:Nat} {T U:TypeId} {b c sz sy:Nat} {x y x' y' z z':LV} {m m':Bool} {n n':Nat} {ag ag':Bool} (bs:List Nat) (h0:bs.contains 0=false) (h:L.slot a=.eptr b sz 0 0) (hb:L.heap b=some ⟨sz,[x],m⟩)
  (hx:x.csize=sz) (hat:x.at 0 n ag=some x) (hT:bj P T n ag) (hi:Imm (L.frz bs).heap x y) (h':L.slot u=.eptr c sy 0 0) (hc:L.heap c=some ⟨sy,[x'],m'⟩)
  (hx':x'.csize=sy) (hat':x'.at 0 n' ag'=some x') (hT':bj P U n' ag') (hi':Imm (L.frz bs).heap x' y') (hz:L.slot v=z) (hiz:Imm (L.frz bs).heap z z'):jD P [.cell a T,.cell u U,.tmp v] L (.tup [y,y',z']) [] :=
 ⟨[x,x',z],[y,y',z'],(L.frz bs).heap,[],.cons ⟨b,sz,0,0,_,x,n,ag,h,hb,rfl,rfl,hx,hat,hT⟩ (.cons ⟨c,sy,0,0,_,x',n',ag',h',hc,rfl,rfl,hx',hat',hT'⟩ (.cons hz .nil)),fF bs h0,.cons (.imm hi) (.cons (.imm hi') (.cons (.imm hiz) .nil)),List.nodup_nil,rfl,fun k b h=>by simp at h,rfl⟩
open H0 in
theorem xg (s:Rat × Rat) (h:rl s.2+rl s.1≤549755813888):ap Tryz.prog 110 [spL s] (ratL (s.2-s.1)):=by
 refine bS Tryz.func110 ?_
 refine bE ?_
 refine cp bf (gg s.2 s.1 h) ?_
 refine bw ?_
 exact b9 [] rfl rfl rfl (ah.csize _) (am _) bF (.pure (ah.pure _))
section
variable {P:Program} {H:bI} {ρ:Operand→LV} {T E:TypeId}
theorem Ja {o1:Operand} {r:Rat} [z:ZI P T (.agg [.agg [ratL 0,ratL 0,ratL 0],ratL 0])] [s:SI P T [(9,true),(3,true)]] (h1:ρ o1=ratL r) :
  OpP P H ρ (.build T #[(1,o1)]) (dX ⟨⟨0,0,0⟩,r⟩):=by
 have:=OpP.bd (H:=H) (ρ:=ρ) (ps:=#[(1,o1)]) (z:=z) (s:=s) (by simp [lay,LV.csize,ay,ah.csize,ah.isAgg,dp]) (by
  intro q hq
  simp only [List.mem_cons,List.not_mem_nil,or_false] at hq
  subst hq
  exact⟨_,rfl,by rw [h1];simp [lay,ah.csize,ah.isAgg],by rw [h1];exact LV.pure_ne_any (ah.pure _),by rw [h1];exact LV.pure_ne_tup (ah.pure _)⟩)
 simp only [dk,List.map,List.foldl,List.set,h1] at this
 exact this
end
theorem EX:ap Tryz.prog 54 [ratL 1] (.v (.string ⟨#[49]⟩)):=by
 have:=BH 1 (by decide +kernel) (by decide +kernel) (by decide +kernel)
 exact this
namespace LT
theorem bQ {p q:Prop} (k:q) (e:p=q:=by simp only [e1,e2,e3,e4,p1,p2,p3,q1,q2,q3,l1,t0,t1,r1,r2,r3,r4,Nat.zero_add,Nat.reduceMul,Nat.reduceAdd,b1,b2,b3,b4,b5,b6,i1,i2,i3,i4,i5,i6,Nat.reduceBEq,List.set_cons_zero,List.set_cons_succ,Nat.reduceEqDiff,reduceIte,if_true,if_false,aN,aM,ae cT,ae cA,ae ah,ax,aC,LV.kill,aH];exact rfl):p:=e.mpr k
end LT
open LT in
theorem BD :ap Tryz.prog 53 [iL 0] (cQ ⟨1,0,0⟩):=by
 have h1:ap Tryz.prog 60 [iL 1] (ratL 1):=eO 1 (by decide) (by decide)
 refine bS Tryz.func53 (ht:=(fun r=>LV.ren_pure r _ (cT.pure _))) ?_
 refine ct ?_
 refine cp bK (h1) ?_
 refine bD ?_
 exact b9 [] rfl rfl rfl cs (bX cs rfl) lq (.pure pu)
namespace LU
theorem bQ {p q:Prop} (k:q) (e:p=q:=by simp only [e1,e2,e3,e4,p1,p2,p3,q1,q2,q3,l1,t0,t1,r1,r2,r3,r4,Nat.zero_add,Nat.reduceMul,Nat.reduceAdd,b1,b2,b3,b4,b5,b6,i1,i2,i3,i4,i5,i6,Nat.reduceBEq,List.set_cons_zero,List.set_cons_succ,Nat.reduceEqDiff,reduceIte,if_true,if_false,aN,aM,ae cT,ae cA,ae ah,ax,aC,LV.kill,aH];exact rfl):p:=e.mpr k
end LU
open LU in
theorem Aq :ap Tryz.prog 53 [iL 1] (cQ ⟨0,1,0⟩):=by
 have h1:ap Tryz.prog 60 [iL 1] (ratL 1):=eO 1 (by decide) (by decide)
 refine bS Tryz.func53 (ht:=(fun r=>LV.ren_pure r _ (cT.pure _))) ?_
 refine ct ?_
 refine cp bK (h1) ?_
 refine bD ?_
 exact b9 [] rfl rfl rfl cs (bX cs rfl) lq (.pure pu)
theorem Ff {P:Program} {H:bI} {ρ:Operand→LV} {T E:TypeId} [u:UN P T (.array 3 E)] [t:TI P E 3 true] [z:ZI P T (.agg [ratL 0,ratL 0,ratL 0])]:OpP P H ρ (.build T #[]) (cQ ⟨0,0,0⟩) :=
 OpP.bda (H:=H) (ρ:=ρ) (ps:=#[]) (u:=u) (t:=t) (z:=z) (by simp [lay,ah.csize,ah.isAgg]) (fun q hq=>by simp at hq)
section
variable {po:List PoR} {d:Nat} (h:cvF po d)
include h
end
theorem yY {a b c:Nat} (h:a=b+c) (h2:a≤9223372036854775807):cj .sub .i64 (a:Nat) (b:Nat)=some (.int .i64 ((c:Nat):Int)):=by
 rw [eo (by omega) (by omega)];congr 2;omega
theorem sN {a b c:Rat} (h:a<b) (k:b≤c):a<c:=by grind
section
variable {po:List PoR} {d:Nat} (h:cvF po d)
include h
end
def kE (l:List V3) (k:Nat):Nat→Rat × Rat
 | 0=>((l.getD 0 default).at k,(l.getD 0 default).at k)
 | j+1=>rY (kE l k j) ((l.getD (j+1) default).at k,(l.getD (j+1) default).at k)
def Fn (l:List V3):Bx3:=⟨kE l 0 (l.length-1),kE l 1 (l.length-1),kE l 2 (l.length-1)⟩
theorem tJ {l:List V3} {R:Nat} (h:∀ i,i<l.length→eN R (l.getD i default)) (k:Nat):∀ n,n<l.length→Ag R (kE l k n)
 | 0,hn=>⟨oX (h 0 hn) k,oX (h 0 hn) k⟩
 | n+1,hn=>CN (tJ h k n (by omega)) ⟨oX (h _ hn) k,oX (h _ hn) k⟩
section
variable {po:List PoR} {d:Nat} (h:cvF po d)
include h
end
section
variable {po:List PoR} {d:Nat} (h:cvF po d)
include h
end
theorem Cr {a b:Rat}:∀ (n:Nat) (c:Nat→Rat) (R:Nat),(∀ i,rl (c i)≤R)→rl (fE a b n c)≤(R+(rl a+rl b+1))*2 ^ n
 | 0,c,R,h=>by
  have:=h 0
  show rl (c 0)≤_
  omega
 | n+1,c,R,h=>by
  have:=Cr (a:=a) (b:=b) n (fun i=>a*c i+b*c (i+1)) (2*R+(rl a+rl b+1)) (fun i=>by
   have h0:=h i
   have h1:=h (i+1)
   have m0:=bA a (c i)
   have m1:=bA b (c (i+1))
   have s0:=dF (a*c i) (b*c (i+1))
   omega)
  rw [fE]
  refine Nat.le_trans this ?_
  rw [Nat.pow_succ,Nat.mul_comm (2 ^ n) 2,←Nat.mul_assoc]
  exact Nat.mul_le_mul_right _ (by omega)
theorem zY {p:List Rat} {t:Rat} {R:Nat} (hl:0<p.length) (hR:1≤R) (h:∀ x∈p,rl x≤R):rl (uI p t)≤(R+(rl (1-t)+rl t+1))*2 ^ (p.length-1):=by
 rw [EU hl]
 exact Cr _ _ R (fun i=>cY hR h i)
theorem Ej (bs:List Nat):pL bs []=[]:=rfl
def sS (t:Rat) (f:Nat→Rat):Nat→Rat:=fun i=>(1-t)*f i+t*f (i+1)
def sI (t:Rat):Nat→(Nat→Rat)→(Nat→Rat)
 | 0,f=>f
 | n+1,f=>sI t n (sS t f)
structure cvR (po:List PoR) (d R:Nat):Prop where
 hl:po.length=d+1
 hd:1≤d
 h6:d≤6
 ok:∀ q∈po,jN R q
theorem cvF.r {po:List PoR} {d:Nat} (h:cvF po d):cvR po d 1:=⟨h.hl,h.hd,h.h6,h.ok⟩
section
variable {po:List PoR} {d R:Nat} (h:cvR po d R) {x y:Rat} (hx0:0≤x) (hx1:x<1) (hy0:0≤y) (hy1:y≤1)
include h
include hx1
include hx0 hy0 hy1
end
theorem ip {f:Nat} (hc:∀ s t:Rat × Rat,rl s.1+rl t.1≤34359738368→rl s.2+rl t.2≤34359738368→ap Tryz.prog f [spL s,spL t] (spL (rY s t))) {l:List V3} {R:Nat} (hR:R≤1000000) (hb:∀ i,i<l.length→eN R (l.getD i default)) (k j:Nat) (hj:j+1<l.length) :
  ap Tryz.prog f [spL (kE l k j),spL ((l.getD (j+1) default).at k,(l.getD (j+1) default).at k)] (spL (kE l k (j+1))):=by
 have q:=tJ hb k j (by omega)
 have g:=oX (hb (j+1) hj) k
 have h1:R+R≤34359738368:=by omega
 exact hc _ _ (Nat.le_trans (Nat.add_le_add q.1 g) h1) (Nat.le_trans (Nat.add_le_add q.2 g) h1)
theorem Ih {P:Program} {H:bI} {ρ:Operand→LV} {T E:TypeId} {o0 o1 o2:Operand} {s0 s1 s2:Rat × Rat} [u:UN P T (.array 3 E)] [t:TI P E 6 true] [z:ZI P T (.agg [.agg [ratL 0,ratL 0],.agg [ratL 0,ratL 0],.agg [ratL 0,ratL 0]])] (h0:ρ o0=spL s0) (h1:ρ o1=spL s1) (h2:ρ o2=spL s2) :
  OpP P H ρ (.build T #[(0,o0),(1,o1),(2,o2)]) (wx ⟨s0,s1,s2⟩):=by
 have:=OpP.bda (H:=H) (ρ:=ρ) (ps:=#[(0,o0),(1,o1),(2,o2)]) (u:=u) (t:=t) (z:=z) (by simp [lay,LV.csize,ay,ah.csize,dp]) (by
  intro p hp
  simp only [List.mem_cons,List.not_mem_nil,or_false] at hp
  rcases hp with rfl | rfl | rfl
  ·exact⟨_,rfl,by rw [h0];simp [lay,fb.csize,fb.isAgg,LV.csize,ay,ah.csize,dp],by rw [h0];exact LV.pure_ne_any (fb.pure _),by rw [h0];exact LV.pure_ne_tup (fb.pure _)⟩
  ·exact⟨_,rfl,by rw [h1];simp [lay,fb.csize,fb.isAgg,LV.csize,ay,ah.csize,dp],by rw [h1];exact LV.pure_ne_any (fb.pure _),by rw [h1];exact LV.pure_ne_tup (fb.pure _)⟩
  ·exact⟨_,rfl,by rw [h2];simp [lay,fb.csize,fb.isAgg,LV.csize,ay,ah.csize,dp],by rw [h2];exact LV.pure_ne_any (fb.pure _),by rw [h2];exact LV.pure_ne_tup (fb.pure _)⟩)
 simpa only [dk,List.map,List.foldl,List.set,h0,h1,h2] using this
theorem EQ:(LV.agg [.agg [ratL 0,ratL 0],.agg [ratL 0,ratL 0],.agg [ratL 0,ratL 0]]).csize=18:=by simp [LV.csize,ay,ah.csize]
theorem Cv (a b c:Rat × Rat):(LV.agg [spL a,spL b,spL c]).csize=18:=bxE.csize ⟨a,b,c⟩
theorem JM (l:List V3) (j:Nat):(l.drop 1).getD j default=l.getD (j+1) default:=by
 rw [List.getD_eq_getElem?_getD,List.getD_eq_getElem?_getD,List.getElem?_drop,Nat.add_comm]
namespace LX
theorem bQ {p q:Prop} (k:q) (e:p=q:=by simp only [e1,e2,e3,e4,p1,p2,p3,q1,q2,q3,l1,t0,t1,r1,r2,r3,r4,Nat.zero_add,Nat.reduceMul,Nat.reduceAdd,b1,b2,b3,b4,b5,b6,i1,i2,i3,i4,i5,i6,Nat.reduceBEq,EQ,Cv,JM,dU,List.length_drop,List.length_map,List.set_cons_zero,List.set_cons_succ,Nat.reduceEqDiff,reduceIte,if_true,if_false,aN,aM,ae cT,ae cA,ae ah,ax,aC,LV.kill,aH];exact rfl):p:=e.mpr k
end LX
open LX in
theorem yd (l:List V3) (h0:0<l.length) (hl:l.length≤1000) (R:Nat) (hR:R≤1000000) (hb:∀ i,i<l.length→eN R (l.getD i default)):ap Tryz.prog 92 [.list 9 (l.map cQ)] (.tup [wx (Fn l),iL 0]):=by
 obtain⟨z1,z2,z3⟩:=hb 0 h0
 refine bS Tryz.func92 (ht:=(fv (bxE.pure _) rfl)) ?_
 refine ia ?_
 refine an rfl (fun h10r h10=>?_) (fun h10r h10=>?_)
 ·omega
 ·refine cg ?_
  refine aA ?_
  refine bJ ?_
  refine aR (b:=_) rfl (by decide) ?_
  refine je ?_
  refine cp bK (iw (l.getD 0 default).x (by omega)) ?_
  refine bV ?_
  refine ab rfl (.sliceLl (a:=1) cT rfl Tryz.underlying122 lq rfl om) ?_
  refine ca ?_
  refine gE (fun(j:Nat) L=>(((((((((St.mk L.slot (hp [(2,⟨18,[.agg [.agg [ratL 0,ratL 0],.agg [ratL 0,ratL 0],.agg [ratL 0,ratL 0]]],true⟩),(4,⟨18,[.agg [spL (kE l 0 j),.agg [ratL 0,ratL 0],.agg [ratL 0,ratL 0]]],true⟩)])).put (some 0) (.list 9 (l.map cQ))).put (some 2) (.eptr 2 18 0 0)).put (some 4) (.eptr 4 18 0 0)).put (some 5) (iL 0)).put (some 12) (iL 0)).put (some 24) (.list 9 ((l.drop 1).map cQ))).put (some 25) (ai (l.length-1))).put (some 26) (ai j))) (fun j=>j≤l.length-1) (fun j=>l.length-1-j) 0 (Nat.zero_le _) ?_
  rintro j L2 hj
  refine bJ ?_
  refine an rfl (fun h27r h27=>?_) (fun h27r h27=>?_)
  ·have hj2:j<l.length-1:=by omega
   obtain⟨g1,g2,g3⟩:=hb (j+1) (by omega)
   have hH0:ap Tryz.prog 171 [spL (kE l 0 j),spL ((l.getD (j+1) default).x,(l.getD (j+1) default).x)] (spL (kE l 0 (j+1))):=ip (fun s t h1 h2=>qM s t (by omega) (by omega)) hR hb 0 j (by omega)
   refine bE ?_
   refine au 10 (by decide +kernel) ?_
   refine bV ?_
   refine cp bK (iw (l.getD (j+1) default).x (by omega)) ?_
   refine cp bf (hH0) ?_
   refine ca ?_
   refine aY (aP.kill _ 7) ?_
   refine ab rfl (.bin rfl rfl (a9 (by omega))) ?_
   refine bx ?_
   exact fA (j+1) (by omega)
  ·obtain rfl:j=l.length-1:=by omega
   refine bD ?_
   refine aA ?_
   refine bJ ?_
   refine aR (b:=_) rfl (by decide) ?_
   refine je ?_
   refine cp bK (iw (l.getD 0 default).y (by omega)) ?_
   refine bV ?_
   refine ab rfl (.sliceLl (a:=1) cT rfl Tryz.underlying122 lq rfl om) ?_
   refine ca ?_
   refine gE (fun(j:Nat) L=>(((((((((St.mk L.slot (hp [(2,⟨18,[.agg [.agg [ratL 0,ratL 0],.agg [ratL 0,ratL 0],.agg [ratL 0,ratL 0]]],true⟩),(4,⟨18,[.agg [spL (kE l 0 (l.length-1)),spL (kE l 1 j),.agg [ratL 0,ratL 0]]],true⟩)])).put (some 0) (.list 9 (l.map cQ))).put (some 2) (.eptr 2 18 0 0)).put (some 4) (.eptr 4 18 0 0)).put (some 5) (iL 1)).put (some 12) (iL 1)).put (some 24) (.list 9 ((l.drop 1).map cQ))).put (some 25) (ai (l.length-1))).put (some 26) (ai j))) (fun j=>j≤l.length-1) (fun j=>l.length-1-j) 0 (Nat.zero_le _) ?_
   rintro j L2 hj
   refine bJ ?_
   refine an rfl (fun h27r h27=>?_) (fun h27r h27=>?_)
   ·have hj2:j<l.length-1:=by omega
    obtain⟨g1,g2,g3⟩:=hb (j+1) (by omega)
    have hH1:ap Tryz.prog 171 [spL (kE l 1 j),spL ((l.getD (j+1) default).y,(l.getD (j+1) default).y)] (spL (kE l 1 (j+1))):=ip (fun s t h1 h2=>qM s t (by omega) (by omega)) hR hb 1 j (by omega)
    refine bE ?_
    refine au 10 (by decide +kernel) ?_
    refine bV ?_
    refine cp bK (iw (l.getD (j+1) default).y (by omega)) ?_
    refine cp bf (hH1) ?_
    refine ca ?_
    refine aY (aP.kill _ 7) ?_
    refine ab rfl (.bin rfl rfl (a9 (by omega))) ?_
    refine bx ?_
    exact fA (j+1) (by omega)
   ·obtain rfl:j=l.length-1:=by omega
    refine bD ?_
    refine aA ?_
    refine bJ ?_
    refine aR (b:=_) rfl (by decide) ?_
    refine je ?_
    refine cp bK (iw (l.getD 0 default).z (by omega)) ?_
    refine bV ?_
    refine ab rfl (.sliceLl (a:=1) cT rfl Tryz.underlying122 lq rfl om) ?_
    refine ca ?_
    refine gE (fun(j:Nat) L=>(((((((((St.mk L.slot (hp [(2,⟨18,[.agg [.agg [ratL 0,ratL 0],.agg [ratL 0,ratL 0],.agg [ratL 0,ratL 0]]],true⟩),(4,⟨18,[.agg [spL (kE l 0 (l.length-1)),spL (kE l 1 (l.length-1)),spL (kE l 2 j)]],true⟩)])).put (some 0) (.list 9 (l.map cQ))).put (some 2) (.eptr 2 18 0 0)).put (some 4) (.eptr 4 18 0 0)).put (some 5) (iL 2)).put (some 12) (iL 2)).put (some 24) (.list 9 ((l.drop 1).map cQ))).put (some 25) (ai (l.length-1))).put (some 26) (ai j))) (fun j=>j≤l.length-1) (fun j=>l.length-1-j) 0 (Nat.zero_le _) ?_
    rintro j L2 hj
    refine bJ ?_
    refine an rfl (fun h27r h27=>?_) (fun h27r h27=>?_)
    ·have hj2:j<l.length-1:=by omega
     obtain⟨g1,g2,g3⟩:=hb (j+1) (by omega)
     have hH2:ap Tryz.prog 171 [spL (kE l 2 j),spL ((l.getD (j+1) default).z,(l.getD (j+1) default).z)] (spL (kE l 2 (j+1))):=ip (fun s t h1 h2=>qM s t (by omega) (by omega)) hR hb 2 j (by omega)
     refine bE ?_
     refine au 10 (by decide +kernel) ?_
     refine bV ?_
     refine cp bK (iw (l.getD (j+1) default).z (by omega)) ?_
     refine cp bf (hH2) ?_
     refine ca ?_
     refine aY (aP.kill _ 7) ?_
     refine ab rfl (.bin rfl rfl (a9 (by omega))) ?_
     refine bx ?_
     exact fA (j+1) (by omega)
    ·obtain rfl:j=l.length-1:=by omega
     refine bD ?_
     refine aA ?_
     refine bJ ?_
     refine bb (b:=_) rfl (by decide) ?_
     refine ct ?_
     exact fG [] rfl rfl rfl cs (bX cs rfl) Em (.pure pu) rfl (.pure rfl)
namespace Kv
theorem bQ {p q:Prop} (k:q) (e:p=q:=by simp only [e1,e2,e3,e4,p1,p2,p3,q1,q2,q3,l1,t0,t1,r1,r2,r3,r4,Nat.zero_add,Nat.reduceMul,Nat.reduceAdd,b1,b2,b3,b4,b5,b6,i1,i2,i3,i4,i5,i6,Nat.reduceBEq,List.getD_cons_zero,List.getD_cons_succ,List.set_cons_zero,List.set_cons_succ,Nat.reduceEqDiff,reduceIte,if_true,if_false,aN,aM,ae cT,ae cA,ae ah,ax,aC,LV.kill,aH];exact rfl):p:=e.mpr k
end Kv
open Kv in
theorem yN (p:V3):ap Tryz.prog 172 [cQ p] (wx ⟨(p.x,p.x),(p.y,p.y),(p.z,p.z)⟩):=by
 refine bS Tryz.func172 (ht:=(fun r=>LV.ren_pure r _ (bxE.pure _))) ?_
 refine bV ?_
 refine au 10 (by decide +kernel) ?_
 refine bG ?_
 refine cp bK (iB p.x) ?_
 refine bG ?_
 refine cp bK (iB p.y) ?_
 refine bG ?_
 refine cp bK (iB p.z) ?_
 refine jc (Ih rfl rfl rfl) ?_
 refine bw ?_
 exact b9 [] rfl rfl rfl cs (bX cs rfl) Em (.pure pu)
namespace Kg
theorem bQ {p q:Prop} (k:q) (e:p=q:=by simp only [e1,e2,e3,e4,p1,p2,p3,q1,q2,q3,l1,t0,t1,r1,r2,r3,r4,Nat.zero_add,Nat.reduceMul,Nat.reduceAdd,b1,b2,b3,b4,b5,b6,i1,i2,i3,i4,i5,i6,Nat.reduceBEq,EQ,Cv,dU,Nat.sub_self,Nat.add_sub_cancel,List.length_map,List.set_cons_zero,List.set_cons_succ,Nat.reduceEqDiff,reduceIte,if_true,if_false,aN,aM,ae cT,ae cA,ae ah,ax,aC,LV.kill,aH];exact rfl):p:=e.mpr k
end Kg
open Kg in
theorem xD (l:List V3) (h0:0<l.length) (hl:l.length≤1000) (R:Nat) (hR:R≤1000000) (hb:∀ i,i<l.length→eN R (l.getD i default)):ap Tryz.prog 93 [.list 9 (l.map cQ)] (.tup [wx (Fn l),iL 0]):=by
 have hPB:ap Tryz.prog 172 [cQ (l.getD 0 default)] (.agg [spL (kE l 0 0),spL (kE l 1 0),spL (kE l 2 0)]):=yN (l.getD 0 default)
 refine bS Tryz.func93 (ht:=(fv (bxE.pure _) rfl)) ?_
 refine dI ?_
 refine an rfl (fun h9r h9=>?_) (fun h9r h9=>?_)
 ·omega
 ·refine bV ?_
  refine cp bK (hPB) ?_
  refine bD ?_
  refine gE (fun(i:Nat) L=>(((((St.mk L.slot (hp [(2,⟨18,[.agg [.agg [ratL 0,ratL 0],.agg [ratL 0,ratL 0],.agg [ratL 0,ratL 0]]],true⟩),(4,⟨18,[.agg [spL (kE l 0 (i-1)),spL (kE l 1 (i-1)),spL (kE l 2 (i-1))]],true⟩)])).put (some 0) (.list 9 (l.map cQ))).put (some 2) (.eptr 2 18 0 0)).put (some 4) (.eptr 4 18 0 0)).put (some 5) (ai i))) (fun i=>1≤i∧i≤l.length) (fun i=>l.length-i) 1 ⟨Nat.le_refl _,h0⟩ ?_
  rintro i L1 ⟨hi1,hi⟩
  refine cg ?_
  refine an rfl (fun h18r h18=>?_) (fun h18r h18=>?_)
  ·have hi2:i<l.length:=by omega
   obtain⟨k,rfl⟩:∃ k,i=k+1:=⟨i-1,by omega⟩
   obtain⟨g1,g2,g3⟩:=hb (k+1) (by omega)
   have hH0:ap Tryz.prog 173 [spL (kE l 0 k),spL ((l.getD (k+1) default).x,(l.getD (k+1) default).x)] (spL (kE l 0 (k+1))):=ip (fun s t h1 h2=>qe s t (by omega) (by omega)) hR hb 0 k (by omega)
   have hH1:ap Tryz.prog 173 [spL (kE l 1 k),spL ((l.getD (k+1) default).y,(l.getD (k+1) default).y)] (spL (kE l 1 (k+1))):=ip (fun s t h1 h2=>qe s t (by omega) (by omega)) hR hb 1 k (by omega)
   have hH2:ap Tryz.prog 173 [spL (kE l 2 k),spL ((l.getD (k+1) default).z,(l.getD (k+1) default).z)] (spL (kE l 2 (k+1))):=ip (fun s t h1 h2=>qe s t (by omega) (by omega)) hR hb 2 k (by omega)
   refine bv ?_
   refine aA ?_
   refine bV ?_
   refine aR (b:=_) rfl (by decide) ?_
   refine bw ?_
   refine au 13 (by decide +kernel) ?_
   refine bv ?_
   refine cp bK (iB (l.getD (k+1) default).x) ?_
   refine cp bf (hH0) ?_
   refine bD ?_
   refine aA ?_
   refine bV ?_
   refine aR (b:=_) rfl (by decide) ?_
   refine bw ?_
   refine au 13 (by decide +kernel) ?_
   refine bv ?_
   refine cp bK (iB (l.getD (k+1) default).y) ?_
   refine cp bf (hH1) ?_
   refine bD ?_
   refine aA ?_
   refine bV ?_
   refine aR (b:=_) rfl (by decide) ?_
   refine bw ?_
   refine au 13 (by decide +kernel) ?_
   refine bv ?_
   refine cp bK (iB (l.getD (k+1) default).z) ?_
   refine cp bf (hH2) ?_
   refine bD ?_
   refine aA ?_
   refine bV ?_
   refine bb (b:=_) rfl (by decide) ?_
   refine cx ?_
   refine ab rfl (.bin rfl rfl (a9 (by omega))) ?_
   refine bx ?_
   exact fA (k+1+1) ⟨by omega,by omega⟩
  ·obtain rfl:i=l.length:=by omega
   refine ct ?_
   exact fG [] rfl rfl rfl cs (bX cs rfl) Em (.pure pu) rfl (.pure rfl)
def iF (d:Nat) (a b:Rat):List Rat:=List.replicate (d+1) a++List.replicate (d+1) b
theorem Au (d:Nat) (a b:Rat):(iF d a b).length=2*(d+1):=by simp [iF];omega
theorem uP (d:Nat) (a b:Rat) (i:Nat) (h:i<2*(d+1)):(iF d a b).getD i 0=if i<d+1 then a else b:=by
 unfold iF
 split
 ·rw [BN (by simp;omega),gy (by omega)]
 ·rw [B1 (by simp;omega),List.length_replicate,gy (by omega)]
theorem DN (d:Nat) (a b:Rat):(iF d a b).getD 0 0=a:=by rw [uP _ _ _ _ (by omega),if_pos (by omega)]
theorem Do (d:Nat) (a b:Rat):(iF d a b).getD (2*(d+1)-1) 0=b:=by rw [uP _ _ _ _ (by omega),if_neg (by omega)]
theorem CW {a b:Rat} (h:a<b):s9 a b=a:=by unfold s9;rw [if_neg (by grind)]
theorem Eh {a b:Rat} (h:a<b):mA a b=b:=by unfold mA;rw [if_pos h]
theorem qW {p:List Rat} {x:Rat} (hl:p.length≤7) (hp:∀ y∈p,rl y≤7000000) (hx:rl x≤100000):HS p x:=by
 have h1:=fo 1 x
 have h0:rl 1=1:=rfl
 refine⟨rl (1-x)+rl x+1,Nat.le_refl _,by omega,fun y hy=>?_⟩
 have h2:=hp y hy
 have h3:2 ^ p.length≤2 ^ 7:=Nat.pow_le_pow_right (by decide) hl
 have h4:(rl y+(rl (1-x)+rl x+1))*2 ^ p.length≤8000000*2 ^ 7:=Nat.mul_le_mul (by omega) h3
 omega
namespace Ln
theorem bQ {p q:Prop} (k:q) (e:p=q:=by simp only [e1,e2,e3,e4,p1,p2,p3,q1,q2,q3,l1,t0,t1,r1,r2,r3,r4,Nat.zero_add,Nat.reduceMul,Nat.reduceAdd,b1,b2,b3,b4,b5,b6,i1,i2,i3,i4,i5,i6,Nat.reduceBEq,List.set_cons_zero,List.set_cons_succ,Nat.reduceEqDiff,reduceIte,if_true,if_false,aN,aM,ae cT,ae cA,ae ah,ax,aC,LV.kill,aH];exact rfl):p:=e.mpr k
end Ln
open Ln in
theorem Ex (q:PoR) (R:Nat) (hR:R≤1000000) (h:jN R q):ap Tryz.prog 77 [dX q] (.agg [ratL (q.w*q.p.x),ratL (q.w*q.p.y),ratL (q.w*q.p.z),ratL q.w]):=by
 obtain⟨⟨a1,a2,a3⟩,a4,_⟩:=h
 have hA:=gh q.w 0 (by have:rl 0=1:=rfl;omega)
 rw [Rat.add_zero] at hA
 refine bS Tryz.func77 (ht:=(fun g=>LV.ren_pure g _ pu)) ?_
 refine ib ?_
 refine aA ?_
 refine bJ ?_
 refine aR (b:=_) rfl (by decide) ?_
 refine je ?_
 refine cp bf (dc q.w q.p.x (by omega)) ?_
 refine ca ?_
 refine aY (aP.kill _ 5) ?_
 refine bw ?_
 refine aA ?_
 refine bJ ?_
 refine aR (b:=_) rfl (by decide) ?_
 refine je ?_
 refine cp bf (dc q.w q.p.y (by omega)) ?_
 refine ca ?_
 refine aY (aP.kill _ 5) ?_
 refine bw ?_
 refine aA ?_
 refine bJ ?_
 refine aR (b:=_) rfl (by decide) ?_
 refine je ?_
 refine cp bf (dc q.w q.p.z (by omega)) ?_
 refine ca ?_
 refine aY (aP.kill _ 5) ?_
 refine bw ?_
 refine aA ?_
 refine bJ ?_
 refine bb (b:=_) rfl (by decide) ?_
 refine cg ?_
 refine ab rfl (.build0 lU cz) ?_
 refine cp bf (hA) ?_
 refine bD ?_
 exact b9 [] rfl rfl rfl cs (bX cs rfl) EO (.pure pu)
namespace La
theorem bQ {p q:Prop} (k:q) (e:p=q:=by simp only [e1,e2,e3,e4,p1,p2,p3,q1,q2,q3,l1,t0,t1,r1,r2,r3,r4,Nat.zero_add,Nat.reduceMul,Nat.reduceAdd,b1,b2,b3,b4,b5,b6,i1,i2,i3,i4,i5,i6,Nat.reduceBEq,List.set_cons_zero,List.set_cons_succ,Nat.reduceEqDiff,reduceIte,if_true,if_false,aN,aM,ae cT,ae cA,ae ah,ax,aC,LV.kill,aH];exact rfl):p:=e.mpr k
end La
open La in
theorem A7 (q:PoR) (R:Nat) (hR:R≤1000000) (h:jN R q):ap Tryz.prog 78 [dX q] (.agg [ratL (q.w*q.p.x),ratL (q.w*q.p.y),ratL (q.w*q.p.z),ratL q.w]):=by
 obtain⟨hp,hw,hpos⟩:=h
 refine bS Tryz.func78 (ht:=(fun g=>LV.ren_pure g _ pu)) ?_
 refine bE ?_
 refine cp bf (wG q.w q.p R (by omega) hw hp) ?_
 refine ia ?_
 exact b9 [] rfl rfl rfl cs (bX cs rfl) EK (.pure pu)
def Ek (l:List Rat):Bool:=l.all fun q=>decide (lK q≤2048)
theorem tC {α:Type} [Inhabited α] {f:α→Bool} {l:List α} {i:Nat} (hi:i<l.length) (h:f (l.getD i default)=false):l.all f=false:=by
 rw [List.all_eq_false]
 exact⟨l.getD i default,jP hi,by rw [h];decide⟩
theorem tU {α:Type} [Inhabited α] {f:α→Bool} {l:List α} (h:∀ i,i<l.length→f (l.getD i default)=true):l.all f=true:=by
 rw [List.all_eq_true]
 intro x hx
 obtain⟨i,hi,rfl⟩:=List.mem_iff_getElem.1 hx
 have:=h i hi
 rwa [List.getD_eq_getElem?_getD,List.getElem?_eq_getElem hi] at this
theorem tN {l:List Rat} {R:Nat} (hR:R≤64) (h:∀ x∈l,rl x≤R):Ek l=true:=by
 unfold Ek
 rw [List.all_eq_true]
 intro x hx
 have:=vD (h x hx)
 exact decide_eq_true (by omega)
theorem ny (k:List Rat):∀ n,0<n→(cP k n).getD 0 0=k.getD 0 0
 | 1,_=>by rw [cP,if_pos (.inl rfl)];rfl
 | n+2,_=>by
  have ih:=ny k (n+1) (by omega)
  have hp:=mq k (n+1) (by omega)
  rw [cP];split
  ·rw [BN hp];exact ih
  ·exact ih
theorem mj (k:List Rat):∀ n,0<n→(cP k n).getD ((cP k n).length-1) 0=k.getD (n-1) 0
 | 1,_=>by rw [cP,if_pos (.inl rfl)];rfl
 | n+2,_=>by
  have ih:=mj k (n+1) (by omega)
  rw [cP];split
  ·rw [List.length_append,List.length_singleton,Nat.add_sub_cancel,B1 (Nat.le_refl _),Nat.sub_self];rfl
  ·rename_i h
   have h:k.getD (n+1) 0=k.getD (n+1-1) 0:=Classical.byContradiction fun e=>h (.inr e)
   rw [ih,show n+2-1=n+1 by omega,h]
theorem pV {k:List Rat} (hs:∀ i,i+1<k.length→k.getD i 0≤k.getD (i+1) 0):∀ n,0<n→n≤k.length→∀ i j,i<j→j<(cP k n).length→(cP k n).getD i 0<(cP k n).getD j 0
 | 1,_,_,i,j,hij,hj=>by
  have:=nQ k 1
  omega
 | n+2,_,hn,i,j,hij,hj=>by
  have ih:=pV hs (n+1) (by omega) (by omega)
  have hl:=mj k (n+1) (by omega)
  have hp:=mq k (n+1) (by omega)
  rw [cP] at hj ⊢
  split at hj
  ·rename_i h
   rw [if_pos h]
   rw [List.length_append,List.length_singleton] at hj
   have hlt:k.getD n 0<k.getD (n+1) 0:=by
    have h1:=hs n (by omega)
    rcases h with h | h
    ·omega
    ·have h:k.getD (n+1) 0≠k.getD n 0:=h
     grind
   rcases Nat.lt_or_ge j (cP k (n+1)).length with c | c
   ·rw [BN (by omega),BN c];exact ih i j hij c
   ·obtain rfl:j=(cP k (n+1)).length:=by omega
    rw [BN (by omega),B1 (Nat.le_refl _),Nat.sub_self]
    show _<k.getD (n+1) 0
    have hl:(cP k (n+1)).getD ((cP k (n+1)).length-1) 0=k.getD n 0:=hl
    rcases Nat.lt_or_ge i ((cP k (n+1)).length-1) with c2 | c2
    ·have:=ih i ((cP k (n+1)).length-1) c2 (by omega)
     rw [hl] at this
     grind
    ·obtain rfl:i=(cP k (n+1)).length-1:=by omega
     rw [hl];exact hlt
  ·rename_i h
   rw [if_neg h];exact ih i j hij hj
theorem Ey {k:List Rat} {d:Nat} (h:kOK k d) {i:Nat} (hi:i<(cP k k.length).length) :
  ((i=0∨i=(cP k k.length).length-1)→gu k ((cP k k.length).getD i 0) k.length=d+1)∧gu k ((cP k k.length).getD i 0) k.length≤d+1∧(0<i→i<(cP k k.length).length-1→gu k ((cP k k.length).getD i 0) k.length≤d):=by
 have hl:=h.len
 have h0:0<k.length:=by omega
 have hm:=lm k k.length (Nat.le_refl _) _ (bi hi)
 have e0:=ny k k.length h0
 have e1:=mj k k.length h0
 refine⟨fun hc=>h.endk _ hm ?_,?_,fun p q=>?_⟩
 ·rcases hc with rfl | rfl
  ·exact .inl e0
  ·exact .inr e1
 ·by_cases c0:(cP k k.length).getD i 0=k.getD 0 0
  ·exact Nat.le_of_eq (h.endk _ hm (.inl c0))
  ·by_cases c1:(cP k k.length).getD i 0=k.getD (k.length-1) 0
   ·exact Nat.le_of_eq (h.endk _ hm (.inr c1))
   ·exact Nat.le_succ_of_le (h.ink _ hm c0 c1)
 ·have m0:=pV h.srt k.length h0 (Nat.le_refl _) 0 i p hi
  have m1:=pV h.srt k.length h0 (Nat.le_refl _) i ((cP k k.length).length-1) q (by omega)
  rw [e0] at m0
  rw [e1] at m1
  exact h.ink _ hm (by grind) (by grind)
theorem Dt {k:List Rat} {d:Nat} (h:kOK k d):2≤(cP k k.length).length:=by
 have hl:=h.len
 have h0:0<k.length:=by omega
 have hp:=mq k k.length h0
 rcases Nat.lt_or_ge (cP k k.length).length 2 with c | c
 ·exfalso
  have e0:=ny k k.length h0
  have e1:=mj k k.length h0
  rw [show (cP k k.length).length-1=0 by omega,e0] at e1
  exact h.ne e1
 ·exact c
namespace KB
theorem bQ {p q:Prop} (k:q) (e:p=q:=by simp only [e1,e2,e3,e4,p1,p2,p3,q1,q2,q3,l1,t0,t1,r1,r2,r3,r4,Nat.zero_add,Nat.reduceMul,Nat.reduceAdd,b1,b2,b3,b4,b5,b6,i1,i2,i3,i4,i5,i6,Nat.reduceBEq,az,cS,zD,List.length_cons,List.length_nil];exact rfl):p:=e.mpr k
end KB
open KB in
theorem iz (q:Rat) (h:rl q≤68719476736):ap Tryz.prog 167 [ratL q] (bL true):=by
 have a1:=db q
 have a2:=dx q
 have a3:=cF q
 have hne:=sn q
 have hg1:=EP q
 have hG:=xW q.num.natAbs q.den (by omega) (by omega)
 rw [hg1] at hG
 have hk:¬ ((aE (eP q)).length=1∧(aE (eP q)).getD 0 0=1):=fun⟨a,b⟩=>by
  have:=(gr (n:=eP q) a).1
  omega
 have hz0:(aE q.num.natAbs).length=0→(aE (eP q)).length=0∧¬ q<0:=fun h=>by
  have hz:=oO h
  subst hz
  exact⟨by decide,by decide +kernel⟩
 have hd1:aE 1=[1]:=fx (by decide) (by decide)
 rw [show ba 1=.list 1 ([1].map bh) from by rw [ba,hd1]] at hG
 refine bS Tryz.func167 ?_
 refine bD ?_
 refine cp bK (oT _ (by omega)) ?_
 refine bw ?_
 refine cp bK (oT _ (by omega)) ?_
 refine cx ?_
 refine bT 19 rfl (fun h19r h19=>?_) (fun h19r h19=>?_)
 ·refine cx ?_
  refine bT 27 rfl (fun h27r h27=>?_) (fun h27r h27=>?_)
  ·exfalso
   omega
  ·refine ca ?_
   refine bT 32 rfl (fun h32r h32=>?_) (fun h32r h32=>?_)
   ·refine bx ?_
    refine ab (ao (v:=false) rfl rfl ((decide_eq_false (hz0 (by omega)).2)) rfl) gI ?_
    refine ab (ao (v:=false) rfl rfl ((decide_eq_false (hz0 (by omega)).2)) rfl) fS ?_
    refine ab (ao (v:=false) rfl rfl ((decide_eq_false (hz0 (by omega)).2)) rfl) vp ?_
    refine ab (ao (v:=false) rfl rfl ((decide_eq_false (hz0 (by omega)).2)) rfl) (.bin rfl rfl rfl) ?_
    refine ab (ao (v:=true) rfl rfl (h32r) rfl) (.pickF rfl ((decide_eq_false (hz0 (by omega)).2))) ?_
    refine bw ?_
    refine bb (b:=_) rfl (decide_eq_false (by have:=(hz0 (by omega)).1;omega)) ?_
    refine bx ?_
    refine au 6 (by decide +kernel) ?_
    refine bx ?_
    refine cp bK (fq _) ?_
    refine cp bf (hG) ?_
    refine cg ?_
    refine ab (ao (v:=true) rfl rfl ((by decide)) rfl) (.move _) ?_
    refine ab (ao (v:=true) rfl rfl ((by decide)) rfl) qN ?_
    refine ab (ao (v:=true) rfl rfl ((by decide)) rfl) fS ?_
    refine ab (ao (v:=true) rfl rfl ((by decide)) rfl) (.bin rfl rfl rfl) ?_
    refine ab rfl (.pickT rfl ((by decide))) ?_
    refine bw ?_
    exact aS rfl (by first | exact .pure rfl | exact .pure (aG _) | exact .pure (ar _) | exact .pure (ah.pure _) | exact .pure (ak bB _ _) | exact .pure (ak ah _ _))
   ·refine ie ?_
    refine au 6 (by decide +kernel) ?_
    refine bx ?_
    refine cp bK (fq _) ?_
    refine cp bf (hG) ?_
    refine cg ?_
    refine ab (ao (v:=true) rfl rfl ((by decide)) rfl) (.move _) ?_
    refine ab (ao (v:=true) rfl rfl ((by decide)) rfl) qN ?_
    refine ab (ao (v:=true) rfl rfl ((by decide)) rfl) fS ?_
    refine ab (ao (v:=true) rfl rfl ((by decide)) rfl) (.bin rfl rfl rfl) ?_
    refine ab rfl (.pickT rfl ((by decide))) ?_
    refine bw ?_
    exact aS rfl (by first | exact .pure rfl | exact .pure (aG _) | exact .pure (ar _) | exact .pure (ah.pure _) | exact .pure (ak bB _ _) | exact .pure (ak ah _ _))
 ·refine ct ?_
  refine bT 32 rfl (fun h32r h32=>?_) (fun h32r h32=>?_)
  ·refine bx ?_
   refine ab (ao (v:=false) rfl rfl ((decide_eq_false (hz0 (by omega)).2)) rfl) gI ?_
   refine ab (ao (v:=false) rfl rfl ((decide_eq_false (hz0 (by omega)).2)) rfl) fS ?_
   refine ab (ao (v:=false) rfl rfl ((decide_eq_false (hz0 (by omega)).2)) rfl) vp ?_
   refine ab (ao (v:=false) rfl rfl ((decide_eq_false (hz0 (by omega)).2)) rfl) (.bin rfl rfl rfl) ?_
   refine ab (ao (v:=true) rfl rfl (h32r) rfl) (.pickF rfl ((decide_eq_false (hz0 (by omega)).2))) ?_
   refine bw ?_
   refine bb (b:=_) rfl (decide_eq_false (by have:=(hz0 (by omega)).1;omega)) ?_
   refine bx ?_
   refine au 6 (by decide +kernel) ?_
   refine bx ?_
   refine cp bK (fq _) ?_
   refine cp bf (hG) ?_
   refine cg ?_
   refine ab (ao (v:=true) rfl rfl ((by decide)) rfl) (.move _) ?_
   refine ab (ao (v:=true) rfl rfl ((by decide)) rfl) qN ?_
   refine ab (ao (v:=true) rfl rfl ((by decide)) rfl) fS ?_
   refine ab (ao (v:=true) rfl rfl ((by decide)) rfl) (.bin rfl rfl rfl) ?_
   refine ab rfl (.pickT rfl ((by decide))) ?_
   refine bw ?_
   exact aS rfl (by first | exact .pure rfl | exact .pure (aG _) | exact .pure (ar _) | exact .pure (ah.pure _) | exact .pure (ak bB _ _) | exact .pure (ak ah _ _))
  ·refine ie ?_
   refine au 6 (by decide +kernel) ?_
   refine bx ?_
   refine cp bK (fq _) ?_
   refine cp bf (hG) ?_
   refine cg ?_
   refine ab (ao (v:=true) rfl rfl ((by decide)) rfl) (.move _) ?_
   refine ab (ao (v:=true) rfl rfl ((by decide)) rfl) qN ?_
   refine ab (ao (v:=true) rfl rfl ((by decide)) rfl) fS ?_
   refine ab (ao (v:=true) rfl rfl ((by decide)) rfl) (.bin rfl rfl rfl) ?_
   refine ab rfl (.pickT rfl ((by decide))) ?_
   refine bw ?_
   exact aS rfl (by first | exact .pure rfl | exact .pure (aG _) | exact .pure (ar _) | exact .pure (ah.pure _) | exact .pure (ak bB _ _) | exact .pure (ak ah _ _))
namespace KO
theorem bQ {p q:Prop} (k:q) (e:p=q:=by simp only [e1,e2,e3,e4,p1,p2,p3,q1,q2,q3,l1,t0,t1,r1,r2,r3,r4,Nat.zero_add,Nat.reduceMul,Nat.reduceAdd,b1,b2,b3,b4,b5,b6,i1,i2,i3,i4,i5,i6,Nat.reduceBEq,dU,List.set_cons_zero,List.set_cons_succ,Nat.reduceEqDiff,reduceIte,if_true,if_false,aN,aM,ae cT,ae cA,ae ah,ax,aC,LV.kill,aH];exact rfl):p:=e.mpr k
end KO
open KO in
theorem pI (c:List Rat) (hl:c.length≤1048576) (hcR:∀ x∈c,rl x≤68719476736):ap Tryz.prog 165 [.list 3 (c.map ratL)] (bL true):=by
 refine bS Tryz.func165 ?_
 refine bE ?_
 refine gE (fun(k:Nat) L=>(((St.mk L.slot (hp [])).put (some 0) (.list 3 (c.map ratL))).put (some 3) (ai k))) (fun k=>k≤c.length) (fun k=>c.length-k) 0 (Nat.zero_le _) ?_
 rintro k L1 hk
 refine cg ?_
 refine an rfl (fun h7r h7=>?_) (fun h7r h7=>?_)
 ·have hk2:k<c.length:=by omega
  have hr1:=hcR _ (bi (i:=k) hk2)
  refine bv ?_
  refine cp bK (iz (c.getD k 0) (by omega)) ?_
  refine cg ?_
  refine ab rfl (.bin rfl rfl (a9 (by omega))) ?_
  refine bx ?_
  exact fA (k+1) (by omega)
 ·refine bD ?_
  exact aS rfl (by first | exact .pure rfl | exact .pure (aG _) | exact .pure (ar _) | exact .pure (ah.pure _) | exact .pure (ak bB _ _) | exact .pure (ak ah _ _))
namespace KA
theorem bQ {p q:Prop} (k:q) (e:p=q:=by simp only [e1,e2,e3,e4,p1,p2,p3,q1,q2,q3,l1,t0,t1,r1,r2,r3,r4,Nat.zero_add,Nat.reduceMul,Nat.reduceAdd,b1,b2,b3,b4,b5,b6,i1,i2,i3,i4,i5,i6,Nat.reduceBEq,az];exact rfl):p:=e.mpr k
end KA
open KA in
theorem xE (q:Rat) (h:rl q≤1000000):ap Tryz.prog 234 [ratL q] (ai (lK q)):=by
 have a1:=db q
 have a2:=dx q
 have a3:=cF q
 refine bS Tryz.func234 ?_
 refine bV ?_
 refine au 8 (by decide +kernel) ?_
 refine bG ?_
 refine cp bK (qQ _ (by omega)) ?_
 refine aL ?_
 refine cp bK (fq _) ?_
 refine cp bK (qQ _ (by omega)) ?_
 refine ca ?_
 rw [lK]
 refine aS ?_ (.pure rfl)
 simp only [e1,e2,e3,e4,p1,p2,p3,q1,q2,q3,Nat.reduceBEq,az]
 congr 2
 omega
namespace KD
theorem bQ {p q:Prop} (k:q) (e:p=q:=by simp only [e1,e2,e3,e4,p1,p2,p3,q1,q2,q3,l1,t0,t1,r1,r2,r3,r4,Nat.zero_add,Nat.reduceMul,Nat.reduceAdd,b1,b2,b3,b4,b5,b6,i1,i2,i3,i4,i5,i6,Nat.reduceBEq,dU,List.set_cons_zero,List.set_cons_succ,Nat.reduceEqDiff,reduceIte,if_true,if_false,aN,aM,ae cT,ae cA,ae ah,ax,aC,LV.kill,aH];exact rfl):p:=e.mpr k
end KD
open KD in
theorem nV (l:List Rat) (hl:l.length≤1000) (hr:∀ x∈l,rl x≤1000000):ap Tryz.prog 170 [.list 3 (l.map ratL)] (bL (Ek l)):=by
 refine bS Tryz.func170 ?_
 refine bE ?_
 refine gE (fun(k:Nat) L=>(((St.mk L.slot (hp [])).put (some 0) (.list 3 (l.map ratL))).put (some 3) (ai k))) (fun k=>k≤l.length∧∀ i,i<k→decide (lK (l.getD i default)≤2048)=true) (fun k=>l.length-k) 0 ⟨Nat.zero_le _,fun i hi=>absurd hi (Nat.not_lt_zero i)⟩ ?_
 rintro k L1 ⟨hk,hs⟩
 refine cg ?_
 refine an rfl (fun h7r h7=>?_) (fun h7r h7=>?_)
 ·have hk2:k<l.length:=by omega
  have hr1:=hr _ (bi (i:=k) hk2)
  refine bv ?_
  refine cp bK (xE (l.getD k 0) (by omega)) ?_
  refine bx ?_
  refine an rfl (fun h15r h15=>?_) (fun h15r h15=>?_)
  ·have hV:Ek l=false:=tC (f:=fun q=>decide (lK q≤2048)) hk2 (decide_eq_false (by show ¬lK (l.getD k 0)≤2048;omega))
   refine bD ?_
   rw [hV]
   exact aS rfl (by first | exact .pure rfl | exact .pure (aG _) | exact .pure (ar _) | exact .pure (ah.pure _) | exact .pure (ak bB _ _) | exact .pure (ak ah _ _))
  ·have hsn:∀ i,i<k+1→decide (lK (l.getD i default)≤2048)=true:=fun i hi=>by
    rcases Nat.lt_succ_iff_lt_or_eq.1 hi with c | rfl
    ·exact hs i c
    ·exact decide_eq_true (by show lK (l.getD i 0)≤2048;omega)
   refine ca ?_
   refine ab rfl (.bin rfl rfl (a9 (by omega))) ?_
   refine bx ?_
   exact fA (k+1) ⟨by omega,hsn⟩
 ·obtain rfl:k=l.length:=by omega
  have hV:Ek l=true:=tU hs
  refine bD ?_
  rw [hV]
  exact aS rfl (by first | exact .pure rfl | exact .pure (aG _) | exact .pure (ar _) | exact .pure (ah.pure _) | exact .pure (ak bB _ _) | exact .pure (ak ah _ _))
namespace Ky
theorem bQ {p q:Prop} (k:q) (e:p=q:=by simp only [e1,e2,e3,e4,p1,p2,p3,q1,q2,q3,l1,t0,t1,r1,r2,r3,r4,Nat.zero_add,Nat.reduceMul,Nat.reduceAdd,b1,b2,b3,b4,b5,b6,i1,i2,i3,i4,i5,i6,Nat.reduceBEq,List.set_cons_zero,List.set_cons_succ,Nat.reduceEqDiff,reduceIte,if_true,if_false,aN,aM,ae cT,ae cA,ae ah,ax,aC,LV.kill,aH];exact rfl):p:=e.mpr k
end Ky
open Ky in
theorem ux (p:V3) (h:eN 1000000 p):ap Tryz.prog 166 [cQ p] (bL true):=by
 obtain⟨a1,a2,a3⟩:=h
 refine bS Tryz.func166 ?_
 refine bv ?_
 refine cp bK (iz p.x (by omega)) ?_
 refine bx ?_
 refine cp bK (iz p.y (by omega)) ?_
 refine bw ?_
 refine cp bK (iz p.z (by omega)) ?_
 refine ca ?_
 exact aS rfl (.pure rfl)
namespace KH
theorem bQ {p q:Prop} (k:q) (e:p=q:=by simp only [e1,e2,e3,e4,p1,p2,p3,q1,q2,q3,l1,t0,t1,r1,r2,r3,r4,Nat.zero_add,Nat.reduceMul,Nat.reduceAdd,b1,b2,b3,b4,b5,b6,i1,i2,i3,i4,i5,i6,Nat.reduceBEq,dU,etm,List.set_cons_zero,List.set_cons_succ,Nat.reduceEqDiff,reduceIte,if_true,if_false,aN,aM,ae cT,ae cA,ae ah,ax,aC,LV.kill,aH];exact rfl):p:=e.mpr k
end KH
open KH in
theorem yU (k:List Rat) (hl:k.length≤1000) (hr:∀ x∈k,rl x≤1000000) (t:Rat) (ht:rl t≤1000000):ap Tryz.prog 233 [.list 3 (k.map ratL),ratL t] (ai (gu k t k.length)):=by
 refine bS Tryz.func233 ?_
 have etm:True:=trivial
 refine je ?_
 refine gE (fun(i:Nat) L=>(((((St.mk L.slot (hp [(3,⟨3,[ratL t],true⟩)])).put (some 0) (.list 3 (k.map ratL))).put (some 3) (.eptr 3 3 0 0)).put (some 5) (ai (gu k t i))).put (some 6) (ai i))) (fun i=>i≤k.length) (fun i=>k.length-i) 0 (Nat.zero_le _) ?_
 rintro i L1 hi
 refine cg ?_
 refine an rfl (fun h10r h10=>?_) (fun h10r h10=>?_)
 ·have hi2:i<k.length:=by omega
  have hx:=hr _ (bi (i:=i) (by omega))
  have htl:=ov k t i
  refine ca ?_
  refine au 6 (by decide +kernel) ?_
  refine ca ?_
  refine cp bf (fc (k.getD i 0) t (by omega)) ?_
  refine bG ?_
  refine an rfl (fun h18r h18=>?_) (fun h18r h18=>?_)
  ·have etm:gu k t (i+1)=gu k t i+1:=by rw [gu,if_pos h18]
   refine bG ?_
   refine ab rfl (.bin rfl rfl (a9 (by omega))) ?_
   refine bJ ?_
   refine ab rfl (.bin rfl rfl (a9 (by omega))) ?_
   refine bx ?_
   exact fA (i+1) (by omega)
  ·have etm:gu k t (i+1)=gu k t i:=by rw [gu,if_neg h18];rfl
   refine ca ?_
   refine ab rfl (.bin rfl rfl (a9 (by omega))) ?_
   refine bx ?_
   exact fA (i+1) (by omega)
 ·obtain rfl:i=k.length:=by omega
  refine bE ?_
  exact aS rfl (.pure rfl)
namespace Kj
theorem bQ {p q:Prop} (k:q) (e:p=q:=by simp only [e1,e2,e3,e4,p1,p2,p3,q1,q2,q3,l1,t0,t1,r1,r2,r3,r4,Nat.zero_add,Nat.reduceMul,Nat.reduceAdd,b1,b2,b3,b4,b5,b6,i1,i2,i3,i4,i5,i6,Nat.reduceBEq,dU,eij,eii,ers,etk,edl,List.length_map,aQ,bo,aW,List.length_cons,List.length_nil,List.nil_append,List.map_nil,List.take_nil,List.append_nil,List.set_cons_zero,List.set_cons_succ,Nat.reduceEqDiff,reduceIte,if_true,if_false,aN,aM,ae cT,ae cA,ae ah,ax,aC,LV.kill,aH];exact rfl):p:=e.mpr k
end Kj
open Kj in
theorem rQ (k:List Rat) (hl:k.length≤1000) (hr:∀ x∈k,rl x≤1000000):ap Tryz.prog 232 [.list 3 (k.map ratL)] (.list 3 ((cP k k.length).map ratL)):=by
 refine bS Tryz.func232 ?_
 have eij:True:=trivial
 have eii:True:=trivial
 have ers:True:=trivial
 have etk:True:=trivial
 have edl:True:=trivial
 refine iP ?_
 refine cN (aP.own (t:=3) 32 3 rfl rfl) ?_
 refine gE (fun(i:Nat) L=>((((St.mk L.slot (hp [(32,⟨3,(cP k i).map ratL,true⟩)])).put (some 0) (.list 3 (k.map ratL))).put (some 3) (.ref 32 3 0 (cP k i).length)).put (some 4) (ai i))) (fun i=>i≤k.length) (fun i=>k.length-i) 0 (Nat.zero_le _) ?_
 rintro i L1 hi
 refine cg ?_
 refine an rfl (fun h8r h8=>?_) (fun h8r h8=>?_)
 ·have hi2:i<k.length:=by omega
  have hdi:=nQ k i
  have hx:=hr _ (bi (i:=i) (by omega))
  have hx1:=hr _ (bi (i:=(i-1)) (by omega))
  refine ca ?_
  refine au 15 (by decide +kernel) ?_
  refine bx ?_
  refine bT 13 rfl (fun h13r h13=>?_) (fun h13r h13=>?_)
  ·have hc:i=0∨k.getD i 0≠k.getD (i-1) 0:=.inl (by omega)
   have ers:cP k i++[k.getD i 0]=cP k (i+1):=by rw [cP,if_pos hc]
   have edl:(cP k (i+1)).length=(cP k i).length+1:=by rw [cP,if_pos hc];simp
   have etk:((cP k i).map ratL).take (cP k i).length=(cP k i).map ratL:=List.take_of_length_le (by rw [List.length_map];omega)
   refine uj ?_
   refine aK rfl (.app (news:=[ratL (k.getD i 0)]) rfl rfl rfl rfl rfl (by rw [List.length_map];omega) (.inl rfl) (by decide) Tryz.underlying36 Tryz.underlying36 cz bF rfl f3 (.inl ⟨31,0,_,rfl,by decide,rfl,rfl,by simp,rfl,by simp [aD,ah.pure]⟩) (by simp;omega) (by simp;omega) (by decide)) ?_
   refine bw ?_
   refine aY (aP.kill _ 31) ?_
   refine aL ?_
   refine ab rfl (.bin rfl rfl (a9 (by omega))) ?_
   refine bx ?_
   exact fA (i+1) (by omega)
  ·have eij:((i:Int)-1).toNat=i-1:=by omega
   refine bJ ?_
   refine ab (ao (v:=false) rfl rfl (h13r) rfl) (.bin rfl rfl (ee (by omega) (by omega))) ?_
   refine bG ?_
   refine cp bf (fc (k.getD i 0) (k.getD (i-1) 0) (by omega)) ?_
   refine bw ?_
   refine an rfl (fun h25r h25=>?_) (fun h25r h25=>?_)
   ·have hc:i=0∨k.getD i 0≠k.getD (i-1) 0:=by first | exact .inl (by omega) | exact .inr h24 | exact .inr (by simpa using h24) | exact .inr h25 | exact .inr (by simpa using h25)
    have ers:cP k i++[k.getD i 0]=cP k (i+1):=by rw [cP,if_pos hc]
    have edl:(cP k (i+1)).length=(cP k i).length+1:=by rw [cP,if_pos hc];simp
    have etk:((cP k i).map ratL).take (cP k i).length=(cP k i).map ratL:=List.take_of_length_le (by rw [List.length_map];omega)
    refine bV ?_
    refine aK rfl (.app (news:=[ratL (k.getD i 0)]) rfl rfl rfl rfl rfl (by rw [List.length_map];omega) (.inl rfl) (by decide) Tryz.underlying36 Tryz.underlying36 cz bF rfl f3 (.inl ⟨31,0,_,rfl,by decide,rfl,rfl,by simp,rfl,by simp [aD,ah.pure]⟩) (by simp;omega) (by simp;omega) (by decide)) ?_
    refine bw ?_
    refine aY (aP.kill _ 31) ?_
    refine aL ?_
    refine ab rfl (.bin rfl rfl (a9 (by omega))) ?_
    refine bx ?_
    exact fA (i+1) (by omega)
   ·have ers:cP k (i+1)=cP k i:=by
     rw [cP,if_neg]
     rintro(e | e)
     ·omega
     ·first | exact e h24 | exact absurd e (by simpa using h24) | exact e h25 | exact absurd e (by simpa using h25)
    have edl:True:=trivial
    refine bx ?_
    refine aY (aP.kill _ 31) ?_
    refine aL ?_
    refine ab rfl (.bin rfl rfl (a9 (by omega))) ?_
    refine bx ?_
    exact fA (i+1) (by omega)
 ·obtain rfl:i=k.length:=by omega
  refine bE ?_
  exact fM [32] rfl rfl (bg ah rfl rfl rfl)
open H0 in
theorem lS (k:List Rat) (d:Nat) (h:d+1≤k.length) (hl:k.length≤1048576):ap Tryz.prog 169 [.list 3 (k.map ratL),ai d] (ai (k.length-d-1)):=by
 refine bS Tryz.func169 ?_
 refine bv ?_
 refine ab rfl (.bin rfl rfl (eo (by omega) (by omega))) ?_
 refine ab rfl (.bin rfl rfl (eo (by omega) (by omega))) ?_
 refine bw ?_
 refine aS ?_ (.pure rfl)
 simp only [e1,e2,e3,e4,p1,p2,p3,q1,q2,q3,Nat.reduceBEq]
 congr 2
 omega
namespace Km
theorem bQ {p q:Prop} (k:q) (e:p=q:=by simp only [e1,e2,e3,e4,p1,p2,p3,q1,q2,q3,l1,t0,t1,r1,r2,r3,r4,Nat.zero_add,Nat.reduceMul,Nat.reduceAdd,b1,b2,b3,b4,b5,b6,i1,i2,i3,i4,i5,i6,Nat.reduceBEq,dU,eij,List.length_map,List.set_cons_zero,List.set_cons_succ,Nat.reduceEqDiff,reduceIte,if_true,if_false,aN,aM,ae cT,ae cA,ae ah,ax,aC,LV.kill,aH];exact rfl):p:=e.mpr k
end Km
open Km in
theorem oY (k:List Rat) (d:Nat) (h:kOK k d):ap Tryz.prog 168 [.list 3 (k.map ratL),ai d] (iL 0):=by
 have hd1:=h.d1
 have hd6:=h.d6
 have hlen:=h.len
 have hmax:=h.max
 have hr:∀ x∈k,rl x≤1000000:=fun x hx=>Nat.le_trans (h.sz x hx) (by decide)
 have hds2:=Dt h
 have hdl:=nQ k k.length
 refine bS Tryz.func168 ?_
 have eij:True:=trivial
 refine bD ?_
 refine bT 11 rfl (fun h11r h11=>?_) (fun h11r h11=>?_)
 ·omega
 ·refine ca ?_
  refine an rfl (fun h14r h14=>?_) (fun h14r h14=>?_)
  ·omega
  ·refine cx ?_
   refine ab rfl (.bin rfl rfl (l9 (by omega) (by omega))) ?_
   refine ab rfl (.bin rfl rfl (ez (by omega) (by omega))) ?_
   refine bx ?_
   refine an rfl (fun h20r h20=>?_) (fun h20r h20=>?_)
   ·omega
   ·refine bV ?_
    refine cp bf (lS k d (by omega) (by omega)) ?_
    refine bx ?_
    refine an rfl (fun h24r h24=>?_) (fun h24r h24=>?_)
    ·omega
    ·refine cg ?_
     refine gE (fun(i:Nat) L=>((((St.mk L.slot (hp [])).put (some 0) (.list 3 (k.map ratL))).put (some 1) (ai d)).put (some 5) (ai (i+1)))) (fun i=>i+1≤k.length) (fun i=>k.length-i) 0 (by omega) ?_
     rintro i L1 hi
     refine cg ?_
     refine an rfl (fun h28r h28=>?_) (fun h28r h28=>?_)
     ·have hi2:i+1<k.length:=by omega
      have hx:=hr _ (bi (p:=k) (i:=i) (by omega))
      have hx1:=hr _ (bi (p:=k) (i:=i+1) (by omega))
      have hs1:=h.srt i hi2
      have eij:(((i+1:Nat):Int)-1).toNat=i:=by omega
      refine ca ?_
      refine au 11 (by decide +kernel) ?_
      refine bJ ?_
      refine ab rfl (.bin rfl rfl (ee (by omega) (by omega))) ?_
      refine bG ?_
      try simp only [t1,dU,Nat.add_sub_cancel,Int.toNat_natCast,eij]
      refine cp bf (qx (k.getD (i+1) 0) (k.getD i 0) (by omega)) ?_
      refine bx ?_
      refine an rfl (fun h41r h41=>?_) (fun h41r h41=>?_)
      ·have:=vc.2 (show k.getD i 0≤k.getD (i+1) 0 from hs1)
       omega
      ·refine ca ?_
       refine ab rfl (.bin rfl rfl (a9 (by omega))) ?_
       refine bx ?_
       exact fA (i+1) (by omega)
     ·refine cx ?_
      refine cp bK (rQ k (by omega) hr) ?_
      refine bv ?_
      refine gE (fun(i:Nat) L=>(((((St.mk L.slot (hp [])).put (some 0) (.list 3 (k.map ratL))).put (some 1) (ai d)).put (some 6) (.list 3 ((cP k k.length).map ratL))).put (some 7) (ai i))) (fun i=>i≤(cP k k.length).length) (fun i=>(cP k k.length).length-i) 0 (Nat.zero_le _) ?_
      rintro i L2 hi
      refine cg ?_
      refine an rfl (fun h47r h47=>?_) (fun h47r h47=>?_)
      ·have hi2:i<(cP k k.length).length:=by omega
       have hm:=lm k k.length (Nat.le_refl _) _ (bi hi2)
       have hrt:=hr _ hm
       obtain⟨w1,w2,w3⟩:=Ey h hi2
       refine bD ?_
       refine cp bf (yU k (by omega) hr ((cP k k.length).getD i 0) hrt) ?_
       refine cx ?_
       refine bT 58 rfl (fun h58r h58=>?_) (fun h58r h58=>?_)
       ·refine cg ?_
        refine ab (ao (v:=true) rfl rfl (rfl) rfl) (.bin rfl rfl (a9 (by omega))) ?_
        refine bx ?_
        refine bT 71 rfl (fun h71r h71=>?_) (fun h71r h71=>?_)
        ·have:=w1 (by omega)
         omega
        ·refine bG ?_
         refine ab (ao (v:=false) rfl rfl (h71r) rfl) (.bin rfl rfl (a9 (by omega))) ?_
         refine bx ?_
         refine bT 77 rfl (fun h77r h77=>?_) (fun h77r h77=>?_)
         ·omega
         ·refine bx ?_
          refine bT 80 rfl (fun h80r h80=>?_) (fun h80r h80=>?_)
          ·refine bx ?_
           refine ab (ao (v:=true) rfl rfl (h80r) rfl) (.bin rfl rfl (ee (by omega) (by omega))) ?_
           refine bx ?_
           refine bT 87 rfl (fun h87r h87=>?_) (fun h87r h87=>?_)
           ·refine bV ?_
            refine an rfl (fun h92r h92=>?_) (fun h92r h92=>?_)
            ·first | omega | (have:=w3 (by omega) (by omega);omega)
            ·refine ca ?_
             refine ab rfl (.bin rfl rfl (a9 (by omega))) ?_
             refine bx ?_
             exact fA (i+1) (by omega)
           ·refine ct ?_
            refine ab rfl (.bin rfl rfl (a9 (by omega))) ?_
            refine bx ?_
            exact fA (i+1) (by omega)
          ·refine ib ?_
           refine ab rfl (.bin rfl rfl (a9 (by omega))) ?_
           refine bx ?_
           exact fA (i+1) (by omega)
       ·refine bx ?_
        refine ab (ao (v:=false) rfl rfl (h58r) rfl) (.bin rfl rfl (ee (by omega) (by omega))) ?_
        refine bx ?_
        refine bT 65 rfl (fun h65r h65=>?_) (fun h65r h65=>?_)
        ·refine bG ?_
         refine ab (ao (v:=true) rfl rfl (h65r) rfl) (.bin rfl rfl (a9 (by omega))) ?_
         refine bx ?_
         refine bT 71 rfl (fun h71r h71=>?_) (fun h71r h71=>?_)
         ·have:=w1 (by omega)
          omega
         ·refine bG ?_
          refine ab (ao (v:=false) rfl rfl (h71r) rfl) (.bin rfl rfl (a9 (by omega))) ?_
          refine bx ?_
          refine bT 77 rfl (fun h77r h77=>?_) (fun h77r h77=>?_)
          ·omega
          ·refine bx ?_
           refine bT 80 rfl (fun h80r h80=>?_) (fun h80r h80=>?_)
           ·refine bx ?_
            refine ab (ao (v:=true) rfl rfl (h80r) rfl) (.bin rfl rfl (ee (by omega) (by omega))) ?_
            refine bx ?_
            refine bT 87 rfl (fun h87r h87=>?_) (fun h87r h87=>?_)
            ·refine bV ?_
             refine an rfl (fun h92r h92=>?_) (fun h92r h92=>?_)
             ·first | omega | (have:=w3 (by omega) (by omega);omega)
             ·refine ca ?_
              refine ab rfl (.bin rfl rfl (a9 (by omega))) ?_
              refine bx ?_
              exact fA (i+1) (by omega)
            ·refine ct ?_
             refine ab rfl (.bin rfl rfl (a9 (by omega))) ?_
             refine bx ?_
             exact fA (i+1) (by omega)
           ·refine ib ?_
            refine ab rfl (.bin rfl rfl (a9 (by omega))) ?_
            refine bx ?_
            exact fA (i+1) (by omega)
        ·refine cx ?_
         refine ab (ao (v:=false) rfl rfl (rfl) rfl) (.bin rfl rfl (a9 (by omega))) ?_
         refine bx ?_
         refine bT 77 rfl (fun h77r h77=>?_) (fun h77r h77=>?_)
         ·omega
         ·refine bx ?_
          refine bT 80 rfl (fun h80r h80=>?_) (fun h80r h80=>?_)
          ·refine bx ?_
           refine ab (ao (v:=true) rfl rfl (h80r) rfl) (.bin rfl rfl (ee (by omega) (by omega))) ?_
           refine bx ?_
           refine bT 87 rfl (fun h87r h87=>?_) (fun h87r h87=>?_)
           ·refine bV ?_
            refine an rfl (fun h92r h92=>?_) (fun h92r h92=>?_)
            ·first | omega | (have:=w3 (by omega) (by omega);omega)
            ·refine ca ?_
             refine ab rfl (.bin rfl rfl (a9 (by omega))) ?_
             refine bx ?_
             exact fA (i+1) (by omega)
           ·refine ct ?_
            refine ab rfl (.bin rfl rfl (a9 (by omega))) ?_
            refine bx ?_
            exact fA (i+1) (by omega)
          ·refine ib ?_
           refine ab rfl (.bin rfl rfl (a9 (by omega))) ?_
           refine bx ?_
           exact fA (i+1) (by omega)
      ·refine ct ?_
       refine an rfl (fun h95r h95=>?_) (fun h95r h95=>?_)
       ·omega
       ·refine cx ?_
        exact aS rfl (.pure rfl)
def kx (d:Nat) (T:Rat) (inn:List Rat) (E:Rat):List Rat:=List.replicate (d+1) T++(inn++List.replicate (d+1) E)
theorem uu (d:Nat) (T:Rat) (inn:List Rat) (E:Rat):(kx d T inn E).length=2*(d+1)+inn.length:=by simp [kx];omega
theorem q7 (d:Nat) (T:Rat) (inn:List Rat) (E:Rat) (i:Nat) (h:i<2*(d+1)+inn.length):(kx d T inn E).getD i 0=if i<d+1 then T else if i<d+1+inn.length then inn.getD (i-(d+1)) 0 else E:=by
 unfold kx
 split
 ·rw [BN (by simp;omega),gy (by omega)]
 ·rw [B1 (by simp;omega),List.length_replicate]
  split
  ·rw [BN (by omega)]
  ·rw [B1 (by omega),gy (by omega)]
theorem B7 {l:List Rat} {t:Rat} (h:∀ x∈l,x≠t):∀ i,i≤l.length→gu l t i=0
 | 0,_=>rfl
 | i+1,hi=>by rw [gu,B7 h i (by omega),if_neg (h _ (bi (by omega)))]
theorem BW (d:Nat) (T:Rat) (inn:List Rat) (E t:Rat):gu (kx d T inn E) t (kx d T inn E).length=(if T=t then d+1 else 0)+(gu inn t inn.length+(if E=t then d+1 else 0)):=by
 have h:=p7 (List.replicate (d+1) T) (inn++List.replicate (d+1) E) t (inn.length+(d+1))
 have h2:=p7 inn (List.replicate (d+1) E) t (d+1)
 rw [List.length_replicate] at h
 have e:(kx d T inn E).length=d+1+(inn.length+(d+1)):=by rw [uu];omega
 rw [e]
 show gu (List.replicate (d+1) T++_) t _=_
 rw [h,h2,jq _ _ _ _ (Nat.le_refl _),jq _ _ _ _ (Nat.le_refl _)]
structure inOK (d:Nat) (T:Rat) (inn:List Rat) (E:Rat):Prop where
 btw:∀ x∈inn,T<x∧x<E
 srt:∀ i,i+1<inn.length→inn.getD i 0≤inn.getD (i+1) 0
 tms:∀ x∈inn,gu inn x inn.length≤d
 len:inn.length≤2
 sz:∀ x∈inn,rl x≤64
theorem FG {d:Nat} {T E:Rat} {inn:List Rat} (h1:1≤d) (h6:d≤6) (hT:rl T≤64) (hE:rl E≤64) (hTE:T<E) (h:inOK d T inn E):kOK (kx d T inn E) d:=by
 have hl:=uu d T inn E
 have hn:=h.len
 have hne:T≠E:=by grind
 have e0:(kx d T inn E).getD 0 0=T:=by rw [q7 _ _ _ _ _ (by omega),if_pos (by omega)]
 have e1:(kx d T inn E).getD ((kx d T inn E).length-1) 0=E:=by rw [hl,q7 _ _ _ _ _ (by omega),if_neg (by omega),if_neg (by omega)]
 have hm:∀ x∈kx d T inn E,x=T∨x∈inn∨x=E:=fun x hx=>by
  rcases List.mem_append.1 hx with g | g
  ·exact .inl (List.mem_replicate.1 g).2
  ·rcases List.mem_append.1 g with g | g
   ·exact .inr (.inl g)
   ·exact .inr (.inr (List.mem_replicate.1 g).2)
 refine⟨h1,h6,by omega,by omega,fun i hi=>?_,by rw [e0,e1];exact hne,fun t ht he=>?_,fun t ht g0 g1=>?_,fun x hx=>?_⟩
 ·rw [q7 _ _ _ _ _ (by omega),q7 _ _ _ _ _ (by omega)]
  by_cases c1:i+1<d+1
  ·rw [if_pos (by omega),if_pos c1];exact Rat.le_refl
  ·rw [if_neg c1]
   by_cases c2:i<d+1
   ·rw [if_pos c2]
    split
    ·exact Rat.le_of_lt (h.btw _ (bi (by omega))).1
    ·exact Rat.le_of_lt hTE
   ·rw [if_neg c2]
    by_cases c3:i+1<d+1+inn.length
    ·rw [if_pos (by omega),if_pos c3,show i+1-(d+1)=i-(d+1)+1 by omega]
     exact h.srt _ (by omega)
    ·rw [if_neg c3]
     split
     ·exact Rat.le_of_lt (h.btw _ (bi (by omega))).2
     ·exact Rat.le_refl
 ·rw [BW]
  rw [e0,e1] at he
  have z:∀ s,(s=T∨s=E)→gu inn s inn.length=0:=fun s hs=>B7 (fun x hx e=>by
   have:=h.btw x hx
   rcases hs with rfl | rfl
   ·rw [e] at this;exact absurd this.1 (by grind)
   ·rw [e] at this;exact absurd this.2 (by grind)) _ (Nat.le_refl _)
  rw [z t he]
  rcases he with rfl | rfl
  ·rw [if_pos rfl,if_neg (fun e=>hne e.symm)]
  ·rw [if_neg hne,if_pos rfl];omega
 ·rw [e0] at g0;rw [e1] at g1
  rw [BW,if_neg (fun e=>g0 e.symm),if_neg (fun e=>g1 e.symm)]
  rcases hm t ht with e | e | e
  ·exact absurd e g0
  ·have:=h.tms t e;omega
  ·exact absurd e g1
 ·rcases hm x hx with rfl | g | rfl
  ·exact hT
  ·exact h.sz x g
  ·exact hE
end Go.Proofs.YtfpdccbgngdhkaaGreat
end
section
set_option linter.unusedVariables false
set_option linter.unusedSimpArgs false
namespace Go.Lg
def dd:Op→Bool
 | .move _=>true
 | .pick ..=>true
 | .binOp ..=>true
 | .load ..=>true
 | .fieldAddr ..=>true
 | .indexAddr ..=>true
 | .call ⟨.builtin .len,_,_⟩=>true
 | _=>false
theorem nM {op:Op} (h:dd op=true):il op=false:=by
 unfold dd at h
 split at h<;>first | rfl | cases h
section
variable {P:Program} {H:bI} {ρ ρ':Operand→LV}
theorem OpP.cong {op:Op} {r:LV} (h:OpP P H ρ op r) (hp:dd op=true) (hr:∀ x∈op.operands,ρ' x=ρ x):OpP P H ρ' op r:=by
 cases h with
 | move x=>rw [←hr x (by simp [Op.operands])];exact .move x
 | pick hc =>
  rename_i c x y t
  have e1:=hr x (by simp [Op.operands])
  have e2:=hr y (by simp [Op.operands])
  have:=OpP.pick (P:=P) (H:=H) (ρ:=ρ') (x:=x) (y:=y) ((hr _ (by simp [Op.operands])).trans hc)
  rw [e1,e2] at this
  exact this
 | bin hx hy h=>exact .bin ((hr _ (by simp [Op.operands])).trans hx) ((hr _ (by simp [Op.operands])).trans hy) h
 | sh hx hy h=>exact .sh ((hr _ (by simp [Op.operands])).trans hx) ((hr _ (by simp [Op.operands])).trans hy) h
 | beq hx hy hT=>exact .beq ((hr _ (by simp [Op.operands])).trans hx) ((hr _ (by simp [Op.operands])).trans hy) hT
 | bne hx hy hT=>exact .bne ((hr _ (by simp [Op.operands])).trans hx) ((hr _ (by simp [Op.operands])).trans hy) hT
 | addS hx hy h=>exact .addS ((hr _ (by simp [Op.operands])).trans hx) ((hr _ (by simp [Op.operands])).trans hy) h
 | eqS hx hy=>exact .eqS ((hr _ (by simp [Op.operands])).trans hx) ((hr _ (by simp [Op.operands])).trans hy)
 | eqN hx hy hT=>exact .eqN ((hr _ (by simp [Op.operands])).trans hx) ((hr _ (by simp [Op.operands])).trans hy) hT
 | eqNL hx hy hT=>exact .eqNL ((hr _ (by simp [Op.operands])).trans hx) ((hr _ (by simp [Op.operands])).trans hy) hT
 | eqA4 hx hy hT hE hs hd=>exact .eqA4 ((hr _ (by simp [Op.operands])).trans hx) ((hr _ (by simp [Op.operands])).trans hy) hT hE hs hd
 | fieldAddrB hq hT hr'=>exact .fieldAddrB ((hr _ (by simp [Op.operands])).trans hq) hT hr'
 | fieldAddrE hq hT hk=>exact .fieldAddrE ((hr _ (by simp [Op.operands])).trans hq) hT hk
 | loadB hq hT hc=>exact .loadB ((hr _ (by simp [Op.operands])).trans hq) hT hc
 | loadE hq hb hs hi hx hr' hT=>exact .loadE ((hr _ (by simp [Op.operands])).trans hq) hb hs hi hx hr' hT
 | idxAE hx hT hE hi h0 hm=>exact .idxAE ((hr _ (by simp [Op.operands])).trans hx) hT hE ((hr _ (by simp [Op.operands])).trans hi) h0 hm
 | idxAB hx hT hE hf hi h0 hr'=>exact .idxAB ((hr _ (by simp [Op.operands])).trans hx) hT hE hf ((hr _ (by simp [Op.operands])).trans hi) h0 hr'
 | idxL hx hT hE hi h0 hr' hc=>exact .idxL ((hr _ (by simp [Op.operands])).trans hx) hT hE ((hr _ (by simp [Op.operands])).trans hi) h0 hr' hc
 | idxR hx hT hE hi h0 hn=>exact .idxR ((hr _ (by simp [Op.operands])).trans hx) hT hE ((hr _ (by simp [Op.operands])).trans hi) h0 hn
 | lenL hx has hT=>exact .lenL ((hr _ (by simp [Op.operands,Call.operands])).trans hx) has hT
 | lenR hx has hT=>exact .lenR ((hr _ (by simp [Op.operands,Call.operands])).trans hx) has hT
 | lenN hx has hT=>exact .lenN ((hr _ (by simp [Op.operands,Call.operands])).trans hx) has hT
 | _=>first | (cases hp;done) | (simp [dd] at hp;done)
end
def ic (n e:Nat):Array Bool:=((List.range n).map fun i=>decide (i<e)).toArray
theorem nK {n e i:Nat} (h:i<n):(ic n e).getD i false=decide (i<e):=by
 unfold ic
 rw [Array.getD_eq_getD_getElem?]
 simp [h]
theorem lX (n e:Nat):(ic n e).size=n:=by simp [ic]
theorem wH {n e:Nat} {D:Array Bool} (hs:D.size=n) (h:∀ i,i<n→D.getD i false=decide (i<e)):D=ic n e:=by
 refine Array.ext (by rw [lX,hs]) fun i h1 h2=>?_
 have e1:=h i (by omega)
 have e2:=nK (n:=n) (e:=e) (i:=i) (by omega)
 rw [Array.getD_eq_getD_getElem?,Array.getElem?_eq_getElem h1] at e1
 rw [Array.getD_eq_getD_getElem?,Array.getElem?_eq_getElem h2] at e2
 simp only [Option.getD_some] at e1 e2
 rw [e1,e2]
def xj (ops:Array Oper) (s e:Nat):Bool :=
 decide (s≤e) && decide (e≤ops.size) && ((List.range ops.size).all fun i=>(fB (ops.getD i default)).all (·<i)) &&
 ((List.range e).all fun i=>decide (i<s) || dd (ops.getD i default).op) &&
 ((List.range e).all fun i=>(List.range e).all fun j=>decide (i<s) || decide (j<s) || i==j || lw ops (CJ ops.toList []) i j) &&
 ((List.range ops.size).all fun i=>decide (i<e) || (List.range e).all fun j=>decide (j<s) || ((CJ ops.toList []).getD i 0).testBit j)
section
variable {P:Program} {ops:Array Oper}
theorem pH {K:St→Prop}:∀ (n:Nat) (D:Array Bool) (L:St),ff P ops n D L K→ff P ops (n+1) D L K
 | 0,D,L,h=>⟨fun _=>h.2,fun i hi=>by rw [h.1] at hi;cases hi⟩
 | n+1,D,L,h=>⟨h.1,fun i hi=>by
  obtain⟨o,L',h1,h2,h3⟩:=h.2 i hi
  exact⟨o,L',h1,h2,pH n _ _ h3⟩⟩
open Classical in
noncomputable def iq (ops:Array Oper) (g:Nat→St) (s e:Nat) (D:Array Bool) (t:Nat):LV :=
 if ∃ i o,s≤i∧i<e∧D.getD i false=true∧ops[i]?=some o∧o.dst=some t then(g e).slot t else(g s).slot t
theorem Bc {fuel:Nat} {K:St→Prop} {L:St} {D:Array Bool} (s e:Nat) (l:List Oper) (hD:D=ic ops.size s) (hl:l=(ops.toList.drop s).take (e-s)) (hok:xj ops s e=true)
  (h:opsL P true ops l L (fun L'=>ff P ops fuel (ic ops.size e) L' K)):ff P ops (fuel+(e-s)) D L K:=by
 unfold xj at hok
 simp only [Bool.and_eq_true,decide_eq_true_eq,List.all_eq_true,List.mem_range,Bool.or_eq_true] at hok
 obtain⟨⟨⟨⟨⟨hse,hen⟩,h1⟩,h2⟩,h3⟩,h4⟩:=hok
 have getD_of:∀ i o,ops[i]?=some o→ops.getD i default=o:=fun i o h=>by rw [Array.getD_eq_getD_getElem?,h];rfl
 have lt_of:∀ i o,ops[i]?=some o→i<ops.size:=fun i o h=>(Array.getElem?_eq_some_iff.1 h).1
 have some_of:∀ i,i<ops.size→∃ o,ops[i]?=some o:=fun i h=>⟨_,Array.getElem?_eq_getElem h⟩
 have hanc:=mP ops ops.toList [] (fun i=>by simp) (fun i t h=>by simp at h)
 have hdir:∀ i o,ops[i]?=some o→∀ j∈fB o,j<i:=fun i o h j hj=>h1 i (lt_of i o h) j (by rw [getD_of i o h];exact hj)
 have hplain:∀ i o,ops[i]?=some o→s≤i→i<e→dd o.op=true:=fun i o h a b=>by
  rcases h2 i b with c | c
  ·omega
  ·rw [getD_of i o h] at c;exact c
 have htail:∀ i,i<ops.size→e≤i→∀ j,s≤j→j<e→Anc ops j i:=fun i hi a j b c=>by
  rcases h4 i hi with q | q
  ·omega
  ·rcases q j c with q | q
   ·omega
   ·exact hanc i j q
 have hpair:∀ i j oi oj d,ops[i]?=some oi→ops[j]?=some oj→s≤i→i<e→s≤j→j<e→i≠j→oj.dst=some d→oi.dst≠some d∧(d∈oi.looksAt ops→if j<i then Anc ops j i else Anc ops i j):=by
  intro i j oi oj d hi hj si ei sj ej hne hdj
  rcases h3 i ei j ej with((q | q) | q) | q
  ·omega
  ·omega
  ·exact absurd (by simpa using q) hne
  ·unfold lw at q
   rw [getD_of j oj hj,getD_of i oi hi,hdj] at q
   simp only [Bool.and_eq_true,bne_iff_ne,ne_eq,Bool.or_eq_true,Bool.not_eq_true'] at q
   refine⟨q.1,fun hmem=>?_⟩
   rcases q.2 with h' | h'
   ·rw [List.contains_iff_mem.2 hmem] at h';cases h'
   ·split at h'<;>rename_i hlt
    ·rw [if_pos hlt];exact hanc i j h'
    ·rw [if_neg hlt];exact hanc j i h'
 obtain⟨f,f0,fs,fK⟩:=gC _ _ h
 have hlen:l.length=e-s:=by rw [hl];simp;omega
 obtain⟨g,hg⟩:∃ g:Nat→St,g=fun i=>f (i-s):=⟨_,rfl⟩
 have gs0:g s=L:=by rw [hg];simp only [Nat.sub_self];exact f0
 have ge0:g e=f l.length:=by rw [hg,hlen]
 have gst:∀ i o,ops[i]?=some o→s≤i→i<e→Step P true ops o (g i) (g (i+1)):=fun i o h a b=>by
  have:=fs (i-s) o (by
   rw [hl,List.getElem?_take,if_pos (by omega),List.getElem?_drop,show s+(i-s)=i by omega]
   simpa using h)
  rw [hg]
  simp only
  rw [show i+1-s=i-s+1 by omega]
  exact this
 rw [←ge0] at fK
 have hstep:∀ i o,ops[i]?=some o→s≤i→i<e→(g i).heap.le (g (i+1)).heap∧∀ t,o.dst≠some t→(g (i+1)).slot t=(g i).slot t:=fun i o h a b=>lO (nM (hplain i o h a b)) (gst i o h a b)
 have hle:∀ i j,s≤i→i≤j→j≤e→(g i).heap.le (g j).heap:=by
  intro i j si hij
  induction j with
  | zero =>
   intro _
   obtain rfl:i=0:=by omega
   exact bI.le_refl _
  | succ j ih =>
   intro hjm
   by_cases c:i=j+1
   ·subst c;exact bI.le_refl _
   ·obtain⟨o,ho⟩:=some_of j (by omega)
    exact bI.le_trans (ih (by omega) (by omega)) (hstep j o ho (by omega) (by omega)).1
 have hconst:∀ i j t,s≤i→i≤j→j≤e→(∀ k o,i≤k→k<j→ops[k]?=some o→o.dst≠some t)→(g j).slot t=(g i).slot t:=by
  intro i j t si hij
  induction j with
  | zero =>
   intro _ _
   obtain rfl:i=0:=by omega
   rfl
  | succ j ih =>
   intro hjm hk
   by_cases c:i=j+1
   ·subst c;rfl
   ·obtain⟨o,ho⟩:=some_of j (by omega)
    rw [(hstep j o ho (by omega) (by omega)).2 t (hk j o (by omega) (by omega) ho)]
    exact ih (by omega) (by omega) (fun k o a b=>hk k o a (by omega))
 have hslot:∀ i o t,ops[i]?=some o→s≤i→i<e→o.dst=some t→(g e).slot t=(g (i+1)).slot t:=fun i o t ho si ei hdt =>
  hconst (i+1) e t (by omega) (by omega) (Nat.le_refl _) (fun k ok a b hk q=>(hpair i k o ok t ho hk si ei (by omega) b (by omega) q).1 hdt)
 let closed:Array Bool→Prop:=fun D=>∀ i o,ops[i]?=some o→D.getD i false=true→∀ j∈fB o,D.getD j false=true
 have hclosed:∀ D,closed D→∀ j i,Anc ops j i→(∀ o,ops[i]?=some o→∀ k∈fB o,D.getD k false=true)→D.getD j false=true:=by
  intro D hD j i hA
  induction hA with
  | @one i o ho h=>intro hr;exact hr o ho _ h
  | @step k i o hA ho hk ih=>intro hr;exact ih (fun o' ho' k' hk'=>hD k o' ho' (hr o ho k hk) k' hk')
 have main:∀ (n:Nat) (D:Array Bool) (L:St),D.size=ops.size→(∀ i,i<s→D.getD i false=true)→(∀ i,e≤i→D.getD i false=false)→closed D→(∀ t,L.slot t=iq ops g s e D t) →
   (L.heap=(g e).heap∨(L.heap=(g s).heap∧∀ i,s≤i→i<e→D.getD i false=true→(g (i+1)).heap=(g i).heap))→(List.range e).countP (fun i=>!D.getD i false)≤n→ff P ops (fuel+n) D L K:=by
  intro n
  induction n with
  | zero =>
   intro D L hsz hlo hhi hcl hsl hhp hct
   have hall:∀ i,i<e→D.getD i false=true:=fun i hi=>by
    have:(List.range e).countP (fun i=>!D.getD i false)=0:=by omega
    have:=List.countP_eq_zero.1 this i (List.mem_range.2 hi)
    simpa using this
   have eD:D=ic ops.size e:=wH hsz fun i hi=>by
    rcases Nat.lt_or_ge i e with c | c
    ·rw [hall i c,decide_eq_true c]
    ·rw [hhi i c,decide_eq_false (by omega)]
   have eL:L=g e:=by
    have q1:L.slot=(g e).slot:=by
     funext t
     rw [hsl t]
     unfold iq
     split
     ·rfl
     ·rename_i hno
      exact(hconst s e t (Nat.le_refl _) hse (Nat.le_refl _) (fun k o a b hk q=>hno ⟨k,o,a,b,hall k b,hk,q⟩)).symm
    have q2:L.heap=(g e).heap:=by
     rcases hhp with q | ⟨q,hq⟩
     ·exact q
     ·rw [q]
      have:∀ m,s≤m→m≤e→(g m).heap=(g s).heap:=by
       intro m
       induction m with
       | zero =>
        intro a _
        obtain rfl:s=0:=by omega
        rfl
       | succ m ih =>
        intro a b
        by_cases c:s=m+1
        ·rw [c]
        ·rw [hq m (by omega) (by omega) (hall m (by omega))];exact ih (by omega) (by omega)
      exact(this e hse (Nat.le_refl _)).symm
    cases L;cases hge:g e
    rw [hge] at q1 q2
    simp only at q1 q2
    rw [q1,q2]
   rw [eD,eL];exact fK
  | succ n ih =>
   intro D L hsz hlo hhi hcl hsl hhp hct
   by_cases hall:∀ i,i<e→D.getD i false=true
   ·have h0:(List.range e).countP (fun i=>!D.getD i false)=0:=List.countP_eq_zero.2 fun i hi=>by rw [hall i (List.mem_range.1 hi)];decide
    exact pH _ _ _ (ih D L hsz hlo hhi hcl hsl hhp (by omega))
   ·have hin:∀ i,i∈Region.ready .any ops D→s≤i∧i<e:=fun i hi=>by
     obtain⟨o,p1',p2',p3'⟩:=(co hsz).1 hi
     have hlt:=lt_of i o p1'
     have hni:D.getD i false=false:=by rw [eW (by omega) false true];exact p2'
     refine⟨?_,?_⟩
     ·rcases Nat.lt_or_ge i s with c | c
      ·rw [hlo i c] at hni;cases hni
      ·exact c
     ·rcases Nat.lt_or_ge i e with c | c
      ·exact c
      ·exfalso
       refine hall fun j hj=>?_
       rcases Nat.lt_or_ge j s with d | d
       ·exact hlo j d
       ·exact hclosed D hcl j i (htail i hlt c j d hj) (fun o' ho' k hk=>by rw [p1'] at ho';cases ho';exact p3' k hk)
    refine⟨fun hr=>?_,fun i hi=>?_⟩
    ·exfalso
     refine hall fun i=>?_
     induction i using Nat.strongRecOn with
     | _ i ihh =>
      intro hie
      cases hc:D.getD i false with
      | true=>rfl
      | false =>
       obtain⟨o,ho⟩:=some_of i (by omega)
       have:i∈Region.ready .any ops D:=(co hsz).2 ⟨o,ho,by rw [eW (by omega) true false];exact hc,fun j hj=>by
        have:=hdir i o ho j hj
        exact ihh j this (by omega)⟩
       rw [hr] at this;cases this
    ·obtain⟨si,ei⟩:=hin i hi
     obtain⟨o,ho,hni',hrd⟩:=(co hsz).1 hi
     have hni:D.getD i false=false:=by rw [eW (by omega) false true];exact hni'
     have hset:∀ k,(D.setIfInBounds i true).getD k false=true↔k=i∨D.getD k false=true:=fun k=>by
      by_cases c:i=k
      ·subst c
       rw [Array.getD_eq_getD_getElem?,Array.getElem?_setIfInBounds_self_of_lt (by omega)];simp
      ·rw [Array.getD_eq_getD_getElem?,Array.getElem?_setIfInBounds_ne c,←Array.getD_eq_getD_getElem?]
       constructor
       ·exact fun h=>.inr h
       ·rintro(h | h)
        ·exact absurd h.symm c
        ·exact h
     have hcl':closed (D.setIfInBounds i true):=fun k ok hk hDk j hj=>by
      rcases(hset k).1 hDk with rfl | h
      ·rw [ho] at hk;cases hk
       exact(hset j).2 (.inr (hrd j hj))
      ·exact(hset j).2 (.inr (hcl k ok hk h j hj))
     have hrd':∀ o',ops[i]?=some o'→∀ k∈fB o',D.getD k false=true:=fun o' ho' k hk=>(by rw [ho] at ho';cases ho';exact hrd k hk)
     have hread:∀ t,t∈o.looksAt ops→(g i).slot t=L.slot t:=by
      intro t ht
      rw [hsl t]
      by_cases hex:∃ j oj,s≤j∧j<e∧ops[j]?=some oj∧oj.dst=some t
      ·obtain⟨j,oj,sj,ej,hj,hdj⟩:=hex
       have huniq:∀ k ok,s≤k→k<e→ops[k]?=some ok→ok.dst=some t→k=j:=fun k ok sk ek hk hdk =>
        Classical.byContradiction fun hne=>(hpair k j ok oj t hk hj sk ek sj ej hne hdj).1 hdk
       have nodone:(∀ hh:D.getD j false=true,False)→iq ops g s e D t=(g s).slot t:=fun hh=>by
        unfold iq
        rw [if_neg]
        rintro⟨k,ok,sk,ek,hDk,hk,hdk⟩
        have:=huniq k ok sk ek hk hdk
        subst this
        exact hh hDk
       by_cases hji:j=i
       ·subst hji
        rw [hconst s j t (Nat.le_refl _) si (by omega) (fun k ok a b hk q=>by have:=huniq k ok a (by omega) hk q;omega),nodone (fun hh=>by rw [hni] at hh;cases hh)]
       ·have hp:=(hpair i j o oj t ho hj si ei sj ej (Ne.symm hji) hdj).2 ht
        by_cases hlt:j<i
        ·rw [if_pos hlt] at hp
         have hDj:=hclosed D hcl j i hp hrd'
         have e2:iq ops g s e D t=(g e).slot t:=by
          unfold iq
          rw [if_pos ⟨j,oj,sj,ej,hDj,hj,hdj⟩]
         rw [e2,hslot j oj t hj sj ej hdj]
         exact hconst (j+1) i t (by omega) (by omega) (by omega) (fun k ok a b hk q=>by have:=huniq k ok (by omega) (by omega) hk q;omega)
        ·rw [if_neg hlt] at hp
         rw [hconst s i t (Nat.le_refl _) si (by omega) (fun k ok a b hk q=>by have:=huniq k ok a (by omega) hk q;omega),nodone (fun hh=>by
          have:=hclosed D hcl i j hp (fun o' ho' k' hk'=>hcl j o' ho' hh k' hk')
          rw [hni] at this;cases this)]
      ·rw [hconst s i t (Nat.le_refl _) si (by omega) (fun k ok a b hk q=>hex ⟨k,ok,a,by omega,hk,q⟩)]
       unfold iq
       rw [if_neg]
       rintro⟨k,ok,sk,ek,hDk,hk,hdk⟩
       exact hex ⟨k,ok,sk,ek,hk,hdk⟩
     have hafter:∀ t,iq ops g s e (D.setIfInBounds i true) t=if o.dst=some t then(g (i+1)).slot t else L.slot t:=by
      intro t
      rw [hsl t]
      by_cases hdt:o.dst=some t
      ·rw [if_pos hdt]
       unfold iq
       rw [if_pos ⟨i,o,si,ei,(hset i).2 (.inl rfl),ho,hdt⟩]
       exact hslot i o t ho si ei hdt
      ·rw [if_neg hdt]
       unfold iq
       congr 1
       apply propext
       constructor
       ·rintro⟨k,ok,sk,ek,hDk,hk,hdk⟩
        rcases(hset k).1 hDk with rfl | h
        ·rw [ho] at hk;cases hk;exact absurd hdk hdt
        ·exact⟨k,ok,sk,ek,h,hk,hdk⟩
       ·rintro⟨k,ok,sk,ek,hDk,hk,hdk⟩
        exact⟨k,ok,sk,ek,(hset k).2 (.inr hDk),hk,hdk⟩
     have hguard:∀ res,bc ops (g i) o res→bc ops L o res:=fun res hgd=>by
      unfold bc at hgd ⊢
      cases hh:o.guard with
      | none=>rw [hh] at hgd;exact hgd
      | some pr =>
       obtain⟨j,want⟩:=pr
       rw [hh] at hgd
       obtain⟨d,q1',q'⟩:=hgd
       have e1:(g i).slot d=L.slot d:=hread d (by unfold Oper.looksAt;rw [hh];simp [q1'])
       refine⟨d,q1',?_⟩
       show (∃ b,L.slot d=_∧_)∨(L.slot d=_∧_)
       rw [←e1]
       exact q'
     have hput:∀ (r:LV) (H1:bI),(∀ t,o.dst=some t→(g (i+1)).slot t=r)→∀ t,(⟨(L.put o.dst r).slot,H1⟩:St).slot t=iq ops g s e (D.setIfInBounds i true) t:=fun r H1 hr t=>by
      rw [hafter t]
      show (L.put o.dst r).slot t=_
      cases hd:o.dst with
      | none=>rw [if_neg (by simp)];rfl
      | some d =>
       rw [bz]
       by_cases c:t=d
       ·subst c
        rw [if_pos rfl,if_pos rfl,hr t hd]
       ·rw [if_neg c,if_neg (fun q=>c (by cases q;rfl))]
     have hcnt:(List.range e).countP (fun k=>!(D.setIfInBounds i true).getD k false)≤n:=by
      have:(List.range e).countP (fun k=>!(D.setIfInBounds i true).getD k false)<(List.range e).countP (fun k=>!D.getD k false):=by
       apply lI
       ·intro k _ hk
        cases hc:D.getD k false with
        | false=>rfl
        | true=>rw [(hset k).2 (.inr hc)] at hk;cases hk
       ·exact⟨i,List.mem_range.2 ei,by rw [hni];rfl,by rw [(hset i).2 (.inl rfl)];rfl⟩
      omega
     have hfin:∀ L',Step P false ops o L L'→(∀ t,L'.slot t=iq ops g s e (D.setIfInBounds i true) t)→(L'.heap=(g e).heap∨(L'.heap=(g s).heap∧∀ k,s≤k→k<e→(D.setIfInBounds i true).getD k false=true→(g (k+1)).heap=(g k).heap)) →
       ∃ o L',ops[i]?=some o∧Step P false ops o L L'∧ff P ops (fuel+n) (D.setIfInBounds i true) L' K:=fun L' hst hs' hh' =>
      ⟨o,L',ho,hst,ih _ L' (by simpa using hsz) (fun k hk=>(hset k).2 (.inr (hlo k hk))) (fun k hk=>by
       cases hc:(D.setIfInBounds i true).getD k false with
       | false=>rfl
       | true =>
        rcases(hset k).1 hc with rfl | q
        ·omega
        ·rw [hhi k hk] at q;cases q) hcl' hs' hh' hcnt⟩
     have hpl:=hplain i o ho si ei
     cases gst i o ho si ei with
     | skip hg' h' =>
      refine hfin (L.put o.dst (.tup [])) (.skip (hguard false hg') rfl) (fun t=>?_) ?_
      ·have:=hput (.tup []) L.heap (fun t ht=>by rw [h',ht,bz,if_pos rfl]) t
       exact this
      ·rw [cw]
       rcases hhp with q | ⟨q,hq⟩
       ·exact .inl q
       ·refine .inr ⟨q,fun k sk ek hk=>?_⟩
        rcases(hset k).1 hk with rfl | hk
        ·rw [h',cw]
        ·exact hq k sk ek hk
     | @val r fr H1 hg' hH hfr hov h' =>
      obtain⟨dst,op,ty,pos,after,gd⟩:=o
      have hH1:H1=(g (i+1)).heap:=by rw [h']
      have hle1:H1.le (g e).heap:=by rw [hH1];exact hle (i+1) e (by omega) (by omega) (Nat.le_refl _)
      cases hov with
      | alloc ha=>cases ha<;>cases hpl
      | call hc=>cases hc<;>cases hpl
      | pure hpp =>
       have hev:∀ x∈op.operands,L.ev x=(g i).ev x:=by
        intro x hx
        cases x with
        | tmp t =>
         have ht:t∈Oper.looksAt ops ⟨dst,op,ty,pos,after,gd⟩:=by
          unfold Oper.looksAt
          simp only [List.mem_append,List.mem_filterMap]
          exact .inl ⟨.tmp t,by simpa using hx,rfl⟩
         exact(hread t ht).symm
        | const v=>rfl
        | func f=>rfl
        | global f=>rfl
       have hpp':=OpP.cong (OpP.le hle1 hpp) hpl hev
       have hLe:L.heap.le (g e).heap:=by
        rcases hhp with q | ⟨q,_⟩
        ·rw [q];exact bI.le_refl _
        ·rw [q];exact hle s e (Nat.le_refl _) hse (Nat.le_refl _)
       refine hfin ⟨(L.put dst r).slot,(g e).heap⟩ (.val (fr:=[]) (hguard true hg') hLe (fun _ _ hh=>by cases hh) (.pure hpp') rfl) (hput r _ (fun t ht=>?_)) (.inl rfl)
       rw [h']
       show ((g i).put dst r).slot t=r
       have ht:dst=some t:=ht
       rw [ht,bz,if_pos rfl]
     | st hg' hot =>
      obtain⟨dst,op,ty,pos,after,gd⟩:=o
      have:=nM hpl
      rw [hot.tail] at this;cases this
     | stM hdr _ _=>cases hdr
 have hsz:D.size=ops.size:=by rw [hD];exact lX _ _
 have hDg:∀ i,D.getD i false=true↔i<s:=fun i=>by
  rcases Nat.lt_or_ge i ops.size with c | c
  ·rw [hD,nK c,decide_eq_true_eq]
  ·constructor
   ·intro q
    rw [Array.getD_eq_getD_getElem?,Array.getElem?_eq_none (by omega)] at q
    cases q
   ·intro q;omega
 refine main (e-s) D L hsz (fun i hi=>(hDg i).2 hi) (fun i hi=>?_) (fun i o ho hi j hj=>(hDg j).2 (by have:=hdir i o ho j hj;have:=(hDg i).1 hi;omega)) (fun t=>?_) (.inr ⟨by rw [gs0],fun i si _ hi=>by have:=(hDg i).1 hi;omega⟩) ?_
 ·cases hc:D.getD i false with
  | false=>rfl
  | true=>have:=(hDg i).1 hc;omega
 ·unfold iq
  rw [if_neg,gs0]
  rintro⟨k,o,sk,_,hk,_⟩
  have:=(hDg k).1 hk
  omega
 ·have:∀ m,(List.range m).countP (fun i=>!D.getD i false)≤m-s:=by
   intro m
   induction m with
   | zero=>simp
   | succ m ih =>
    rw [List.range_succ,List.countP_append]
    have hone:List.countP (fun i=>!D.getD i false) [m]=if D.getD m false=true then 0 else 1:=by
     rw [List.countP_cons,List.countP_nil,Nat.zero_add]
     cases hc:D.getD m false<;>rfl
    rw [hone]
    split
    ·omega
    ·rename_i hc
     have:¬m<s:=fun q=>hc ((hDg m).2 q)
     omega
  exact this e
theorem oA {m:Nat} {K:St→Prop} {L:St} {D:Array Bool} {l0:List Oper} (s e fuel:Nat) (hm:m=fuel+(e-s)) (hD:D=ic l0.toArray.size s) (hok:xj l0.toArray s e=true)
  (h:opsL P true l0.toArray ((l0.drop s).take (e-s)) L (fun L'=>ff P l0.toArray fuel (ic l0.toArray.size e) L' K)):ff P l0.toArray m D L K:=by
 subst hm
 exact Bc s e _ hD rfl hok h
end
def oD:Op→Bool
 | .move _=>true
 | .binOp ..=>true
 | .fieldAddr ..=>true
 | .indexAddr ..=>true
 | .call ⟨.builtin .len,_,_⟩=>true
 | _=>false
def iN:Op→Bool
 | .store ..=>true
 | .call ⟨.value (.func _),_,_⟩=>true
 | op=>dd op
theorem th {op:Op} (h:oD op=true):dd op=true:=by
 unfold oD at h
 split at h<;>first | rfl | cases h
theorem OpP.slim {P:Program} {H H':bI} {ρ:Operand→LV} {op:Op} {r:LV} (h:OpP P H ρ op r) (hp:oD op=true):OpP P H' ρ op r:=by
 cases h with
 | move x=>exact .move x
 | bin hx hy h=>exact .bin hx hy h
 | sh hx hy h=>exact .sh hx hy h
 | beq hx hy hT=>exact .beq hx hy hT
 | bne hx hy hT=>exact .bne hx hy hT
 | addS hx hy h=>exact .addS hx hy h
 | eqS hx hy=>exact .eqS hx hy
 | eqN hx hy hT=>exact .eqN hx hy hT
 | eqNL hx hy hT=>exact .eqNL hx hy hT
 | eqA4 hx hy hT hE hs hd=>exact .eqA4 hx hy hT hE hs hd
 | fieldAddrB hq hT hr'=>exact .fieldAddrB hq hT hr'
 | fieldAddrE hq hT hk=>exact .fieldAddrE hq hT hk
 | idxAE hx hT hE hi h0 hm=>exact .idxAE hx hT hE hi h0 hm
 | idxAB hx hT hE hf hi h0 hr'=>exact .idxAB hx hT hE hf hi h0 hr'
 | idxL hx hT hE hi h0 hr' hc=>exact .idxL hx hT hE hi h0 hr' hc
 | idxR hx hT hE hi h0 hn=>exact .idxR hx hT hE hi h0 hn
 | lenL hx has hT=>exact .lenL hx has hT
 | lenR hx has hT=>exact .lenR hx has hT
 | lenN hx has hT=>exact .lenN hx has hT
 | _=>first | (cases hp;done) | (simp [oD] at hp;done)
theorem yc (L:St) {d e:Nat} (h:d≠e) (v r:LV):(L.put (some d) v).put (some e) r=(L.put (some e) r).put (some d) v:=by
 have:∀ t,((L.put (some d) v).put (some e) r).slot t=((L.put (some e) r).put (some d) v).slot t:=fun t=>by
  rw [bz,bz,bz,bz]
  by_cases h1:t=e
  ·rw [if_pos h1,if_neg (by omega),if_pos h1]
  ·rw [if_neg h1,if_neg h1]
 exact congrArg (fun f=>St.mk f L.heap) (funext this)
theorem d9 (L:St) {d:Nat} {e:Option Nat} (h:e≠some d) (v r:LV):(L.put (some d) v).put e r=(L.put e r).put (some d) v:=by
 cases e with
 | none=>rfl
 | some e=>exact yc L (fun q=>h (by rw [q])) v r
section
variable {P:Program} {ops:Array Oper}
theorem yK {L:St} {d:Nat} {v:LV} {o:Oper} (h:d∉o.looksAt ops):∀ x∈o.op.operands,(L.put (some d) v).ev x=L.ev x:=fun x hx=>by
 cases x with
 | tmp t =>
  have ht:t∈o.looksAt ops:=by
   unfold Oper.looksAt
   simp only [List.mem_append,List.mem_filterMap]
   exact .inl ⟨.tmp t,by simpa using hx,rfl⟩
  show (L.put (some d) v).slot t=L.slot t
  rw [bz,if_neg (fun q=>h (by rw [←q];exact ht))]
 | const v=>rfl
 | func f=>rfl
 | global f=>rfl
theorem eb {L:St} {d:Nat} {v:LV} {o:Oper} {res:Bool} (h:d∉o.looksAt ops) (hg:bc ops (L.put (some d) v) o res):bc ops L o res:=by
 unfold bc at hg ⊢
 cases hh:o.guard with
 | none=>rw [hh] at hg;exact hg
 | some pr =>
  obtain⟨j,want⟩:=pr
  rw [hh] at hg
  obtain⟨t,q1',q'⟩:=hg
  have hne:t≠d:=fun q=>h (by rw [←q];unfold Oper.looksAt;rw [hh];simp [q1'])
  have e1:(L.put (some d) v).slot t=L.slot t:=by rw [bz,if_neg hne]
  refine⟨t,q1',?_⟩
  show (∃ b,L.slot t=_∧_)∨(L.slot t=_∧_)
  rw [←e1]
  exact q'
theorem iv {f:Operand} {xs:Array Operand} {ats:Array TypeId} {x:Operand} (h:x∈xs.toList):x∈(Op.call ⟨.value f,xs,ats⟩).operands:=by
 have:=Array.mem_toList_iff.1 h
 simp [Op.operands,Call.operands,this]
theorem wq {L L2:St} {d:Nat} {v:LV} {o:Oper} (hk:iN o.op=true) (hl:d∉o.looksAt ops) (hd:o.dst≠some d) (h:Step P false ops o (L.put (some d) v) L2) :
  ∃ L1,Step P false ops o L L1∧L2=L1.put (some d) v∧∀ t,o.dst≠some t→L1.slot t=L.slot t:=by
 have hev:=yK (L:=L) (v:=v) hl
 have hsl:∀ (M:St) (r:LV) t,M.slot t=L.slot t→o.dst≠some t→(M.put o.dst r).slot t=L.slot t:=fun M r t hM hne=>by
  cases hh:o.dst with
  | none=>exact hM
  | some e=>rw [bz,if_neg (fun q=>hne (by rw [hh,q]))];exact hM
 cases h with
 | skip hg hL=>exact⟨L.put o.dst (.tup []),.skip (eb hl hg) rfl,by rw [hL,d9 L hd],fun t ht=>hsl L _ t rfl ht⟩
 | @val r fr H1 hg hle hfr hov hL =>
  obtain⟨dst,op,ty,pos,after,gd⟩:=o
  have hev':∀ x∈op.operands,L.ev x=(L.put (some d) v).ev x:=fun x hx=>(hev x hx).symm
  have hov2:OpV P H1 L.ev (dst.getD 0) op r fr:=by
   cases hov with
   | pure hp =>
    by_cases hpl:dd op=true
    ·exact .pure (hp.cong hpl hev')
    ·cases hp with
     | ext2 hf hname hb hn he hx hr h1 h2 =>
      refine .pure (.ext2 hf hname hb hn he ?_ hr h1 h2)
      rw [←hx]
      exact List.map_congr_left fun x hxm=>hev' x (iv hxm)
     | _=>first | (exfalso;exact hpl rfl) | (exfalso;revert hk hpl;simp [iN,dd])
   | alloc ha=>cases ha<;>(exfalso;revert hk;simp [iN,dd])
   | call hc =>
    cases hc with
    | func ha hkk hlen hpu =>
     refine .call (.func ?_ hkk hlen hpu)
     rw [show (_:Array Operand).toList.map L.ev=_ from List.map_congr_left fun x hxm=>hev' x (iv hxm)]
     exact ha
    | clo=>exfalso;revert hk;simp [iN,dd]
    | mk=>exfalso;revert hk;simp [iN,dd]
  refine⟨⟨(L.put dst r).slot,H1⟩,.val (eb hl hg) hle hfr hov2 rfl,?_,fun t ht=>hsl L r t rfl ht⟩
  rw [hL]
  have:=d9 L hd v r
  exact congrArg (fun M=>St.mk (St.slot M) H1) this
 | st hg hot =>
  obtain⟨dst,op,ty,pos,after,gd⟩:=o
  cases hot with
  | store hp hb hs hm hi hy hput hT hne =>
   rename_i T p x b sz i o' blk y y'
   have e1:=hev p (by simp [Op.operands])
   have e2:=hev x (by simp [Op.operands])
   rw [e1] at hp
   rw [e2] at hput hT hne
   refine⟨_,.st (eb hl hg) (.store hp hb hs hm hi hy hput hT hne),?_,fun t ht=>?_⟩
   ·exact d9 (L.setB b _) hd v .any
   ·exact hsl (L.setB b _) .any t rfl ht
  | _=>exfalso;revert hk;simp [iN,dd]
 | stM hdr hg hom =>
  obtain⟨dst,op,ty,pos,after,gd⟩:=o
  cases hom with
  | call hb hm hp ha hn hkk hm' hp' =>
   rename_i f xs ats args r b blk blk'
   have em:xs.toList.map (L.put (some d) v).ev=xs.toList.map L.ev:=List.map_congr_left fun x hxm=>hev x (iv hxm)
   rw [em] at ha hn
   refine⟨_,.stM hdr (eb hl hg) (.call hb hm hp ha hn hkk hm' hp'),?_,fun t ht=>?_⟩
   ·exact d9 (L.setB b _) hd v _
   ·exact hsl (L.setB b _) _ t rfl ht
  | appz=>exfalso;revert hk;simp [iN,dd]
def vg (ops:Array Oper) (i:Nat) (D:Array Bool):Bool :=
 D.size==ops.size && !D.getD i true && (fB (ops.getD i default)).all (fun j=>D.getD j false) && (ops.getD i default).guard.isNone && oD (ops.getD i default).op &&
 (List.range ops.size).all fun j=>j==i || D.getD j true || (iN (ops.getD j default).op && ((ops.getD j default).dst != (ops.getD i default).dst) &&
  (match (ops.getD i default).dst with | some d=>!((ops.getD j default).looksAt ops).contains d || (fB (ops.getD j default)).contains i | none=>false) &&
  (match (ops.getD j default).dst with | some e=>!((ops.getD i default).looksAt ops).contains e | none=>true))
theorem cd {m:Nat} {K:St→Prop} {L:St} {D:Array Bool} {d:Nat} {v:LV} (i:Nat) {o:Oper} (ho:ops[i]?=some o) (hdst:o.dst=some d) (hok:vg ops i D=true) (hv:OpP P L.heap L.ev o.op v)
  (h:ff P ops m (D.setIfInBounds i true) (L.put (some d) v) K):ff P ops (m+1) D L K:=by
 have getD_of:∀ i o,ops[i]?=some o→ops.getD i default=o:=fun i o h=>by rw [Array.getD_eq_getD_getElem?,h];rfl
 have hin:i<ops.size:=(Array.getElem?_eq_some_iff.1 ho).1
 let C:Array Bool→Prop:=fun D=>D.size=ops.size∧D.getD i false=false∧(∀ j∈fB o,D.getD j false=true)∧∀ j oj,ops[j]?=some oj→j≠i→D.getD j false=false →
  iN oj.op=true∧oj.dst≠some d∧(d∈oj.looksAt ops→i∈fB oj)∧∀ e,oj.dst=some e→e∉o.looksAt ops
 unfold vg at hok
 rw [getD_of i o ho,hdst] at hok
 simp only [Bool.and_eq_true,List.all_eq_true,List.mem_range,Bool.or_eq_true,beq_iff_eq,Bool.not_eq_true',Option.isNone_iff_eq_none,bne_iff_ne,ne_eq] at hok
 obtain⟨⟨⟨⟨⟨hsz,hni⟩,hrd⟩,hgd⟩,hslim⟩,hall⟩:=hok
 have hC:C D:=by
  refine⟨hsz,by rw [eW (by omega) false true];exact hni,hrd,fun j oj hj hne hDj=>?_⟩
  have hjl:j<ops.size:=(Array.getElem?_eq_some_iff.1 hj).1
  have:=hall j hjl
  rw [getD_of j oj hj] at this
  rcases this with(q | q) | q
  ·exact absurd q hne
  ·rw [eW (by omega) true false,hDj] at q;cases q
  ·obtain⟨⟨⟨q1,q2⟩,q3⟩,q4⟩:=q
   refine⟨q1,q2,fun hm=>?_,fun e he hm=>?_⟩
   ·rcases q3 with q | q
    ·rw [List.contains_iff_mem.2 hm] at q;cases q
    ·exact List.contains_iff_mem.1 q
   ·rw [he] at q4
    simp only [Bool.not_eq_true'] at q4
    rw [List.contains_iff_mem.2 hm] at q4;cases q4
 have hstepi:∀ L:St,OpP P L.heap L.ev o.op v→Step P false ops o L (L.put (some d) v):=fun L hv=>by
  refine .val (fr:=[]) (H1:=L.heap) (r:=v) (by unfold bc;rw [hgd]) (bI.le_refl _) (fun _ _ hh=>by cases hh) (.pure hv) ?_
  rw [hdst];rfl
 clear hsz hni hrd hall
 have main:∀ (n:Nat) (D:Array Bool) (L:St),C D→OpP P L.heap L.ev o.op v→ff P ops n (D.setIfInBounds i true) (L.put (some d) v) K→ff P ops (n+1) D L K:=by
  intro n
  induction n with
  | zero =>
   intro D L ⟨c1,c2,c3,c4⟩ hv hh
   have hri:i∈Region.ready .any ops D:=(co c1).2 ⟨o,ho,by rw [eW (by omega) true false];exact c2,c3⟩
   refine⟨fun hr=>(by rw [hr] at hri;cases hri),fun j hj=>?_⟩
   by_cases hji:j=i
   ·subst hji
    exact⟨o,_,ho,hstepi L hv,hh⟩
   ·exfalso
    obtain⟨oj,h1,h2,h3⟩:=(co c1).1 hj
    have:j∈Region.ready .any ops (D.setIfInBounds i true):=(co (by simpa using c1)).2 ⟨oj,h1,by
     rw [Array.getD_eq_getD_getElem?,Array.getElem?_setIfInBounds_ne (Ne.symm hji),←Array.getD_eq_getD_getElem?];exact h2,fun k hk=>by
     by_cases hki:i=k
     ·subst hki
      rw [Array.getD_eq_getD_getElem?,Array.getElem?_setIfInBounds_self_of_lt (by omega)];rfl
     ·rw [Array.getD_eq_getD_getElem?,Array.getElem?_setIfInBounds_ne hki,←Array.getD_eq_getD_getElem?];exact h3 k hk⟩
    rw [hh.1] at this;cases this
  | succ n ih =>
   intro D L ⟨c1,c2,c3,c4⟩ hv hh
   have hri:i∈Region.ready .any ops D:=(co c1).2 ⟨o,ho,by rw [eW (by omega) true false];exact c2,c3⟩
   refine⟨fun hr=>(by rw [hr] at hri;cases hri),fun j hj=>?_⟩
   by_cases hji:j=i
   ·subst hji
    exact⟨o,_,ho,hstepi L hv,hh⟩
   ·obtain⟨oj,h1,h2,h3⟩:=(co c1).1 hj
    have hjl:j<ops.size:=(Array.getElem?_eq_some_iff.1 h1).1
    have hDj:D.getD j false=false:=by rw [eW (by omega) false true];exact h2
    have hji2:j∈Region.ready .any ops (D.setIfInBounds i true):=(co (by simpa using c1)).2 ⟨oj,h1,by
     rw [Array.getD_eq_getD_getElem?,Array.getElem?_setIfInBounds_ne (Ne.symm hji),←Array.getD_eq_getD_getElem?];exact h2,fun k hk=>by
     by_cases hki:i=k
     ·subst hki
      rw [Array.getD_eq_getD_getElem?,Array.getElem?_setIfInBounds_self_of_lt (by omega)];rfl
     ·rw [Array.getD_eq_getD_getElem?,Array.getElem?_setIfInBounds_ne hki,←Array.getD_eq_getD_getElem?];exact h3 k hk⟩
    obtain⟨oj',L2,g1,g2,g3⟩:=hh.2 j hji2
    rw [h1] at g1;cases g1
    obtain⟨k1,k2,k3,k4⟩:=c4 j oj h1 hji hDj
    have hnl:d∉oj.looksAt ops:=fun hm=>by
     have:=h3 i (k3 hm)
     rw [c2] at this;cases this
    obtain⟨L1,s1,s2,s3⟩:=wq k1 hnl k2 g2
    refine⟨oj,L1,h1,s1,ih (D.setIfInBounds j true) L1 ⟨by simpa using c1,?_,fun k hk=>?_,fun k ok hk hne hDk=>?_⟩ ?_ ?_⟩
    ·rw [Array.getD_eq_getD_getElem?,Array.getElem?_setIfInBounds_ne hji,←Array.getD_eq_getD_getElem?];exact c2
    ·by_cases hjk:j=k
     ·subst hjk
      rw [Array.getD_eq_getD_getElem?,Array.getElem?_setIfInBounds_self_of_lt (by omega)];rfl
     ·rw [Array.getD_eq_getD_getElem?,Array.getElem?_setIfInBounds_ne hjk,←Array.getD_eq_getD_getElem?];exact c3 k hk
    ·by_cases hjk:j=k
     ·subst hjk
      rw [Array.getD_eq_getD_getElem?,Array.getElem?_setIfInBounds_self_of_lt (by omega)] at hDk
      cases hDk
     ·rw [Array.getD_eq_getD_getElem?,Array.getElem?_setIfInBounds_ne hjk,←Array.getD_eq_getD_getElem?] at hDk
      exact c4 k ok hk hne hDk
    ·refine(hv.cong (th hslim) fun x hx=>?_).slim hslim
     cases x with
     | tmp t =>
      have ht:t∈o.looksAt ops:=by
       unfold Oper.looksAt
       simp only [List.mem_append,List.mem_filterMap]
       exact .inl ⟨.tmp t,by simpa using hx,rfl⟩
      exact s3 t (fun q=>k4 t q ht)
     | const v=>rfl
     | func f=>rfl
     | global f=>rfl
    ·rw [←s2]
     have:(D.setIfInBounds j true).setIfInBounds i true=(D.setIfInBounds i true).setIfInBounds j true:=by
      refine Array.ext_getElem? fun k=>?_
      by_cases q1:i=k
      ·subst q1
       rw [Array.getElem?_setIfInBounds_self_of_lt (by simp;omega),Array.getElem?_setIfInBounds_ne hji,Array.getElem?_setIfInBounds_self_of_lt (by omega)]
      ·by_cases q2:j=k
       ·subst q2
        rw [Array.getElem?_setIfInBounds_ne q1,Array.getElem?_setIfInBounds_self_of_lt (by omega),Array.getElem?_setIfInBounds_self_of_lt (by simp;omega)]
       ·rw [Array.getElem?_setIfInBounds_ne q1,Array.getElem?_setIfInBounds_ne q2,Array.getElem?_setIfInBounds_ne q2,Array.getElem?_setIfInBounds_ne q1]
     rw [this];exact g3
 exact main m D L hC hv h
end
end Go.Lg
end
