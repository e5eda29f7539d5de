/- Texts R5, B1, M1, R6, B2, C1, C2, D1, E1, E3, K1, K4, H1, V1, H2, TW, K3, G1, S1, K5, K8, K9, K13, K2, K10, K7, K11, K14, K16, P4, K18, P5, K20, K21, Z1, Z2, Z3, K25, LgS, K26, LgT, Y1, T1, T2, T3 of this proof, joined. -/
import Derived.Test.YthpfpgfehmhpdaaGreatQK4
set_option linter.unusedVariables false
set_option linter.unusedSimpArgs false
section
set_option linter.unusedVariables false
set_option linter.unusedSimpArgs false
set_option maxHeartbeats 8000000
set_option maxRecDepth 100000
attribute [local irreducible] Go.Lg.opsL Go.Lg.wpL Go.Lg.thenL Go.Lg.blockL
namespace Go.Proofs.YthpfpgfehmhpdaaGreat
open Go.Lg
section
variable {q a b:Rat}
theorem neg_lt0:(-q<0)↔0<q:=by grind
theorem len_pos {n:Nat}:0<(dig n).length↔0<n:=by
 constructor
 ·intro h;exact Nat.pos_of_ne_zero (fun e=>by rw [e,dig_zero] at h;cases h)
 ·intro h;exact List.length_pos_iff.2 (fun e=>by have:=dig_eq_nil.1 e;omega)
theorem pos_iff:0<q↔0<q.num:=by rw [Rat.lt_iff];simp
theorem neg1 (h:(!decide (q<0))=true):decide (((dig q.num.natAbs).length:Int) > 0)=decide (-q<0):=by
 rw [decide_eq_decide,neg_lt0,pos_iff]
 have h1:¬ q<0:=by simpa using h
 rw [rat_lt0] at h1
 have:=len_pos (n:=q.num.natAbs)
 omega
theorem neg2 (h:(!decide (q<0))=false):false=decide (-q<0):=by
 have h1:q<0:=by simpa using h
 symm;rw [decide_eq_false_iff_not];grind
theorem ratL_neg' (s:Bool) (h:s=decide (-q<0)):ratL (-q)=.agg [.v (.bool s),magL q.num.natAbs,magL (denN q)]:=by
 rw [ratL_eq,h,denN_eq,denN_eq,Rat.neg_num,Int.natAbs_neg,Rat.neg_den]
theorem rat_ext':a=b↔decide (a<0)=decide (b<0)∧a.num.natAbs=b.num.natAbs∧denN a=denN b:=by
 constructor
 ·rintro rfl;exact⟨rfl,rfl,rfl⟩
 ·rintro⟨h1,h2,h3⟩
  have hd:a.den=b.den:=denN_inj (by rw [h3])
  rw [←qv_self a,←qv_self b,h1,h2,hd]
theorem same1 (h:(decide (a<0)==decide (b<0))=false):false=decide (a=b):=by
 symm;rw [decide_eq_false_iff_not,rat_ext'];intro h2;rw [h2.1] at h;simp at h
end
end Go.Proofs.YthpfpgfehmhpdaaGreat
namespace Go.Lg
open Go.Proofs.YthpfpgfehmhpdaaGreat in
theorem OpT.stNegR {P:Program} {L:St} {dst:Option Nat} {T:TypeId} {p x:Operand} {b:Nat} {q:Rat} {s:Bool} (hp:L.ev p=.eptr b 3 0 0) (hb:L.heap b=some ⟨3,[ratL q],true⟩) (hx:L.ev x=.v (.bool s)) (hT:TyIs P T 1 false)
  (hs:s=decide (-q<0)):OpT P L dst (.store T p x) ((L.setB b (some ⟨3,[ratL (-q)],true⟩)).put dst .any):=by
 have h0:LV.put (ratL q) 0 (L.ev x)=some (ratL (-q)):=by
  rw [hx,ratL_neg' s hs,ratL_eq q]
  have e1:∀ n,(magL n).csize=1:=fun _=>rfl
  simp [LV.put,putFs,csizes,LV.csize,LV.isAgg]
 exact OpT.store (P:=P) (dst:=dst) (T:=T) (p:=p) (x:=x) (y:=ratL q) (y':=ratL (-q)) hp hb rfl rfl rfl (ratE.csize _) h0 (by rw [hx];exact hT) (by rw [hx];exact⟨(fun h=>by cases h),(fun _ h=>by cases h)⟩)
end Go.Lg
namespace Go.Proofs.YthpfpgfehmhpdaaGreat
open Go.Lg
theorem neg_wrap {n:Int} (h1:-9223372036854775808≤n) (h2:n<0):IntKind.i64.wrap (0-(n+1))=(((-(n+1)).toNat:Nat):Int):=by
 rw [IntWalk.i64_in _ (by omega)];omega
open H0 in
theorem c_FDen (q:Rat):CallP Tryz.prog 115 [ratL q] (magL q.den):=by
 refine fnP Tryz.func115 ?_
 refine zg15 ?_
 refine wl_if rfl (fun h6r h6=>?_) (fun h6r h6=>?_)
 ·have hd1:=denN_zero (show (dig (denN q)).length=0 by omega)
  refine zg8 ?_
  rw [hd1,show magL 1=.list 1 ([1].map u32L) from rfl]
  exact ret1f [7] rfl rfl (imm_refm u32E rfl rfl rfl)
 ·have hd1:=denN_pos (q:=q) (by omega)
  refine zg10 ?_
  rw [←hd1]
  exact ret1 rfl (by first | exact .pure rfl | exact .pure (limL_pure _) | exact .pure (magL_pure _) | exact .pure (ratE.pure _) | exact .pure (pure_lst u32E _ _) | exact .pure (pure_lst ratE _ _))
namespace H_c_Freduce
theorem zSm {p q:Prop} (k:q) (e:p=q:=by simp only [e1,e2,e3,e4,p1,p2,p3,q1,q2,q3,l1,t0,t1,r1,r2,r3,r4,Nat.zero_add,Nat.reduceMul,Nat.reduceAdd,b1,b2,b3,b4,b5,b6,i1,i2,i3,i4,i5,i6,Nat.reduceBEq,dflt,val_dig,tz0];exact rfl):p:=e.mpr k
end H_c_Freduce
open H_c_Freduce in
theorem c_Freduce (s:Bool) (m n:Nat) (hla:(dig m).length≤68719476736) (hlb:(dig n).length≤68719476736) (hn0:0<n):CallP Tryz.prog 116 [bL s,magL m,magL n] (ratL (qv s m n)):=by
 refine fnP Tryz.func116 ?_
 refine zg8 ?_
 refine cp am1 (c_FTrim _ (lim_dig _) (by omega)) ?_
 refine zg1 ?_
 refine cp am1 (c_FTrim _ (lim_dig _) (by omega)) ?_
 refine zg12 ?_
 refine wl_if rfl (fun h14r h14=>?_) (fun h14r h14=>?_)
 ·have hm:m=0:=dig_eq_nil.1 (List.eq_nil_of_length_eq_zero (by omega))
  refine zg8 ?_
  rw [hm,qv_zero,ratL_zero]
  exact retC [] rfl rfl rfl rfl rfl T32 (.pure rfl)
 ·have hm0:0<m:=len_pos.1 (by omega)
  have hg:0<Nat.gcd m n:=Nat.gcd_pos_of_pos_left _ hm0
  have hE:=ratL_qv s hm0 hn0
  have hgl:(dig (Nat.gcd m n)).length≤68719476736:=Nat.le_trans (len_dig_mono (Nat.le_of_dvd hm0 (Nat.gcd_dvd_left _ _))) hla
  have hqa:(dig (m/Nat.gcd m n)).length≤68719476736:=Nat.le_trans (len_dig_mono (Nat.div_le_self _ _)) hla
  have hqb:(dig (n/Nat.gcd m n)).length≤68719476736:=Nat.le_trans (len_dig_mono (Nat.div_le_self _ _)) hlb
  have hg1l:=dig_is1 (n:=Nat.gcd m n)
  refine zg6 ?_
  refine cp am2 (c_FGcd _ _ (by omega) (by omega)) ?_
  refine zg5 ?_
  refine wl_cut (fun L=>∃ (t:Bool) (L1:St),(t=decide (Nat.gcd m n≠1))∧L=(((((((St.mk L1.slot (hp [(6,⟨3,[.agg [.v (.bool false),.list 1 [],.list 1 []]],true⟩)])).put (some 0) (bL s)).put (some 1) (magL m)).put (some 2) (magL n)).put (some 6) (.eptr 6 3 0 0)).put (some 7) (magL (Nat.gcd m n))).put (some 27) (bL t))) ?_ ?_
  ·refine zg5 ?_
   refine op_if 22 rfl (fun h22r h22=>?_) (fun h22r h22=>?_)
   ·refine zg7 ?_
    exact⟨true,_,by symm;rw [decide_eq_true_iff];intro e;rw [e,dig_one] at h22;exact h22 rfl,((put_id' (put_id' (put_id' (put_id' (put_id' (put_id' (mk_id' cl) cl) cl) cl) cl) cl) cl)).symm⟩
   ·refine zg7 ?_
    exact⟨(((dig (Nat.gcd m n)).getD 0 0:Int) != 1),_,by have:=(hg1l (by omega)).1;rw [Bool.eq_iff_iff,bne_iff_ne,decide_eq_true_iff];omega,((put_id' (put_id' (put_id' (put_id' (put_id' (put_id' (mk_id' cl) cl) cl) cl) cl) cl) cl)).symm⟩
  ·rintro _ ⟨t,LR5,ht,rfl⟩
   refine zg1 ?_
   refine wl_cut (fun L=>∃ (x:Nat) (y:Nat) (L1:St),(x=m/Nat.gcd m n∧y=n/Nat.gcd m n)∧L=(((((St.mk L1.slot (hp [(6,⟨3,[.agg [.v (.bool false),.list 1 [],.list 1 []]],true⟩)])).put (some 0) (bL s)).put (some 1) (magL x)).put (some 2) (magL y)).put (some 6) (.eptr 6 3 0 0))) ?_ ?_
   ·refine wl_if rfl (fun h27r h27=>?_) (fun h27r h27=>?_)
    ·refine zg4 ?_
     refine cp am2 (c_FDiv _ _ (by omega) (by omega) hg) ?_
     refine zg10 ?_
     refine cp am2 (c_FDiv _ _ (by omega) (by omega) hg) ?_
     refine zg7 ?_
     exact⟨m/Nat.gcd m n,n/Nat.gcd m n,_,⟨rfl,rfl⟩,((put_id' (put_id' (put_id' (put_id' (mk_id' cl) cl) cl) cl) cl)).symm⟩
    ·have hg1:Nat.gcd m n=1:=by rw [ht,decide_eq_false_iff_not] at h27r;omega
     refine zg2 ?_
     exact⟨m,n,_,⟨by rw [hg1,Nat.div_one],by rw [hg1,Nat.div_one]⟩,((put_id' (put_id' (put_id' (put_id' (mk_id' cl) cl) cl) cl) cl)).symm⟩
   ·rintro _ ⟨x,y,LC27,⟨hx,hy⟩,rfl⟩
    rw [←hx,←hy] at hE
    have hy0:0<y:=by rw [hy];exact Nat.div_pos (Nat.le_of_dvd hn0 (Nat.gcd_dvd_right _ _)) hg
    refine zg8 ?_
    refine op_if 45 rfl (fun h45r h45=>?_) (fun h45r h45=>?_)
    ·refine zg7 ?_
     refine wl_if rfl (fun h50r h50=>?_) (fun h50r h50=>?_)
     ·have hy1:y=1:=by have:=(dig_is1 (n:=y) (by omega)).1;omega
      refine zg14 ?_
      rw [hE,if_pos hy1]
      exact retC [] rfl rfl rfl rfl rfl T32 (.agg (.cons (.pure rfl) (.cons (.pure (magL_pure _)) (.cons (.nil 1) .nil))))
     ·have hy1:y≠1:=by have:=(dig_is1 (n:=y) (by omega)).1;omega
      refine zg12 ?_
      rw [hE,if_neg hy1]
      exact retC [] rfl rfl rfl rfl rfl T32 (.agg (.cons (.pure rfl) (.cons (.pure (magL_pure _)) (.cons (.pure (magL_pure _)) .nil))))
    ·have hy1:y≠1:=fun e=>by rw [e,dig_one] at h45;exact h45 rfl
     refine zg20 ?_
     rw [hE,if_neg hy1]
     exact retC [] rfl rfl rfl rfl rfl T32 (.agg (.cons (.pure rfl) (.cons (.pure (magL_pure _)) (.cons (.pure (magL_pure _)) .nil))))
open H0 in
theorem c_Fsize (n:Int) (h1:-9223372036854775808≤n) (h2:n≤9223372036854775807):CallP Tryz.prog 60 [iL n] (.tup [magL n.natAbs,bL (decide (n<0))]):=by
 refine fnP Tryz.func60 ?_
 refine zg13 ?_
 refine wl_if rfl (fun h5r h5=>?_) (fun h5r h5=>?_)
 ·refine zg4 ?_
  refine st_pure rfl (.neg rfl) ?_
  refine st_pure rfl (.cv64 (n:=(-(n+1)).toNat) Tryz.underlying2 Tryz.underlying187 (by simp only [e1,p1,p2,Nat.reduceBEq];rw [neg_wrap h1 h5]) (by omega)) ?_
  refine st_pure rfl (.bin rfl rfl (addU (show (-(n+1)).toNat+1<18446744073709551616 by omega))) ?_
  refine cp am1 (c_FOf ((-(n+1)).toNat+1) (by omega)) ?_
  refine zg6 ?_
  rw [decide_eq_true h5,show n.natAbs=(-(n+1)).toNat+1 by omega]
  exact ret2 rfl (.pure (magL_pure _)) rfl (.pure rfl)
 ·refine zg5 ?_
  refine st_pure rfl (.cv64 (n:=n.natAbs) Tryz.underlying2 Tryz.underlying187 (by simp only [e1,p1,p2,Nat.reduceBEq];rw [show ((n.natAbs:Nat):Int)=n by omega];rfl) (by omega)) ?_
  refine cp am1 (c_FOf n.natAbs (by omega)) ?_
  refine zg5 ?_
  rw [decide_eq_false h5]
  exact ret2 rfl (.pure (magL_pure _)) rfl (.pure rfl)
open H0 in
theorem c_FMake (n d:Int) (h1:-9223372036854775808≤n) (h2:n≤9223372036854775807) (h3:-9223372036854775808≤d) (h4:d≤9223372036854775807) (hd:d≠0):CallP Tryz.prog 64 [iL n,iL d] (.tup [ratL ((n:Rat)/(d:Rat)),iL 0]):=by
 refine fnP Tryz.func64 ?_
 refine zg13 ?_
 refine wl_if rfl (fun h11r h11=>?_) (fun h11r h11=>?_)
 ·exact absurd h11 hd
 ·refine zg5 ?_
  refine cp am1 (c_Fsize _ (by omega) (by omega)) ?_
  refine zg10 ?_
  refine cp am1 (c_Fsize _ (by omega) (by omega)) ?_
  refine zg14 ?_
  refine cp am3 (c_Freduce (decide (n<0) != decide (d<0)) n.natAbs d.natAbs (Nat.le_trans (dig_len_le2.2 (by omega)) (by omega)) (Nat.le_trans (dig_len_le2.2 (by omega)) (by omega)) (by omega)) ?_
  refine zg5 ?_
  rw [←qv_ints]
  exact retCT [] rfl rfl rfl (ratE.csize _) (ratL_all _) T32 (.pure (ratE.pure _)) rfl (.pure rfl)
open H0 in
theorem c_FFrac (n d:Int) (h1:-9223372036854775808≤n) (h2:n≤9223372036854775807) (h3:-9223372036854775808≤d) (h4:d≤9223372036854775807) (hd:d≠0):CallP Tryz.prog 24 [iL n,iL d] (ratL ((n:Rat)/(d:Rat))):=by
 refine fnP Tryz.func24 ?_
 refine zg9 ?_
 refine cp am2 (c_FMake _ _ (by omega) (by omega) (by omega) (by omega) (by omega)) ?_
 refine zg15 ?_
 exact retC [] rfl rfl rfl (ratE.csize _) (ratL_all _) T32 (.pure (ratE.pure _))
open H0 in
theorem c_FInt (n:Int) (h1:-9223372036854775808≤n) (h2:n≤9223372036854775807):CallP Tryz.prog 20 [iL n] (ratL (n:Rat)):=by
 refine fnP Tryz.func20 ?_
 refine zg8 ?_
 refine cp am1 (c_Fsize _ (by omega) (by omega)) ?_
 refine zg16 ?_
 rw [←qv_int n]
 have hz:n.natAbs=0∨0<n.natAbs:=by omega
 rcases hz with hz | hz
 ·obtain rfl:n=0:=by omega
  rw [show qv (decide ((0:Int)<0)) (0:Int).natAbs 1=0 from qv_zero _ _,ratL_zero]
  exact retC [] rfl rfl rfl rfl rfl T32 (.pure rfl)
 ·rw [ratL_qv _ hz (by omega),Nat.gcd_one_right,Nat.div_one,if_pos (by omega)]
  exact retC [] rfl rfl rfl rfl rfl T32 (.agg (.cons (.pure rfl) (.cons (.pure (magL_pure _)) (.cons (.pure rfl) .nil))))
open H0 in
theorem c_FSign (q:Rat):CallP Tryz.prog 96 [ratL q] (iL (sgnR q)):=by
 have hq:=sgnR_eq q
 refine fnP Tryz.func96 ?_
 refine zg15 ?_
 refine wl_if rfl (fun h6r h6=>?_) (fun h6r h6=>?_)
 ·have hz:q.num.natAbs=0:=dig_eq_nil.1 (List.eq_nil_of_length_eq_zero (by omega))
  refine zg7 ?_
  rw [hq,if_pos hz]
  exact ret1 rfl (by first | exact .pure rfl | exact .pure (limL_pure _) | exact .pure (magL_pure _) | exact .pure (ratE.pure _) | exact .pure (pure_lst u32E _ _) | exact .pure (pure_lst ratE _ _))
 ·have hz:q.num.natAbs≠0:=fun e=>by rw [e,dig_zero] at h6;exact h6 rfl
  refine zg9 ?_
  refine wl_if rfl (fun h8r h8=>?_) (fun h8r h8=>?_)
  ·refine zg7 ?_
   rw [hq,if_neg hz,if_pos h8]
   exact ret1 rfl (by first | exact .pure rfl | exact .pure (limL_pure _) | exact .pure (magL_pure _) | exact .pure (ratE.pure _) | exact .pure (pure_lst u32E _ _) | exact .pure (pure_lst ratE _ _))
  ·refine zg8 ?_
   rw [hq,if_neg hz,if_neg h8]
   exact ret1 rfl (by first | exact .pure rfl | exact .pure (limL_pure _) | exact .pure (magL_pure _) | exact .pure (ratE.pure _) | exact .pure (pure_lst u32E _ _) | exact .pure (pure_lst ratE _ _))
open H0 in
theorem c_FNeg (q:Rat):CallP Tryz.prog 21 [ratL q] (ratL (-q)):=by
 refine fnP Tryz.func21 ?_
 refine zg12 ?_
 refine op_if 6 rfl (fun h6r h6=>?_) (fun h6r h6=>?_)
 ·refine zg6 ?_
  refine st_store rfl (.stNegR rfl rfl rfl T4 (by first | exact neg1 h6r | exact neg2 h6r)) ?_
  refine zg9 ?_
  exact retC [] rfl rfl rfl (ratE.csize _) (ratL_all _) T32 (.pure (ratE.pure _))
 ·refine zg6 ?_
  refine st_store rfl (.stNegR rfl rfl rfl T4 (by first | exact neg1 h6r | exact neg2 h6r)) ?_
  refine zg9 ?_
  exact retC [] rfl rfl rfl (ratE.csize _) (ratL_all _) T32 (.pure (ratE.pure _))
namespace H_c_FRAdd
theorem zSm {p q:Prop} (k:q) (e:p=q:=by simp only [e1,e2,e3,e4,p1,p2,p3,q1,q2,q3,l1,t0,t1,r1,r2,r3,r4,Nat.zero_add,Nat.reduceMul,Nat.reduceAdd,b1,b2,b3,b4,b5,b6,i1,i2,i3,i4,i5,i6,Nat.reduceBEq,val_dig,eSb];exact rfl):p:=e.mpr k
end H_c_FRAdd
open H_c_FRAdd in
theorem c_FRAdd (a b:Rat) (h:rl a+rl b≤34359738368):CallP Tryz.prog 54 [ratL a,ratL b] (ratL (a+b)):=by
 have a1:=rl_num a
 have a2:=rl_den a
 have a3:=rl_denN a
 have c1:=rl_num b
 have c2:=rl_den b
 have c3:=rl_denN b
 have a0:=a.den_pos
 have c0:=b.den_pos
 have m1:=len_mul a1 c2
 have m2:=len_mul c1 a2
 have m3:=len_mul a2 c2
 have m4:=len_mul a1 c1
 have m5:=len_mul a2 c1
 have m6:=len_mul c2 a2
 have np:=Nat.mul_pos a0 c0
 have m7:(dig (a.num.natAbs*b.den+b.num.natAbs*a.den)).length≤rl a+rl b+1:=len_add m1 (by omega)
 have ls1:(dig (a.num.natAbs*b.den-b.num.natAbs*a.den)).length≤rl a+rl b:=Nat.le_trans (len_dig_mono (Nat.sub_le _ _)) m1
 have ls2:(dig (b.num.natAbs*a.den-a.num.natAbs*b.den)).length≤rl b+rl a:=Nat.le_trans (len_dig_mono (Nat.sub_le _ _)) m2
 refine fnP Tryz.func54 ?_
 have eSb:True:=trivial
 refine zg16 ?_
 refine wl_if rfl (fun h15r h15=>?_) (fun h15r h15=>?_)
 ·have hz:=num0 (q:=a) (by omega)
  refine zg8 ?_
  rw [hz,Rat.zero_add]
  exact retC [] rfl rfl rfl (ratE.csize _) (ratL_all _) T32 (.pure (ratE.pure _))
 ·refine zg11 ?_
  refine wl_if rfl (fun h20r h20=>?_) (fun h20r h20=>?_)
  ·have hz:=num0 (q:=b) (by omega)
   refine zg8 ?_
   rw [hz,Rat.add_zero]
   exact retC [] rfl rfl rfl (ratE.csize _) (ratL_all _) T32 (.pure (ratE.pure _))
  ·refine zg3 ?_
   refine wl_regD 12 (by decide +kernel) ?_
   refine zg3 ?_
   refine cp am1 (c_FDen _) ?_
   refine cp am2 (c_FMul _ _ (by omega) (by omega)) ?_
   refine zg3 ?_
   refine cp am1 (c_FDen _) ?_
   refine cp am2 (c_FMul _ _ (by omega) (by omega)) ?_
   refine zg5 ?_
   refine wl_regD 6 (by decide +kernel) ?_
   refine zg1 ?_
   refine cp am1 (c_FDen _) ?_
   refine zg1 ?_
   refine cp am1 (c_FDen _) ?_
   refine cp am2 (c_FMul _ _ (by omega) (by omega)) ?_
   refine zg13 ?_
   refine wl_if rfl (fun h41r h41=>?_) (fun h41r h41=>?_)
   ·refine zg1 ?_
    refine wl_regD 7 (by decide +kernel) ?_
    refine zg4 ?_
    refine cp am2 (c_FAdd _ _ (by omega) (by omega)) ?_
    refine zg1 ?_
    refine cp am3 (c_Freduce _ _ _ (by omega) (by omega) np) ?_
    refine zg5 ?_
    have E:=add_same (k:=1) (x:=a.num.natAbs*b.den) (y:=b.num.natAbs*a.den) (d:=a.den*b.den) (by omega) (Nat.mul_one _) (Nat.mul_one _) (Nat.mul_one _) (eq_of_beq h41r)
    rw [sgR_self,←eq_of_beq h41r] at E
    rw [E]
    exact retC [] rfl rfl rfl (ratE.csize _) (ratL_all _) T32 (.pure (ratE.pure _))
   ·refine zg7 ?_
    refine cp am2 (c_FCmp _ _ (by omega) (by omega)) ?_
    refine zg3 ?_
    refine wl_if rfl (fun h52r h52=>?_) (fun h52r h52=>?_)
    ·have hlt:a.num.natAbs*b.den<b.num.natAbs*a.den:=by unfold cmpN at h52;split at h52;assumption;split at h52<;>omega
     have eSb:=subL_le (Nat.le_of_lt hlt)
     refine zg4 ?_
     refine cp am2 (c_FSub _ _ (by omega) (by omega)) ?_
     refine zg13 ?_
     refine cp am3 (c_Freduce _ _ _ (by omega) (by omega) np) ?_
     refine zg5 ?_
     have E:=add_le (k:=1) (x:=a.num.natAbs*b.den) (y:=b.num.natAbs*a.den) (d:=a.den*b.den) (by omega) (Nat.mul_one _) (Nat.mul_one _) (Nat.mul_one _) (beq_ne_of h41r) (Nat.le_of_lt hlt)
     rw [sgR_self] at E
     rw [E]
     exact retC [] rfl rfl rfl (ratE.csize _) (ratL_all _) T32 (.pure (ratE.pure _))
    ·have hle:b.num.natAbs*a.den≤a.num.natAbs*b.den:=by
      rcases Nat.lt_or_ge (a.num.natAbs*b.den) (b.num.natAbs*a.den) with h | h
      ·rw [cmpN_lt h] at h52;omega
      ·exact h
     have eSb:=subL_le hle
     refine zg6 ?_
     refine cp am2 (c_FSub _ _ (by omega) (by omega)) ?_
     refine zg13 ?_
     refine cp am3 (c_Freduce _ _ _ (by omega) (by omega) np) ?_
     refine zg4 ?_
     have E:=add_ge (k:=1) (x:=a.num.natAbs*b.den) (y:=b.num.natAbs*a.den) (d:=a.den*b.den) (by omega) (Nat.mul_one _) (Nat.mul_one _) (Nat.mul_one _) (beq_ne_of h41r) hle
     rw [sgR_self] at E
     rw [E]
     exact retC [] rfl rfl rfl (ratE.csize _) (ratL_all _) T32 (.pure (ratE.pure _))
open H0 in
theorem c_FRCmp (a b:Rat) (h:rl a+rl b≤34359738368):CallP Tryz.prog 53 [ratL a,ratL b] (iL (cmpR a b)):=by
 have a1:=rl_num a
 have a2:=rl_den a
 have a3:=rl_denN a
 have c1:=rl_num b
 have c2:=rl_den b
 have c3:=rl_denN b
 have a0:=a.den_pos
 have c0:=b.den_pos
 have m1:=len_mul a1 c2
 have m2:=len_mul c1 a2
 have m3:=len_mul a2 c2
 have m4:=len_mul a1 c1
 have m5:=len_mul a2 c1
 have m6:=len_mul c2 a2
 have np:=Nat.mul_pos a0 c0
 refine fnP Tryz.func53 ?_
 refine zg9 ?_
 refine wl_regD 6 (by decide +kernel) ?_
 refine zg1 ?_
 refine cp am1 (c_FSign _) ?_
 refine zg1 ?_
 refine cp am1 (c_FSign _) ?_
 refine zg11 ?_
 refine wl_if rfl (fun h14r h14=>?_) (fun h14r h14=>?_)
 ·refine zg8 ?_
  refine wl_if rfl (fun h17r h17=>?_) (fun h17r h17=>?_)
  ·refine zg8 ?_
   rw [cmp_slt h17]
   exact ret1 rfl (by first | exact .pure rfl | exact .pure (limL_pure _) | exact .pure (magL_pure _) | exact .pure (ratE.pure _) | exact .pure (pure_lst u32E _ _) | exact .pure (pure_lst ratE _ _))
  ·refine zg9 ?_
   rw [cmp_sgt (by omega)]
   exact ret1 rfl (by first | exact .pure rfl | exact .pure (limL_pure _) | exact .pure (magL_pure _) | exact .pure (ratE.pure _) | exact .pure (pure_lst u32E _ _) | exact .pure (pure_lst ratE _ _))
 ·have hss:sgnR a=sgnR b:=by omega
  obtain⟨c,hc⟩:∃ c,c=cmpN (a.num.natAbs*b.den) (b.num.natAbs*a.den):=⟨_,rfl⟩
  refine zg3 ?_
  refine wl_regD 12 (by decide +kernel) ?_
  refine zg3 ?_
  refine cp am1 (c_FDen _) ?_
  refine cp am2 (c_FMul _ _ (by omega) (by omega)) ?_
  refine zg3 ?_
  refine cp am1 (c_FDen _) ?_
  refine cp am2 (c_FMul _ _ (by omega) (by omega)) ?_
  refine cp am2 (c_FCmp _ _ (by omega) (by omega)) ?_
  refine zg10 ?_
  refine wl_if rfl (fun h30r h30=>?_) (fun h30r h30=>?_)
  ·refine zg9 ?_
   rw [cmp_same hss,if_pos h30,←wrap_negc rfl]
   exact ret1 rfl (by first | exact .pure rfl | exact .pure (limL_pure _) | exact .pure (magL_pure _) | exact .pure (ratE.pure _) | exact .pure (pure_lst u32E _ _) | exact .pure (pure_lst ratE _ _))
  ·refine zg9 ?_
   rw [cmp_same hss,if_neg h30]
   exact ret1 rfl (by first | exact .pure rfl | exact .pure (limL_pure _) | exact .pure (magL_pure _) | exact .pure (ratE.pure _) | exact .pure (pure_lst u32E _ _) | exact .pure (pure_lst ratE _ _))
end Go.Proofs.YthpfpgfehmhpdaaGreat
namespace Go.Lg
open Go.Proofs.YthpfpgfehmhpdaaGreat in
theorem OpP.build0 {P:Program} {H:Heap} {ρ:Operand→LV} {T:TypeId} (hT:StructLay P T [(1,false),(1,false),(1,false)]) (hz:ZeroOK P T (.agg [.v (.bool false),.list 1 [],.list 1 []])):OpP P H ρ (.build T #[]) (ratL 0):=by
 rw [ratL_zero]
 exact OpP.build (zs:=[.v (.bool false),.list 1 [],.list 1 []]) (ps:=#[]) hT hz (by intro p hp;cases hp)
end Go.Lg
namespace Go.Proofs.YthpfpgfehmhpdaaGreat
open Go.Lg
theorem dfq:(default:Rat)=0:=rfl
def stp (t:Rat):List Rat→List Rat
 | x :: y :: r=>((1-t)*x+t*y) :: stp t (y :: r)
 | _=>[]
theorem stp_len (t:Rat):∀ p:List Rat,(stp t p).length=p.length-1
 | []=>rfl
 | [_]=>rfl
 | x :: y :: r=>by simp [stp,stp_len t (y :: r)]
theorem stp_get (t:Rat):∀ (p:List Rat) (i:Nat),i+1<p.length→(stp t p).getD i 0=(1-t)*p.getD i 0+t*p.getD (i+1) 0
 | [],i,h=>by simp at h
 | [_],i,h=>by simp at h
 | x :: y :: r,0,_=>by simp [stp]
 | x :: y :: r,i+1,h=>by
   have:=stp_get t (y :: r) i (by simpa using h)
   simpa [stp] using this
theorem getD_mem {p:List Rat} {i:Nat} (h:i<p.length):p.getD i 0∈p:=by
 rw [List.getD_eq_getElem?_getD,List.getElem?_eq_getElem h];exact List.getElem_mem h
theorem mem_getD {p:List Rat} {x:Rat} (h:x∈p):∃ i,i<p.length∧p.getD i 0=x:=by
 obtain⟨i,hi,rfl⟩:=List.getElem_of_mem h
 exact⟨i,hi,by rw [List.getD_eq_getElem?_getD,List.getElem?_eq_getElem hi];rfl⟩
def loF (t:Rat):Nat→List Rat→List Rat
 | 0,_=>[]
 | k+1,p=>p.getD 0 0 :: loF t k (stp t p)
def hiF (t:Rat):Nat→List Rat→List Rat→List Rat
 | 0,q,tl=>q++tl
 | k+1,q,tl=>hiF t k (stp t q) (q.getD k 0 :: tl)
def loP (p:List Rat) (t:Rat):List Rat:=loF t p.length p
def hiP (p:List Rat) (t:Rat):List Rat:=hiF t p.length p []
theorem set_mid {α:Type} (A B:List α) (x v:α) {n:Nat} (h:n=A.length):(A++x :: B).set n v=A++v :: B:=by subst h;simp
theorem getD_app1 {α:Type} (A B:List α) (d:α) {i:Nat} (h:i<A.length):(A++B).getD i d=A.getD i d:=by simp [List.getD_eq_getElem?_getD,List.getElem?_append_left h]
theorem getD_app2 {α:Type} (A B:List α) (d:α) {i:Nat} (h:A.length≤i):(A++B).getD i d=B.getD (i-A.length) d:=by simp [List.getD_eq_getElem?_getD,List.getElem?_append_right h]
theorem getD_dropR (l:List Rat) (k p:Nat):(l.drop k).getD p 0=l.getD (k+p) 0:=by
 rw [List.getD_eq_getElem?_getD,List.getD_eq_getElem?_getD,List.getElem?_drop]
theorem stp_sz {t:Rat} {q:List Rat} {C M k:Nat} (hC:rl (1-t)+rl t+1≤C) (h:∀ x∈q,(rl x+C)*2 ^ (k+1)≤M):∀ x∈stp t q,(rl x+C)*2 ^ k≤M:=by
 intro x hx
 obtain⟨i,hi,rfl⟩:=mem_getD hx
 rw [stp_len] at hi
 rw [stp_get t q i (by omega)]
 have h1:=h _ (getD_mem (p:=q) (i:=i) (by omega))
 have h2:=h _ (getD_mem (p:=q) (i:=i+1) (by omega))
 have e1:=rl_add ((1-t)*q.getD i 0) (t*q.getD (i+1) 0)
 have e2:=rl_mul (1-t) (q.getD i 0)
 have e3:=rl_mul t (q.getD (i+1) 0)
 rw [Nat.pow_succ] at h1 h2
 have hle:rl ((1-t)*q.getD i 0+t*q.getD (i+1) 0)+C≤(rl (q.getD i 0)+C)+(rl (q.getD (i+1) 0)+C):=by omega
 have:=Nat.mul_le_mul_right (2 ^ k) hle
 have e6:=Nat.add_mul (rl (q.getD i 0)+C) (rl (q.getD (i+1) 0)+C) (2 ^ k)
 have e4:(rl (q.getD i 0)+C)*(2 ^ k*2)=(rl (q.getD i 0)+C)*2 ^ k*2:=by rw [Nat.mul_assoc]
 have e5:(rl (q.getD (i+1) 0)+C)*(2 ^ k*2)=(rl (q.getD (i+1) 0)+C)*2 ^ k*2:=by rw [Nat.mul_assoc]
 omega
theorem cp_take {o p:List Rat} {k:Nat} (hk:k<p.length) (hol:o.length=p.length) (ht:o.take k=p.take k):(o.set k (p.getD k 0)).take (k+1)=p.take (k+1):=by
 rw [List.take_succ_eq_append_getElem (by simpa [hol] using hk),List.take_succ_eq_append_getElem hk,List.take_set_of_le (Nat.le_refl _),ht]
 congr 1
 simp [List.getD_eq_getElem?_getD,List.getElem?_eq_getElem hk]
theorem sz_rl {x:Rat} {C M k:Nat} (h:(rl x+C)*2 ^ k≤M):rl x+C≤M:=by
 have:1≤2 ^ k:=Nat.pow_pos (by omega)
 exact Nat.le_trans (Nat.le_mul_of_pos_right _ this) h
theorem sz_len {p:List Rat} {C:Nat} (hC:1≤C) (h:∀ x∈p,(rl x+C)*2 ^ p.length≤1073741824):p.length≤30:=by
 cases p with
 | nil=>simp
 | cons x r =>
  have h1:=h x (by simp)
  have h2:1*2 ^ (x :: r).length≤(rl x+C)*2 ^ (x :: r).length:=Nat.mul_le_mul_right _ (by omega)
  rcases Nat.lt_or_ge 30 (x :: r).length with h3 | h3
  ·have h4:2 ^ 31≤2 ^ (x :: r).length:=Nat.pow_le_pow_right (by omega) h3
   omega
  ·exact h3
namespace H_c_copiedO
theorem zSm {p q:Prop} (k:q) (e:p=q:=by simp only [e1,e2,e3,e4,p1,p2,p3,q1,q2,q3,l1,t0,t1,r1,r2,r3,r4,Nat.zero_add,Nat.reduceMul,Nat.reduceAdd,b1,b2,b3,b4,b5,b6,i1,i2,i3,i4,i5,i6,Nat.reduceBEq,dfq,Rat.add_zero,kills_map ratE,ratL_kill,LV.kill,kills];exact rfl):p:=e.mpr k
end H_c_copiedO
open H_c_copiedO in
theorem c_copiedO (p:List Rat) (hl:p.length≤1048576) (hpr:∀ x∈p,rl x≤274877906944):CallOK Tryz.prog 310 [.list 3 (p.map ratL)] (.ref 1 3 0 p.length) [⟨3,p.map ratL,true⟩]:=by
 refine fnO Tryz.func310 ?_
 refine zg9 ?_
 refine st_alloc rfl rfl (.mkE (n:=p.length) (m:=p.length) ml ml om om om) ?_
 refine zg12 ?_
 refine lp2 (fun(k:Nat) (o:List Rat) L=>(((((St.mk L.slot (hp [(8,⟨3,o.map ratL,true⟩)])).put (some 3) (.ref 8 3 0 p.length)).put (some 9) (.list 3 (p.map ratL))).put (some 10) (nI64 p.length)).put (some 11) (nI64 k))) (fun k o=>k≤p.length∧o.length=p.length∧o.take k=p.take k) (fun k o=>p.length-k) 0 (List.replicate p.length 0) ⟨Nat.zero_le _,by simp,rfl⟩ ?_
 rintro k o L1 ⟨hk,hol,ht⟩
 refine zg6 ?_
 refine wl_if rfl (fun h12r h12=>?_) (fun h12r h12=>?_)
 ·have hk2:k<p.length:=by omega
  have hrk:=hpr _ (getD_mem hk2)
  refine zg18 ?_
  refine st_pure rfl (.build0 SL32 Z32a) ?_
  refine cp am2 (c_RAdd (p.getD k 0) 0 (by rw [show rl 0=1 from rfl];omega)) ?_
  refine zg5 ?_
  refine wl_regW (Weak.kill _ 5) ?_
  refine zg4 ?_
  exact nx2 (k+1) (o.set k (p.getD k 0)) ⟨by omega,by simp [hol],cp_take hk2 hol ht⟩
 ·obtain rfl:k=p.length:=by omega
  rw [List.take_length,←hol,List.take_length] at ht
  refine zg12 ?_
  subst ht
  exact ret1own rfl rfl (pures_map ratE _)
theorem rem64 {a b:Int} (h:b≠0):binI .rem .i64 a b=some (.int .i64 (a.tmod b)):=by simp [binI,h]
theorem dfi:(default:Int)=0:=rfl
def nxV (l:List Int) (k:Nat) (n:Int):Int:=if k<l.length then l.getD k 0 % n else 0
def nxK (l:List Int) (k:Nat):Nat:=if k<l.length then k+1 else k
theorem mod_fix {a m:Int} (hm:0<m):a % m=if a.tmod m<0 then a.tmod m+m else a.tmod m:=by
 have h1:=Int.emod_nonneg a (show m≠0 by omega)
 have h2:=Int.emod_lt_of_pos a hm
 rw [Int.tmod_eq_emod]
 split<;>split<;>omega
def nbV (l:List Int) (k:Nat):Rat × Nat :=
 if nxV l (nxK l k) 4=3 then(((nxV l k 13-6:Int):Rat)/((1+nxV l (nxK l (nxK l k)) 4:Int):Rat),nxK l (nxK l (nxK l k))) else(((nxV l k 13-6:Int):Rat),nxK l (nxK l k))
theorem rl_ints {n d:Int} (h1:n.natAbs<4294967296) (h2:d.natAbs<4294967296):rl ((n:Rat)/(d:Rat))≤1:=by
 rw [←qv_ints]
 have:=rl_qv (k:=1) (decide (n<0) != decide (d<0)) (by simpa using h1) (by simpa using h2)
 omega
theorem rl_int {n:Int} (h1:n.natAbs<4294967296):rl (n:Rat)≤1:=by
 have:=rl_ints (n:=n) (d:=1) h1 (by decide)
 rwa [show ((1:Int):Rat)=1 from rfl,Rat.div_def,show (1:Rat)⁻¹=1 by grind,Rat.mul_one] at this
theorem nxK_le {l:List Int} {k:Nat} (hl:l.length≤500) (hk:k≤500):nxK l k≤500:=by unfold nxK;split<;>omega
open H0 in
theorem c_Mod (n m:Int) (hm:0<m) (hm2:m≤4611686018427387904):CallP Tryz.prog 9 [iL n,iL m] (iL (n % m)):=by
 have hE:=mod_fix (a:=n) hm
 have hb:=Int.tmod_lt_of_pos n hm
 have hb2:=Int.lt_tmod_of_pos n hm
 refine fnP Tryz.func9 ?_
 refine zg9 ?_
 refine st_pure rfl (.bin rfl rfl (rem64 (by omega))) ?_
 refine zg10 ?_
 refine wl_cut (fun L=>∃ (r:Int) (L1:St),(r=n % m)∧L=((St.mk L1.slot (hp [])).put (some 0) (iL r))) ?_ ?_
 ·refine wl_if rfl (fun h9r h9=>?_) (fun h9r h9=>?_)
  ·refine zg3 ?_
   refine st_pure rfl (.bin rfl rfl (add64 (by omega) (by omega))) ?_
   refine zg3 ?_
   exact⟨n.tmod m+m,_,by rw [hE,if_pos h9],((put_id' (mk_id' cl) cl)).symm⟩
  ·refine zg2 ?_
   exact⟨n.tmod m,_,by rw [hE,if_neg h9],((put_id' (mk_id' cl) cl)).symm⟩
 ·rintro _ ⟨r,LC9,hr,rfl⟩
  refine zg8 ?_
  rw [←hr]
  exact ret1 rfl (by first | exact .pure rfl | exact .pure (limL_pure _) | exact .pure (magL_pure _) | exact .pure (ratE.pure _) | exact .pure (pure_lst u32E _ _) | exact .pure (pure_lst ratE _ _))
theorem denN_ne1 (q:Rat):denN q≠1:=by rw [denN_eq];split<;>omega
theorem c_NValidD (n:Nat) (h:(dig n).length≤4611686018427387904):CallP Tryz.prog 126 [magL n] (bL true):=by
 have:=c_NValid (dig n) h
 rwa [decide_eq_true] at this
 by_cases h0:(dig n).length=0
 ·exact .inl h0
 ·exact .inr (can_getLast (can_dig n) (by omega))
theorem gcd1 {q:Rat} (h:0<(dig (denN q)).length):Nat.gcd q.num.natAbs (denN q)=1:=by
 rw [denN_pos h];exact q.reduced
end Go.Proofs.YthpfpgfehmhpdaaGreat
namespace Go.Lg
end Go.Lg
namespace Go.Proofs.YthpfpgfehmhpdaaGreat
open Go.Lg
namespace H_c_RValid
theorem zSm {p q:Prop} (k:q) (e:p=q:=by simp only [e1,e2,e3,e4,p1,p2,p3,q1,q2,q3,l1,t0,t1,r1,r2,r3,r4,Nat.zero_add,Nat.reduceMul,Nat.reduceAdd,b1,b2,b3,b4,b5,b6,i1,i2,i3,i4,i5,i6,Nat.reduceBEq,val_dig,dflt,tz0];exact rfl):p:=e.mpr k
end H_c_RValid
open H_c_RValid in
theorem c_RValid (q:Rat) (h:rl q≤1099511627776):CallP Tryz.prog 72 [ratL q] (bL true):=by
 have a1:=rl_num q
 have a2:=rl_den q
 have a3:=rl_denN q
 have hne:=denN_ne1 q
 refine fnP Tryz.func72 ?_
 refine zg11 ?_
 refine cp am1 (c_NValidD _ (by omega)) ?_
 refine zg4 ?_
 refine cp am1 (c_NValidD _ (by omega)) ?_
 refine zg8 ?_
 refine op_if 18 rfl (fun h18r h18=>?_) (fun h18r h18=>?_)
 ·refine zg9 ?_
  refine wl_if rfl (fun h25r h25=>?_) (fun h25r h25=>?_)
  ·exfalso
   have:=(dig_is1 (n:=denN q) (by omega)).1
   omega
  ·refine zg11 ?_
   refine wl_if rfl (fun h29r h29=>?_) (fun h29r h29=>?_)
   ·refine zg6 ?_
    refine op_if 33 rfl (fun h33r h33=>?_) (fun h33r h33=>?_)
    ·have hz:=num0 (q:=q) (by omega)
     subst hz
     refine zg10 ?_
     exact ret1 rfl (by first | exact .pure rfl | exact .pure (limL_pure _) | exact .pure (magL_pure _) | exact .pure (ratE.pure _) | exact .pure (pure_lst u32E _ _) | exact .pure (pure_lst ratE _ _))
    ·exfalso
     have hz:=num0 (q:=q) (by omega)
     subst hz
     revert h33r
     decide
   ·refine zg9 ?_
    refine op_if 43 rfl (fun h43r h43=>?_) (fun h43r h43=>?_)
    ·refine zg5 ?_
     first | simp only [val_dig,hg1] | skip
     refine zg7 ?_
     exact ret1 rfl (by first | exact .pure rfl | exact .pure (limL_pure _) | exact .pure (magL_pure _) | exact .pure (ratE.pure _) | exact .pure (pure_lst u32E _ _) | exact .pure (pure_lst ratE _ _))
    ·have hg1:=gcd1 (q:=q) (by omega)
     refine zg4 ?_
     refine cp am2 (c_NGcd _ _ (lim_dig _) (lim_dig _) (by omega) (by omega)) ?_
     first | simp only [val_dig,hg1] | skip
     refine cp am1 (c_NBits (dig 1) (lim_dig _) (by decide)) ?_
     refine zg6 ?_
     exact ret1 rfl (by first | exact .pure rfl | exact .pure (limL_pure _) | exact .pure (magL_pure _) | exact .pure (ratE.pure _) | exact .pure (pure_lst u32E _ _) | exact .pure (pure_lst ratE _ _))
 ·refine zg21 ?_
  refine wl_if rfl (fun h29r h29=>?_) (fun h29r h29=>?_)
  ·refine zg6 ?_
   refine op_if 33 rfl (fun h33r h33=>?_) (fun h33r h33=>?_)
   ·have hz:=num0 (q:=q) (by omega)
    subst hz
    refine zg10 ?_
    exact ret1 rfl (by first | exact .pure rfl | exact .pure (limL_pure _) | exact .pure (magL_pure _) | exact .pure (ratE.pure _) | exact .pure (pure_lst u32E _ _) | exact .pure (pure_lst ratE _ _))
   ·exfalso
    have hz:=num0 (q:=q) (by omega)
    subst hz
    revert h33r
    decide
  ·refine zg9 ?_
   refine op_if 43 rfl (fun h43r h43=>?_) (fun h43r h43=>?_)
   ·refine zg5 ?_
    first | simp only [val_dig,hg1] | skip
    refine zg7 ?_
    exact ret1 rfl (by first | exact .pure rfl | exact .pure (limL_pure _) | exact .pure (magL_pure _) | exact .pure (ratE.pure _) | exact .pure (pure_lst u32E _ _) | exact .pure (pure_lst ratE _ _))
   ·have hg1:=gcd1 (q:=q) (by omega)
    refine zg4 ?_
    refine cp am2 (c_NGcd _ _ (lim_dig _) (lim_dig _) (by omega) (by omega)) ?_
    first | simp only [val_dig,hg1] | skip
    refine cp am1 (c_NBits (dig 1) (lim_dig _) (by decide)) ?_
    refine zg6 ?_
    exact ret1 rfl (by first | exact .pure rfl | exact .pure (limL_pure _) | exact .pure (magL_pure _) | exact .pure (ratE.pure _) | exact .pure (pure_lst u32E _ _) | exact .pure (pure_lst ratE _ _))
def HS (p:List Rat) (t:Rat):Prop:=∃ cc,rl (1-t)+rl t+1≤cc∧cc≤1073741824∧∀ x∈p,(rl x+cc)*2 ^ p.length≤1073741824
theorem HS.len {p:List Rat} {t:Rat} (h:HS p t):p.length≤30:=by
 obtain⟨cc,h1,h2,h3⟩:=h
 exact sz_len (Nat.le_trans (Nat.le_add_left 1 _) h1) h3
theorem HS.rl {p:List Rat} {t:Rat} (h:HS p t):rl t≤1073741824∧∀ x∈p,Go.Lg.rl x≤1073741824:=by
 obtain⟨cc,h1,h2,h3⟩:=h
 exact⟨by omega,fun x hx=>by have:=sz_rl (h3 x hx);omega⟩
def evP (p:List Rat) (t:Rat):Rat:=(loP p t).getD (p.length-1) 0
theorem set_getD (o:List Rat) (i x:Nat) (v:Rat) (hi:i<o.length):(o.set i v).getD x 0=if x=i then v else o.getD x 0:=by
 rw [List.getD_eq_getElem?_getD,List.getD_eq_getElem?_getD,List.getElem?_set]
 by_cases h:i=x
 ·subst h;simp [hi]
 ·rw [if_neg h,if_neg (fun e=>h e.symm)]
def chs:Nat→Nat→Nat
 | _,0=>1
 | 0,_+1=>0
 | n+1,k+1=>chs n k+chs n (k+1)
theorem chs_gt:∀ {n k:Nat},n<k→chs n k=0
 | 0,k+1,_=>rfl
 | n+1,k+1,h=>by rw [chs,chs_gt (by omega),chs_gt (by omega)]
theorem chs_self:∀ n,chs n n=1
 | 0=>rfl
 | n+1=>by rw [chs,chs_self n,chs_gt (by omega)]
theorem chs_zero (n:Nat):chs n 0=1:=by cases n<;>rfl
theorem chs_le:∀ n k,chs n k≤2 ^ n
 | n,0=>by rw [chs_zero];exact Nat.pow_pos (by omega)
 | 0,k+1=>by simp [chs]
 | n+1,k+1=>by
   have h1:=chs_le n k
   have h2:=chs_le n (k+1)
   rw [chs,Nat.pow_succ];omega
theorem chs_40 {n:Nat} (k:Nat) (h:n≤40):chs n k≤1099511627776:=Nat.le_trans (chs_le n k) (Nat.pow_le_pow_right (n:=2) (by omega) h)
def rowI (n:Nat):List Int:=(List.range (n+1)).map fun x=>(chs n x:Int)
def chR (n:Nat):List Rat:=(List.range (n+1)).map fun x=>((chs n x:Int):Rat)
theorem rowI_len (n:Nat):(rowI n).length=n+1:=by simp [rowI]
theorem chR_len (n:Nat):(chR n).length=n+1:=by simp [chR]
theorem rowI_get {n x:Nat} (h:x≤n):(rowI n).getD x 0=(chs n x:Int):=by
 rw [List.getD_eq_getElem?_getD,List.getElem?_eq_getElem (by rw [rowI_len];omega)];simp [rowI]
theorem chR_get {n x:Nat} (h:x≤n):(chR n).getD x 0=((chs n x:Int):Rat):=by
 rw [List.getD_eq_getElem?_getD,List.getElem?_eq_getElem (by rw [chR_len];omega)];simp [chR]
theorem extI {p q:List Int} (hl:p.length=q.length) (h:∀ i,i<p.length→p.getD i 0=q.getD i 0):p=q:=by
 apply List.ext_getElem hl
 intro i h1 h2
 have:=h i h1
 rw [List.getD_eq_getElem?_getD,List.getD_eq_getElem?_getD,List.getElem?_eq_getElem h1,List.getElem?_eq_getElem h2] at this
 exact this
theorem set_getI (o:List Int) (i x:Nat) (v:Int) (hi:i<o.length):(o.set i v).getD x 0=if x=i then v else o.getD x 0:=by
 rw [List.getD_eq_getElem?_getD,List.getD_eq_getElem?_getD,List.getElem?_set]
 by_cases h:i=x
 ·subst h;simp [hi]
 ·rw [if_neg h,if_neg (fun e=>h e.symm)]
def PasC (k i:Nat) (o:List Int):Prop:=o.length=k+2∧∀ x,x<k+2→o.getD x 0=if i<x∧x≤k then(chs (k+1) x:Int) else if x≤k then(chs k x:Int) else 1
theorem pas_init (k:Nat):PasC k k (rowI k++[1]):=by
 refine⟨by simp [rowI_len],fun x hx=>?_⟩
 rw [if_neg (by omega)]
 by_cases h:x≤k
 ·rw [if_pos h,getD_app1 _ _ _ (by rw [rowI_len];omega),rowI_get h]
 ·rw [if_neg h,getD_app2 _ _ _ (by rw [rowI_len];omega),rowI_len,show x-(k+1)=0 by omega];rfl
theorem pas_step {k i:Nat} {o:List Int} (h:PasC k (i+1) o) (hi:i+1≤k):PasC k i (o.set (i+1) (o.getD (i+1) 0+o.getD i 0)):=by
 obtain⟨h1,h2⟩:=h
 refine⟨by simp [h1],fun x hx=>?_⟩
 rw [set_getI _ _ _ _ (by omega)]
 by_cases hxi:x=i+1
 ·subst hxi
  rw [if_pos rfl,if_pos ⟨by omega,hi⟩,h2 _ (by omega),h2 _ (by omega),if_neg (by omega),if_pos (by omega),if_neg (by omega),if_pos (by omega),chs]
  simp;omega
 ·rw [if_neg hxi,h2 x hx]
  by_cases h3:i+1<x∧x≤k
  ·rw [if_pos h3,if_pos ⟨by omega,h3.2⟩]
  ·rw [if_neg h3,if_neg (show ¬ (i<x∧x≤k) by omega)]
theorem pas_end {k:Nat} {o:List Int} (h:PasC k 0 o):o=rowI (k+1):=by
 obtain⟨h1,h2⟩:=h
 refine extI (by rw [rowI_len,h1]) (fun x hx=>?_)
 rw [h2 x (by omega),rowI_get (by omega)]
 by_cases h3:0<x∧x≤k
 ·rw [if_pos h3]
 ·rw [if_neg h3]
  by_cases h4:x≤k
  ·obtain rfl:x=0:=by omega
   rw [if_pos h4,chs_zero,chs_zero]
  ·obtain rfl:x=k+1:=by omega
   rw [if_neg h4,chs_self];rfl
theorem pas_bd {k i:Nat} {o:List Int} (h:PasC k i o) (hk:k≤39) {x:Nat} (hx:x<k+2):0≤o.getD x 0∧o.getD x 0≤1099511627776:=by
 rw [h.2 x hx]
 have h1:=chs_40 (n:=k+1) x (by omega)
 have h2:=chs_40 (n:=k) x (by omega)
 split
 ·omega
 ·split<;>omega
theorem chR_rl {n:Nat} (hn:n≤40):∀ x∈chR n,rl x≤2:=by
 intro x hx
 simp only [chR,List.mem_map] at hx
 obtain⟨k,_,rfl⟩:=hx
 have h:=chs_40 k hn
 rw [←qv_int]
 have:=rl_qv (k:=2) (decide ((chs n k:Int)<0)) (n:=(chs n k:Int).natAbs) (d:=1) (by omega) (by decide)
 omega
theorem set_takeR {o p:List Rat} {k:Nat} {v:Rat} (hk:k<p.length) (hol:o.length=p.length) (ht:o.take k=p.take k) (hv:v=p.getD k 0):(o.set k v).take (k+1)=p.take (k+1):=by subst hv;exact cp_take hk hol ht
theorem rtake (n:Nat) (f:Int→LV):((rowI n).map f).take (n+1)=(rowI n).map f:=by rw [List.take_of_length_le (by simp [rowI_len])]
theorem ge_zero {p:List Rat} {k:Nat} (h:p.length≤k):p.getD k 0=0:=by
 rw [List.getD_eq_getElem?_getD,List.getElem?_eq_none h];rfl
theorem ext0 {a b:List Rat} (h:a.length=b.length) (h2:∀ k,k<a.length→a.getD k 0=b.getD k 0):a=b:=by
 refine List.ext_getElem h fun k h1 h3=>?_
 have:=h2 k h1
 rw [List.getD_eq_getElem?_getD,List.getD_eq_getElem?_getD,List.getElem?_eq_getElem h1,List.getElem?_eq_getElem h3] at this
 exact this
theorem set_get0 (o:List Rat) (i:Nat) (v:Rat) (k:Nat) (h:i<o.length):(o.set i v).getD k 0=if i=k then v else o.getD k 0:=by
 rw [List.getD_eq_getElem?_getD,List.getD_eq_getElem?_getD,List.getElem?_set]
 split
 ·rename_i e;subst e;first | rw [if_pos h];rfl | rfl
 ·rfl
theorem getD_rl {o:List Rat} {S:Nat} (h1:1≤S) (h:∀ x∈o,rl x≤S) (k:Nat):rl (o.getD k 0)≤S:=by
 rcases Nat.lt_or_ge k o.length with hk | hk
 ·exact h _ (getD_mem hk)
 ·rw [List.getD_eq_getElem?_getD,List.getElem?_eq_none hk];show rl 0≤S;rw [show rl 0=1 from rfl];exact h1
theorem set_rl {o:List Rat} {S:Nat} {i:Nat} {v:Rat} (h:∀ x∈o,rl x≤S) (hv:rl v≤S):∀ x∈o.set i v,rl x≤S:=fun x hx=>by
 rcases List.mem_or_eq_of_mem_set hx with h1 | h1
 ·exact h x h1
 ·rw [h1];exact hv
theorem add64N {a b:Nat} (h:a+b≤9223372036854775807):binI .add .i64 (a:Nat) (b:Nat)=some (.int .i64 ((a+b:Nat):Int)):=by
 rw [add64 (by omega) (by omega)];congr 2
theorem add1N {a:Nat} (h:a+1≤9223372036854775807):binI .add .i64 (a:Nat) 1=some (.int .i64 ((a+1:Nat):Int)):=by
 rw [add64 (by omega) (by omega)];congr 2
theorem set_get_self {o:List Rat} {i:Nat} {v:Rat} (h:i<o.length):(o.set i v).getD i 0=v:=by rw [set_getD _ _ _ _ h,if_pos rfl]
def rowM (x:Rat) (i:Nat) (y:List Rat) (q:List Rat) (o:List Rat):Nat→List Rat
 | 0=>o
 | j+1=>(rowM x i y q o j).set (i+j) ((rowM x i y q o j).getD (i+j) 0+x*(y.getD j 0*q.getD j 0))
def allM (p q:List Rat):Nat→List Rat
 | 0=>List.replicate (p.length-1+(q.length-1)+1) 0
 | i+1=>rowM ((chR (p.length-1)).getD i 0*p.getD i 0) i (chR (q.length-1)) q (allM p q i) q.length
def mulP (p q:List Rat):List Rat:=(List.range (p.length-1+(q.length-1)+1)).map fun k=>(allM p q p.length).getD k 0/(chR (p.length-1+(q.length-1))).getD k 0
theorem mulP_len (p q:List Rat):(mulP p q).length=p.length-1+(q.length-1)+1:=by simp [mulP]
theorem rowM_rl {x:Rat} {i R S:Nat} {y q o:List Rat} (hS:1≤S) (ho:∀ v∈o,rl v≤S) (hx:rl x≤R+2) (hy:∀ v∈y,rl v≤2) (hq:∀ v∈q,rl v≤R) (hR:1≤R):∀ j,∀ v∈rowM x i y q o j,rl v≤S+j*(2*R+5)
 | 0,v,hv=>by have:=ho v hv;omega
 | j+1,v,hv=>by
   have ih:=rowM_rl (i:=i) hS ho hx hy hq hR j
   refine set_rl (S:=S+(j+1)*(2*R+5)) (fun w hw=>?_) ?_ v hv
   ·have:=ih w hw;rw [Nat.succ_mul];omega
   ·have h1:=getD_rl (by omega) ih (i+j)
    have h2:=getD_rl (by omega) hy j
    have h3:=getD_rl (by omega) hq j
    have e1:=rl_mul (y.getD j 0) (q.getD j 0)
    have e2:=rl_mul x (y.getD j 0*q.getD j 0)
    have e3:=rl_add ((rowM x i y q o j).getD (i+j) 0) (x*(y.getD j 0*q.getD j 0))
    rw [Nat.succ_mul];omega
theorem allM_rl {p q:List Rat} {R:Nat} (hpl:p.length≤41) (hql:q.length≤41) (hR:1≤R) (hp':∀ v∈p,rl v≤R) (hq':∀ v∈q,rl v≤R):∀ i,∀ v∈allM p q i,rl v≤1+i*(q.length*(2*R+5))
 | 0,v,hv=>by
   simp only [allM,List.mem_replicate] at hv
   rw [hv.2];show rl 0≤_;rw [show rl 0=1 from rfl];omega
 | i+1,v,hv=>by
   have ih:=allM_rl hpl hql hR hp' hq' i
   have hx:rl ((chR (p.length-1)).getD i 0*p.getD i 0)≤R+2:=by
    have h1:=getD_rl (by omega) (chR_rl (n:=p.length-1) (by omega)) i
    have h2:=getD_rl hR hp' i
    have:=rl_mul ((chR (p.length-1)).getD i 0) (p.getD i 0)
    omega
   have:=rowM_rl (by omega) ih hx (chR_rl (n:=q.length-1) (by omega)) hq' hR q.length v hv
   rw [Nat.succ_mul];omega
theorem repl_get (n x:Nat):(List.replicate n (0:Rat)).getD x 0=0:=by
 rw [List.getD_eq_getElem?_getD,List.getElem?_replicate];split<;>rfl
def difP (p:List Rat):List Rat:=if p.length<2 then [0] else(List.range (p.length-1)).map fun i=>(((p.length-1:Nat):Int):Rat)*(p.getD (i+1) 0-p.getD i 0)
theorem difP_len {p:List Rat}:(difP p).length=if p.length<2 then 1 else p.length-1:=by unfold difP;split<;>simp
theorem difP_get {p:List Rat} {i:Nat} (h:i+1<p.length):(difP p).getD i 0=(((p.length-1:Nat):Int):Rat)*(p.getD (i+1) 0-p.getD i 0):=by
 unfold difP
 rw [if_neg (by omega),List.getD_eq_getElem?_getD,List.getElem?_eq_getElem (by simp;omega)];simp
theorem difP_rl {p:List Rat} {R:Nat} (hR:1≤R) (hl:p.length≤1000) (h:∀ x∈p,rl x≤R):∀ x∈difP p,rl x≤2*R+4:=by
 intro x hx
 obtain⟨k,hk,rfl⟩:=mem_getD hx
 rw [difP_len] at hk
 by_cases h2:p.length<2
 ·rw [if_pos h2] at hk
  have:difP p=[0]:=by unfold difP;rw [if_pos h2]
  rw [this]
  obtain rfl:k=0:=by omega
  show rl 0≤_
  rw [show rl 0=1 from rfl];omega
 ·rw [if_neg h2] at hk
  rw [difP_get (by omega)]
  have h3:=rl_int (n:=((p.length-1:Nat):Int)) (by omega)
  have h4:=h _ (getD_mem (i:=k) (by omega))
  have h5:=h _ (getD_mem (i:=k+1) (by omega))
  have h6:=rl_sub (p.getD (k+1) 0) (p.getD k 0)
  have h7:=rl_mul (((p.length-1:Nat):Int):Rat) (p.getD (k+1) 0-p.getD k 0)
  omega
namespace H_c_Diff
theorem zSm {p q:Prop} (k:q) (e:p=q:=by simp only [e1,e2,e3,e4,p1,p2,p3,q1,q2,q3,l1,t0,t1,r1,r2,r3,r4,Nat.zero_add,Nat.reduceMul,Nat.reduceAdd,b1,b2,b3,b4,b5,b6,i1,i2,i3,i4,i5,i6,Nat.reduceBEq,dfq,List.length_set,kills_map ratE,ratL_kill,spL_kill,LV.kill,kills];exact rfl):p:=e.mpr k
end H_c_Diff
open H_c_Diff in
theorem c_Diff (p:List Rat) (hl:p.length≤1000) (hpr:∀ x∈p,rl x≤1073741824):CallP Tryz.prog 228 [.list 3 (p.map ratL)] (.list 3 ((difP p).map ratL)):=by
 refine fnP Tryz.func228 ?_
 refine zg13 ?_
 refine wl_if rfl (fun h8r h8=>?_) (fun h8r h8=>?_)
 ·have hE:difP p=[0]:=by unfold difP;rw [if_pos (by omega)]
  refine zg2 ?_
  refine st_pure rfl (.build0 SL32 Z32a) ?_
  refine zg6 ?_
  rw [hE]
  exact ret1f [10] rfl rfl (imm_refm ratE rfl rfl rfl)
 ·have hdl:(difP p).length=p.length-1:=by rw [difP_len,if_neg (by omega)]
  refine zg6 ?_
  refine st_pure rfl (.bin rfl rfl (sub1N (by omega) (by omega))) ?_
  refine cp am1 (c_RInt ((p.length-1:Nat):Int) (by omega) (by omega)) ?_
  refine zg8 ?_
  refine st_pure rfl (.bin rfl rfl (sub1N (by omega) (by omega))) ?_
  refine st_alloc rfl rfl (.mkE (n:=(p.length-1)) (m:=(p.length-1)) ml ml om om om) ?_
  refine zg12 ?_
  refine lp2 (fun(i:Nat) (w:List Rat) L=>(((((((St.mk L.slot (hp [(3,⟨3,[ratL (((p.length-1:Nat):Int):Rat)],true⟩),(18,⟨3,w.map ratL,true⟩)])).put (some 0) (.list 3 (p.map ratL))).put (some 3) (.eptr 3 3 0 0)).put (some 4) (.ref 18 3 0 (p.length-1))).put (some 19) (.ref 18 3 0 (p.length-1))).put (some 20) (nI64 (p.length-1))).put (some 21) (nI64 i))) (fun i w=>i≤p.length-1∧w.length=p.length-1∧w.take i=(difP p).take i) (fun i w=>p.length-1-i) 0 (List.replicate (p.length-1) 0) ⟨Nat.zero_le _,by simp,rfl⟩ ?_
  rintro i w L1 ⟨hi,hwl,hwt⟩
  refine zg6 ?_
  refine wl_if rfl (fun h22r h22=>?_) (fun h22r h22=>?_)
  ·have hi2:i<p.length-1:=by omega
   have hr1:=hpr _ (getD_mem (i:=i) (by omega))
   have hr2:=hpr _ (getD_mem (i:=i+1) (by omega))
   have hr3:=rl_sub (p.getD (i+1) 0) (p.getD i 0)
   have hr4:=rl_int (n:=((p.length-1:Nat):Int)) (by omega)
   refine zg10 ?_
   refine wl_regD 15 (by decide +kernel) ?_
   refine zg5 ?_
   refine st_pure rfl (.bin rfl rfl (add1N (by omega))) ?_
   refine zg6 ?_
   refine cp am2 (c_RSub (p.getD (i+1) 0) (p.getD i 0) (by omega)) ?_
   refine cp am2 (c_RMul (((p.length-1:Nat):Int):Rat) (p.getD (i+1) 0-p.getD i 0) (by omega)) ?_
   refine zg10 ?_
   exact nx2 (i+1) (w.set i ((((p.length-1:Nat):Int):Rat)*(p.getD (i+1) 0-p.getD i 0))) ⟨by omega,by simp [hwl],set_takeR (by omega) (by omega) hwt (difP_get (by omega)).symm⟩
  ·obtain rfl:i=p.length-1:=by omega
   have hE:w=difP p:=by
    rw [List.take_of_length_le (by omega),List.take_of_length_le (by omega)] at hwt
    exact hwt
   subst hE
   refine zg12 ?_
   exact ret1f [18] rfl rfl (imm_refm ratE rfl rfl hdl.symm)
end Go.Proofs.YthpfpgfehmhpdaaGreat
namespace Go.Lg
theorem Weak.imm {L:St} {t:Nat} {x y:LV} (bs:List Nat) (h0:bs.contains 0=false) (h:L.slot t=x) (hi:Imm (L.frz bs).heap x y):Weak L ((L.frz bs).put (some t) y):=by
 rintro n W X Z0 a w ⟨hdf,hsz,μ,Z,hc,hr⟩
 obtain⟨Z1,k1,k2⟩:=hc.widen (frz_le bs h0)
 refine⟨hdf,hsz,μ,Z1,by rw [put_heap];exact k1,fun s=>?_⟩
 have hfr:Frame Z μ w w:=⟨fun _ _=>rfl,fun _ id _ c _ _ hh=>⟨c,hh,rfl⟩⟩
 have hs:=(hr s).mono k2 (fun _ _ h=>h) hfr
 rw [put_slot]
 split
 ·rename_i hst
  subst hst
  rw [h] at hs
  exact RepV.of1 (LV.pure_ne_tup hi.lay.2.2) (hi.soundV k1 hs)
 ·exact hs
end Go.Lg
namespace Go.Proofs.YthpfpgfehmhpdaaGreat
open Go.Lg
theorem quo64 {a b:Int} (h:b≠0) (h1:-9223372036854775808≤a.tdiv b) (h2:a.tdiv b≤9223372036854775807):binI .quo .i64 a b=some (.int .i64 (a.tdiv b)):=by
 simp only [binI];rw [if_neg h,IntWalk.i64_in _ ⟨h1,h2⟩]
def fE (a b:Rat):Nat→(Nat→Rat)→Rat
 | 0,f=>f 0
 | n+1,f=>fE a b n (fun i=>a*f i+b*f (i+1))
theorem fE_congr (a b:Rat):∀ (n:Nat) (f g:Nat→Rat),(∀ i,i≤n→f i=g i)→fE a b n f=fE a b n g
 | 0,f,g,h=>h 0 (Nat.le_refl _)
 | n+1,f,g,h=>fE_congr a b n _ _ fun i hi=>by rw [h i (by omega),h (i+1) (by omega)]
theorem lo_fE (t:Rat):∀ (k:Nat) (q:List Rat),k<q.length→(loF t q.length q).getD k 0=fE (1-t) t k (fun i=>q.getD i 0)
 | 0,q,h=>by
  obtain⟨m,hm⟩:∃ m,q.length=m+1:=⟨q.length-1,by omega⟩
  rw [hm];rfl
 | k+1,q,h=>by
  obtain⟨m,hm⟩:∃ m,q.length=m+1:=⟨q.length-1,by omega⟩
  have hs:(stp t q).length=m:=by rw [stp_len];omega
  have:=lo_fE t k (stp t q) (by omega)
  rw [hs] at this
  rw [hm,loF,List.getD_cons_succ,this,fE]
  exact fE_congr _ _ _ _ _ fun i hi=>stp_get t q i (by omega)
theorem ev_fE {p:List Rat} {t:Rat} (h:0<p.length):evP p t=fE (1-t) t (p.length-1) (fun i=>p.getD i 0):=lo_fE t _ p (by omega)
theorem lo_sz {t:Rat} {C M:Nat} (hC:rl (1-t)+rl t+1≤C):∀ (k:Nat) (q:List Rat),q.length=k→(∀ x∈q,(rl x+C)*2 ^ k≤M)→∀ x∈loF t k q,rl x+C≤M
 | 0,q,_,_,x,hx=>by cases hx
 | k+1,q,hq,h,x,hx=>by
  rw [loF,List.mem_cons] at hx
  rcases hx with rfl | hx
  ·exact sz_rl (h _ (getD_mem (by omega)))
  ·exact lo_sz hC k (stp t q) (by rw [stp_len];omega) (stp_sz hC h) x hx
theorem hi_sz {t:Rat} {C M:Nat} (hC:rl (1-t)+rl t+1≤C):∀ (k:Nat) (q tl:List Rat),q.length=k→(∀ x∈q,(rl x+C)*2 ^ k≤M)→(∀ x∈tl,rl x+C≤M)→∀ x∈hiF t k q tl,rl x+C≤M
 | 0,q,tl,hq,_,h2,x,hx=>by
  obtain rfl:q=[]:=List.eq_nil_of_length_eq_zero hq
  exact h2 x hx
 | k+1,q,tl,hq,h,h2,x,hx=>by
  refine hi_sz hC k (stp t q) _ (by rw [stp_len];omega) (stp_sz hC h) (fun y hy=>?_) x hx
  rcases List.mem_cons.1 hy with rfl | hy
  ·exact sz_rl (h _ (getD_mem (by omega)))
  ·exact h2 y hy
theorem HS.lo {p:List Rat} {t:Rat} (h:HS p t):∀ x∈loP p t,Go.Lg.rl x≤1073741824:=fun x hx=>by
 obtain⟨cc,h1,h2,h3⟩:=h
 have:=lo_sz h1 p.length p rfl h3 x hx
 omega
theorem HS.hi {p:List Rat} {t:Rat} (h:HS p t):∀ x∈hiP p t,Go.Lg.rl x≤1073741824:=fun x hx=>by
 obtain⟨cc,h1,h2,h3⟩:=h
 have:=hi_sz h1 p.length p [] rfl h3 (fun y hy=>by cases hy) x hx
 omega
theorem HS.ev {p:List Rat} {t:Rat} (h:HS p t):Go.Lg.rl (evP p t)≤1073741824:=getD_rl (by decide) h.lo _
def mnR (a b:Rat):Rat:=if b<a then b else a
def mxR (a b:Rat):Rat:=if a<b then b else a
def hulP (s:Rat × Rat) (t:Rat × Rat):Rat × Rat:=(mnR s.1 t.1,mxR s.2 t.2)
def bkP (p:List Rat):Nat→Rat × Rat
 | 0=>(0,0)
 | k+1=>hulP (if k=0 then(p.getD k 0,p.getD k 0) else bkP p k) (p.getD k 0,p.getD k 0)
def bndP (p:List Rat):Rat × Rat:=bkP p p.length
theorem mn_self (a:Rat):mnR a a=a:=by unfold mnR;split<;>rfl
theorem mx_self (a:Rat):mxR a a=a:=by unfold mxR;split<;>rfl
theorem mn_le (a b:Rat):mnR a b≤a∧mnR a b≤b∧(mnR a b=a∨mnR a b=b):=by unfold mnR;split<;>grind
theorem mx_ge (a b:Rat):a≤mxR a b∧b≤mxR a b∧(mxR a b=a∨mxR a b=b):=by unfold mxR;split<;>grind
theorem bk_spec (p:List Rat):∀ k,(∀ i,i<k→(bkP p k).1≤p.getD i 0∧p.getD i 0≤(bkP p k).2)∧(0<k→(∃ i,i<k∧(bkP p k).1=p.getD i 0)∧∃ i,i<k∧(bkP p k).2=p.getD i 0)
 | 0=>⟨fun i h=>by omega,fun h=>by omega⟩
 | k+1=>by
  obtain⟨h1,h2⟩:=bk_spec p k
  rw [bkP]
  by_cases hk:k=0
  ·subst hk
   rw [if_pos rfl]
   simp only [hulP,mn_self,mx_self]
   refine⟨fun i hi=>?_,fun _=>⟨⟨0,by omega,rfl⟩,⟨0,by omega,rfl⟩⟩⟩
   obtain rfl:i=0:=by omega
   exact⟨Rat.le_refl,Rat.le_refl⟩
  ·rw [if_neg hk]
   obtain⟨⟨i,hi,ei⟩,⟨j,hj,ej⟩⟩:=h2 (by omega)
   have a:=mn_le (bkP p k).1 (p.getD k 0)
   have b:=mx_ge (bkP p k).2 (p.getD k 0)
   simp only [hulP]
   refine⟨fun x hx=>?_,fun _=>⟨?_,?_⟩⟩
   ·by_cases hxk:x=k
    ·subst hxk;exact⟨a.2.1,b.2.1⟩
    ·have:=h1 x (by omega)
     exact⟨Rat.le_trans a.1 this.1,Rat.le_trans this.2 b.1⟩
   ·rcases a.2.2 with e | e
    ·exact⟨i,by omega,by rw [e,ei]⟩
    ·exact⟨k,by omega,e⟩
   ·rcases b.2.2 with e | e
    ·exact⟨j,by omega,by rw [e,ej]⟩
    ·exact⟨k,by omega,e⟩
theorem bk_rl {p:List Rat} {R:Nat} (hR:1≤R) (h:∀ k,rl (p.getD k 0)≤R):∀ k,rl (bkP p k).1≤R∧rl (bkP p k).2≤R
 | 0=>⟨hR,hR⟩
 | k+1=>by
  obtain⟨⟨i,_,ei⟩,⟨j,_,ej⟩⟩:=(bk_spec p (k+1)).2 (by omega)
  rw [ei,ej]
  exact⟨h i,h j⟩
theorem getD_rl' {p:List Rat} {R:Nat} (hR:1≤R) (h:∀ x∈p,rl x≤R) (k:Nat):rl (p.getD k 0)≤R:=getD_rl hR h k
theorem cmpR_le {a b:Rat}:cmpR a b≤0↔a≤b:=by
 unfold cmpR;split
 ·rename_i h;exact⟨fun _=>Rat.le_of_lt h,fun _=>by decide⟩
 ·split
  ·rename_i h;exact⟨fun e=>absurd e (by decide),fun e=>absurd h (Rat.not_lt.2 e)⟩
  ·rename_i h;exact⟨fun _=>Rat.not_lt.1 h,fun _=>by decide⟩
def hasR (s:Rat × Rat) (x:Rat):Bool:=decide (s.1≤x) && decide (x≤s.2)
theorem has1 {s:Rat × Rat} {x:Rat} (h:decide (cmpR s.1 x≤0)=true):decide (cmpR x s.2≤0)=hasR s x:=by
 unfold hasR
 rw [decide_eq_true (cmpR_le.1 (of_decide_eq_true h)),Bool.true_and,decide_eq_decide,cmpR_le]
theorem has2 {s:Rat × Rat} {x:Rat} (h:decide (cmpR s.1 x≤0)=false):false=hasR s x:=by
 unfold hasR
 rw [decide_eq_false (fun e=>of_decide_eq_false h (cmpR_le.2 e)),Bool.false_and]
def ptD (n:Int):Int:=1+(n.tdiv 17) % 12
def ptV (n:Int):Rat:=((n % (ptD n+1):Int):Rat)/((ptD n:Int):Rat)
theorem ptD_bd (n:Int):1≤ptD n∧ptD n≤12:=by
 unfold ptD
 have h1:=Int.emod_nonneg (n.tdiv 17) (show (12:Int)≠0 by decide)
 have h2:=Int.emod_lt_of_pos (n.tdiv 17) (show (0:Int)<12 by decide)
 omega
theorem frac_ge {a b:Int} (ha:0≤a) (hb:0<b):(0:Rat)≤(a:Rat)/(b:Rat):=by
 rw [Rat.div_def]
 exact Rat.mul_nonneg (Rat.intCast_nonneg.2 ha) (Rat.le_of_lt (Rat.inv_pos.2 (Rat.intCast_pos.2 hb)))
theorem frac_one {a b c:Int} (hc:0<c) (h:a+b=c):(a:Rat)/(c:Rat)+(b:Rat)/(c:Rat)=1:=by
 have h1:(c:Rat)≠0:=fun e=>by have:=Rat.intCast_eq_zero_iff.1 e;omega
 rw [Rat.div_def,Rat.div_def,←Rat.add_mul,←Rat.intCast_add,h,Rat.mul_inv_cancel _ h1]
theorem ptV_in (n:Int):0≤ptV n∧ptV n≤1:=by
 have hd:=ptD_bd n
 have h1:=Int.emod_nonneg n (show ptD n+1≠0 by omega)
 have h2:=Int.emod_lt_of_pos n (show (0:Int)<ptD n+1 by omega)
 have h3:=frac_ge (a:=n % (ptD n+1)) (b:=ptD n) h1 (by omega)
 have h4:=frac_ge (a:=ptD n-n % (ptD n+1)) (b:=ptD n) (by omega) (by omega)
 have h5:=frac_one (a:=n % (ptD n+1)) (b:=ptD n-n % (ptD n+1)) (c:=ptD n) (by omega) (by omega)
 unfold ptV
 exact⟨h3,by grind⟩
theorem ptV_rl (n:Int):rl (ptV n)≤1:=by
 have hd:=ptD_bd n
 have h1:=Int.emod_nonneg n (show ptD n+1≠0 by omega)
 have h2:=Int.emod_lt_of_pos n (show (0:Int)<ptD n+1 by omega)
 exact rl_ints (by omega) (by omega)
theorem bnd_rl {p:List Rat} {R:Nat} (hR:1≤R) (h:∀ x∈p,rl x≤R):rl (bndP p).1≤R∧rl (bndP p).2≤R:=bk_rl hR (getD_rl' hR h) p.length
open H0 in
theorem c_SOf (a b:Rat) (h:rl a+rl b≤549755813888):CallP Tryz.prog 76 [ratL a,ratL b] (spL (mnR a b,mxR a b)):=by
 refine fnP Tryz.func76 ?_
 refine zg8 ?_
 refine wl_regD 7 (by decide +kernel) ?_
 refine zg2 ?_
 refine cp am2 (c_RMin _ _ (by omega)) ?_
 refine zg2 ?_
 refine cp am2 (c_RMax _ _ (by omega)) ?_
 refine zg5 ?_
 exact retC [] rfl rfl rfl (spE.csize _) (spL_all _) T50 (.pure (spE.pure _))
namespace H_c_SPoint
theorem zSm {p q:Prop} (k:q) (e:p=q:=by simp only [e1,e2,e3,e4,p1,p2,p3,q1,q2,q3,l1,t0,t1,r1,r2,r3,r4,Nat.zero_add,Nat.reduceMul,Nat.reduceAdd,b1,b2,b3,b4,b5,b6,i1,i2,i3,i4,i5,i6,Nat.reduceBEq,mn_self,mx_self];exact rfl):p:=e.mpr k
end H_c_SPoint
open H_c_SPoint in
theorem c_SPoint (a:Rat) (h:rl a+rl a≤549755813888):CallP Tryz.prog 156 [ratL a] (spL (a,a)):=by
 refine fnP Tryz.func156 ?_
 refine zg10 ?_
 refine cp am2 (c_SOf _ _ (by omega)) ?_
 refine zg4 ?_
 exact retC [] rfl rfl rfl (spE.csize _) (spL_all _) T50 (.pure (spE.pure _))
open H0 in
theorem c_SHull (s t:Rat × Rat) (h1:rl s.1+rl t.1≤549755813888) (h2:rl s.2+rl t.2≤549755813888):CallP Tryz.prog 157 [spL s,spL t] (spL (hulP s t)):=by
 refine fnP Tryz.func157 ?_
 refine zg8 ?_
 refine wl_regD 11 (by decide +kernel) ?_
 refine zg4 ?_
 refine cp am2 (c_RMin _ _ (by omega)) ?_
 refine zg4 ?_
 refine cp am2 (c_RMax _ _ (by omega)) ?_
 refine zg5 ?_
 exact retC [] rfl rfl rfl (spE.csize _) (spL_all _) T50 (.pure (spE.pure _))
open H0 in
theorem c_FHas (s:Rat × Rat) (x:Rat) (h1:rl s.1+rl x≤34359738368) (h2:rl x+rl s.2≤34359738368):CallP Tryz.prog 14 [spL s,ratL x] (bL (hasR s x)):=by
 refine fnP Tryz.func14 ?_
 refine zg12 ?_
 refine cp am2 (c_FRCmp _ _ (by omega)) ?_
 refine zg2 ?_
 refine op_if 10 rfl (fun h10r h10=>?_) (fun h10r h10=>?_)
 ·refine zg3 ?_
  refine cp am2 (c_FRCmp _ _ (by omega)) ?_
  refine zg6 ?_
  rw [←has1 h10r]
  exact ret1 rfl (by first | exact .pure rfl | exact .pure (limL_pure _) | exact .pure (magL_pure _) | exact .pure (ratE.pure _) | exact .pure (pure_lst u32E _ _) | exact .pure (pure_lst ratE _ _))
 ·refine zg10 ?_
  rw [←has2 h10r]
  exact ret1 rfl (by first | exact .pure rfl | exact .pure (limL_pure _) | exact .pure (magL_pure _) | exact .pure (ratE.pure _) | exact .pure (pure_lst u32E _ _) | exact .pure (pure_lst ratE _ _))
open H0 in
theorem c_MPart (n:Int) (hn:-9223372036854775808≤n∧n≤9223372036854775807):CallP Tryz.prog 19 [iL n] (ratL (ptV n)):=by
 have hd:=ptD_bd n
 have hq:(n.tdiv 17).natAbs=n.natAbs/17:=Int.natAbs_tdiv _ _
 have hpd:ptD n=1+(n.tdiv 17) % 12:=rfl
 have h1:=Int.emod_nonneg n (show ptD n+1≠0 by omega)
 have h2:=Int.emod_lt_of_pos n (show (0:Int)<ptD n+1 by omega)
 refine fnP Tryz.func19 ?_
 refine zg8 ?_
 refine st_pure rfl (.bin rfl rfl (quo64 (a:=n) (b:=17) (by decide) (by omega) (by omega))) ?_
 refine cp am2 (c_Mod (n.tdiv 17) 12 (by decide) (by decide)) ?_
 refine st_pure rfl (.bin rfl rfl (add64 (by omega) (by omega))) ?_
 refine zg7 ?_
 refine st_pure rfl (.bin rfl rfl (add64 (a:=ptD n) (by omega) (by omega))) ?_
 refine cp am2 (c_Mod n (ptD n+1) (by omega) (by omega)) ?_
 refine zg1 ?_
 refine cp am2 (c_FFrac (n % (ptD n+1)) (ptD n) (by omega) (by omega) (by omega) (by omega) (by omega)) ?_
 refine zg4 ?_
 exact retC [] rfl rfl rfl (ratE.csize _) (ratL_all _) T32 (.pure (ratE.pure _))
def v3a (p q:V3):V3:=⟨p.x+q.x,p.y+q.y,p.z+q.z⟩
def v3s (p q:V3):V3:=⟨p.x-q.x,p.y-q.y,p.z-q.z⟩
def v3m (r:Rat) (p:V3):V3:=⟨r*p.x,r*p.y,r*p.z⟩
def v3d (p q:V3):Rat:=0+p.x*q.x+p.y*q.y+p.z*q.z
def bd3 (R:Nat) (p:V3):Prop:=rl p.x≤R∧rl p.y≤R∧rl p.z≤R
theorem bd3.le {R S:Nat} {p:V3} (h:bd3 R p) (hRS:R≤S):bd3 S p:=⟨Nat.le_trans h.1 hRS,Nat.le_trans h.2.1 hRS,Nat.le_trans h.2.2 hRS⟩
def sgR (a b p:V3):Rat :=
 if v3d (v3s p a) (v3s b a)≤0 then v3d (v3s p a) (v3s p a)
 else if v3d (v3s b a) (v3s b a)≤v3d (v3s p a) (v3s b a) then v3d (v3s p b) (v3s p b)
 else v3d (v3s p (v3a a (v3m (v3d (v3s p a) (v3s b a)/v3d (v3s b a) (v3s b a)) (v3s b a)))) (v3s p (v3a a (v3m (v3d (v3s p a) (v3s b a)/v3d (v3s b a) (v3s b a)) (v3s b a))))
def okP (R:Nat) (q:PoR):Prop:=bd3 R q.p∧rl q.w≤R∧0<q.w
theorem ptL_kill (q:V3) (b:Nat):(ptL q).kill b=ptL q:=LV.kill_pure b _ (ptE.pure q)
theorem poL_kill (q:PoR) (b:Nat):(poL q).kill b=poL q:=LV.kill_pure b _ (poE.pure q)
namespace H_c_each
theorem zSm {p q:Prop} (k:q) (e:p=q:=by simp only [e1,e2,e3,e4,p1,p2,p3,q1,q2,q3,l1,t0,t1,r1,r2,r3,r4,Nat.zero_add,Nat.reduceMul,Nat.reduceAdd,b1,b2,b3,b4,b5,b6,i1,i2,i3,i4,i5,i6,Nat.reduceBEq,frz_nil];exact rfl):p:=e.mpr k
end H_c_each
open H_c_each in
theorem c_each (f:Nat) (g:Rat→Rat→Rat) (p q:V3) (h1:CallP Tryz.prog f [ratL p.x,ratL q.x] (ratL (g p.x q.x))) (h2:CallP Tryz.prog f [ratL p.y,ratL q.y] (ratL (g p.y q.y))) (h3:CallP Tryz.prog f [ratL p.z,ratL q.z] (ratL (g p.z q.z))):CallP Tryz.prog 260 [ptL p,ptL q,.clo f []] (ptL ⟨g p.x q.x,g p.y q.y,g p.z q.z⟩):=by
 refine fnP Tryz.func260 (ht:=(fun r=>LV.ren_pure r _ (ptE.pure _))) ?_
 refine zg19 ?_
 refine wl_unroll ?_
 refine zg6 ?_
 refine wl_condX (b:=_) rfl (by decide) ?_
 refine zg10 ?_
 refine wl_regD 10 (by decide +kernel) ?_
 refine zg8 ?_
 refine st_opc [] rfl rfl (.clo (f:=f) (cap:=[]) (args:=[ratL p.x,ratL q.x]) rfl (.cons im0 (.cons im0 .nil)) ⟨rfl,fun _ h=>by cases h⟩ h1.1 (by decide) (fun _ h=>by cases h)) (h1.2 _) ?_
 refine zg10 ?_
 refine wl_unroll ?_
 refine zg6 ?_
 refine wl_condX (b:=_) rfl (by decide) ?_
 refine zg10 ?_
 refine wl_regD 10 (by decide +kernel) ?_
 refine zg8 ?_
 refine st_opc [] rfl rfl (.clo (f:=f) (cap:=[]) (args:=[ratL p.y,ratL q.y]) rfl (.cons im0 (.cons im0 .nil)) ⟨rfl,fun _ h=>by cases h⟩ h2.1 (by decide) (fun _ h=>by cases h)) (h2.2 _) ?_
 refine zg10 ?_
 refine wl_unroll ?_
 refine zg6 ?_
 refine wl_condX (b:=_) rfl (by decide) ?_
 refine zg10 ?_
 refine wl_regD 10 (by decide +kernel) ?_
 refine zg8 ?_
 refine st_opc [] rfl rfl (.clo (f:=f) (cap:=[]) (args:=[ratL p.z,ratL q.z]) rfl (.cons im0 (.cons im0 .nil)) ⟨rfl,fun _ h=>by cases h⟩ h3.1 (by decide) (fun _ h=>by cases h)) (h3.2 _) ?_
 refine zg10 ?_
 refine wl_unroll ?_
 refine zg6 ?_
 refine wl_condY (b:=_) rfl (by decide) ?_
 refine zg12 ?_
 exact retC [] rfl rfl rfl cs (at_all cs rfl) T56 (.pure pu)
open H0 in
theorem c_VAdd (p q:V3) (R:Nat) (hR:R≤100000000000) (hp:bd3 R p) (hq:bd3 R q):CallP Tryz.prog 222 [ptL p,ptL q] (ptL (v3a p q)):=by
 obtain⟨a1,a2,a3⟩:=hp
 obtain⟨b1,b2,b3⟩:=hq
 refine fnP Tryz.func222 (ht:=(fun r=>LV.ren_pure r _ (ptE.pure _))) ?_
 refine zg11 ?_
 refine cp am3 (c_each 206 (·+·) p q (c_RAdd _ _ (by omega)) (c_RAdd _ _ (by omega)) (c_RAdd _ _ (by omega))) ?_
 refine zg4 ?_
 exact retC [] rfl rfl rfl cs (at_all cs rfl) T56 (.pure pu)
open H0 in
theorem c_FVAdd (p q:V3) (R:Nat) (hR:R≤1000000000) (hp:bd3 R p) (hq:bd3 R q):CallP Tryz.prog 63 [ptL p,ptL q] (ptL (v3a p q)):=by
 obtain⟨a1,a2,a3⟩:=hp
 obtain⟨b1,b2,b3⟩:=hq
 refine fnP Tryz.func63 (ht:=(fun r=>LV.ren_pure r _ (ptE.pure _))) ?_
 refine zg14 ?_
 refine wl_unroll ?_
 refine zg7 ?_
 refine wl_condX (b:=_) rfl (by decide) ?_
 refine zg4 ?_
 refine wl_regD 9 (by decide +kernel) ?_
 refine zg7 ?_
 refine cp am2 (c_FRAdd p.x q.x (by omega)) ?_
 refine zg11 ?_
 refine wl_unroll ?_
 refine zg7 ?_
 refine wl_condX (b:=_) rfl (by decide) ?_
 refine zg4 ?_
 refine wl_regD 9 (by decide +kernel) ?_
 refine zg7 ?_
 refine cp am2 (c_FRAdd p.y q.y (by omega)) ?_
 refine zg11 ?_
 refine wl_unroll ?_
 refine zg7 ?_
 refine wl_condX (b:=_) rfl (by decide) ?_
 refine zg4 ?_
 refine wl_regD 9 (by decide +kernel) ?_
 refine zg7 ?_
 refine cp am2 (c_FRAdd p.z q.z (by omega)) ?_
 refine zg11 ?_
 refine wl_unroll ?_
 refine zg7 ?_
 refine wl_condY (b:=_) rfl (by decide) ?_
 refine zg12 ?_
 exact retC [] rfl rfl rfl cs (at_all cs rfl) T56 (.pure pu)
theorem cmpR_ge {a b:Rat}:0≤cmpR a b↔b≤a:=by
 unfold cmpR
 constructor
 ·intro h
  split at h
  ·exact absurd h (by decide)
  ·grind
 ·intro h
  split
  ·exfalso;grind
  ·split<;>decide
end Go.Proofs.YthpfpgfehmhpdaaGreat
namespace Go.Lg
theorem callP_own {P:Program} {f:FuncId} {args:List LV} {sz n:Nat} {vals:List LV} {mt:Bool} (h:CallOK P f args (.ref 1 sz 0 n) [⟨sz,vals,mt⟩]) (hp:pures vals=true) (hn:vals.length=n):CallP P f args (.list sz vals):=by
 refine⟨⟨h.1,fun W Z0 vs hz hr=>Calls.mono (h.2 W Z0 vs hz hr) (fun e w'=>?_)⟩,fun g=>LV.ren_pure g _ (by simp [LV.pure,hp])⟩
 rintro⟨v,μ,Z,he,hc,hv⟩
 have hle:Heap.le (outHeap [⟨sz,vals,mt⟩]) (outHeap [⟨sz,vals,false⟩]):=fun b blk hb=>by
  unfold outHeap at hb ⊢
  by_cases h0:b=0
  ·rw [if_pos h0] at hb;cases hb
  ·rw [if_neg h0] at hb
   rcases Nat.lt_or_ge (b-1) 1 with h1 | h1
   ·have e:b-1=0:=by omega
    rw [e] at hb
    simp only [List.getElem?_cons_zero,Option.some.injEq] at hb
    subst hb
    exact⟨false,by rw [if_neg h0,e];rfl,fun _=>rfl,fun _ _=>h0⟩
   ·rw [List.getElem?_eq_none (by simpa using h1)] at hb;cases hb
 obtain⟨Z1,k1,k2⟩:=hc.widen hle
 have hfr:Frame Z μ w' w':=⟨fun _ _=>rfl,fun _ id _ c _ _ hh=>⟨c,hh,rfl⟩⟩
 have hv1:=hv.mono k2 (fun _ _ h=>h) hfr
 have hi:Imm (outHeap [⟨sz,vals,false⟩]) (.ref 1 sz 0 n) (.list sz vals):=by
  have:=Imm.ref (H:=outHeap [⟨sz,vals,false⟩]) (b:=1) (off:=0) (len:=n) (blk:=⟨sz,vals,false⟩) rfl rfl hp (by simp [hn]) rfl
  simpa [←hn] using this
 refine⟨v,drop1 μ 1,Z1,he,?_,RepV.of1 (fun l h=>by cases h) (hi.soundV k1 hv1)⟩
 have kk:=Core.kill (L:=⟨fun _=>.any,outHeap [⟨sz,vals,false⟩]⟩) 1 (by decide) k1
 refine kk.reheap fun b id hb=>?_
 have hb1:b≠1:=fun e=>by rw [e] at hb;simp [drop1] at hb
 have hb2:μ b=some id:=by unfold drop1 at hb;split at hb<;>first | exact hb | cases hb
 obtain⟨blk,g1,_⟩:=k1.heap b id hb2
 unfold outHeap at g1
 split at g1
 ·cases g1
 ·rw [List.getElem?_eq_none (by simp;omega)] at g1;cases g1
end Go.Lg
namespace Go.Proofs.YthpfpgfehmhpdaaGreat
open Go.Lg
theorem c_copiedP (p:List Rat) (hl:p.length≤1048576) (hpr:∀ x∈p,rl x≤274877906944):CallP Tryz.prog 310 [.list 3 (p.map ratL)] (.list 3 (p.map ratL)) :=
 callP_own (c_copiedO p hl hpr) (pures_map ratE _) (by simp)
def lifV (p:List Rat) (i:Nat):Rat:=(if 0<i then((i:Int):Rat)/((p.length:Int):Rat)*p.getD (i-1) 0 else 0)+(if i<p.length then(((p.length:Int)-(i:Int):Int):Rat)/((p.length:Int):Rat)*p.getD i 0 else 0)
def lifP (p:List Rat):List Rat:=(List.range (p.length+1)).map (lifV p)
def itL:Nat→List Rat→List Rat
 | 0,p=>p
 | k+1,p=>itL k (lifP p)
def upP (p:List Rat) (n:Nat):List Rat:=itL (n+1-p.length) p
theorem lifP_len (p:List Rat):(lifP p).length=p.length+1:=by simp [lifP]
theorem lifP_get {p:List Rat} {i:Nat} (h:i<p.length+1):(lifP p).getD i 0=lifV p i:=by
 rw [List.getD_eq_getElem?_getD,List.getElem?_eq_getElem (by rw [lifP_len];exact h)];simp [lifP]
theorem itL_len:∀ (k:Nat) (p:List Rat),(itL k p).length=p.length+k
 | 0,p=>rfl
 | k+1,p=>by rw [itL,itL_len k,lifP_len];omega
theorem upP_len {p:List Rat} {n:Nat} (h:p.length≤n+1):(upP p n).length=n+1:=by rw [upP,itL_len];omega
theorem lifV_tt {p:List Rat} {i:Nat} (h0:0<i) (h1:i<p.length):lifV p i=((i:Int):Rat)/((p.length:Int):Rat)*p.getD (i-1) 0+(((p.length:Int)-(i:Int):Int):Rat)/((p.length:Int):Rat)*p.getD i 0:=by
 rw [lifV,if_pos h0,if_pos h1]
theorem lifV_tf {p:List Rat} {i:Nat} (h0:0<i) (h1:¬ i<p.length):lifV p i=((i:Int):Rat)/((p.length:Int):Rat)*p.getD (i-1) 0:=by
 rw [lifV,if_pos h0,if_neg h1,Rat.add_zero]
theorem lifV_ft {p:List Rat} {i:Nat} (h0:¬ 0<i) (h1:i<p.length):lifV p i=(((p.length:Int)-(i:Int):Int):Rat)/((p.length:Int):Rat)*p.getD i 0:=by
 rw [lifV,if_neg h0,if_pos h1,Rat.zero_add]
def upS (p:List Rat) (n:Nat):Prop:=(∀ x∈p,rl x≤1073741824)∧∀ k,p.length+k≤n+1→∀ x∈itL k p,rl x≤1073741824
theorem upS_rl {p:List Rat} {n:Nat} (h:upS p n) (k:Nat):rl (p.getD k 0)≤1073741824:=getD_rl (by decide) h.1 k
theorem upS_step {p:List Rat} {n:Nat} (hl:p.length≤n) (h:upS p n):upS (lifP p) n:=⟨h.2 1 (by omega),fun k hk=>h.2 (k+1) (by rw [lifP_len] at hk;omega)⟩
theorem upP_self {p:List Rat} {n:Nat} (h:n+1≤p.length):upP p n=p:=by rw [upP,show n+1-p.length=0 by omega];rfl
theorem itL_step {p:List Rat} {n:Nat} (h:p.length≤n):itL (n+1-(lifP p).length) (lifP p)=itL (n+1-p.length) p:=by
 rw [show n+1-p.length=(n+1-(lifP p).length)+1 by rw [lifP_len];omega];rfl
def zipG (g:Rat→Rat→Rat) (a b:List Rat):List Rat:=(List.range a.length).map fun i=>g (a.getD i 0) (b.getD i 0)
theorem zipG_len (g:Rat→Rat→Rat) (a b:List Rat):(zipG g a b).length=a.length:=by simp [zipG]
namespace H_c_up
theorem zSm {p q:Prop} (k:q) (e:p=q:=by simp only [e1,e2,e3,e4,p1,p2,p3,q1,q2,q3,l1,t0,t1,r1,r2,r3,r4,Nat.zero_add,Nat.reduceMul,Nat.reduceAdd,b1,b2,b3,b4,b5,b6,i1,i2,i3,i4,i5,i6,Nat.reduceBEq,dfq,List.length_set,List.set_set,egs,egz,eim,Rat.zero_add,kills_map ratE,ratL_kill,LV.kill,kills];exact rfl):p:=e.mpr k
end H_c_up
open H_c_up in
theorem c_up (p:List Rat) (n:Nat) (hp0:0<p.length) (hn:n≤1000) (hl:p.length≤1001) (hs:upS p n):CallP Tryz.prog 307 [.list 3 (p.map ratL),nI64 n] (.list 3 ((upP p n).map ratL)):=by
 refine fnP Tryz.func307 ?_
 have egs:True:=trivial
 have egz:True:=trivial
 have eim:True:=trivial
 refine zg8 ?_
 refine cp am1 (c_copiedP p (by omega) (fun x hx=>by have:=upS_rl hs;have h9:=List.getElem_of_mem hx;obtain⟨k,hk,rfl⟩:=h9;have h8:=this k;rw [List.getD_eq_getElem?_getD,List.getElem?_eq_getElem hk] at h8;exact Nat.le_trans h8 (by decide))) ?_
 refine zg5 ?_
 refine lp1 (fun(o:List Rat) L=>(((St.mk L.slot (hp [])).put (some 1) (nI64 n)).put (some 5) (.list 3 (o.map ratL)))) (fun o=>0<o.length∧o.length≤1001∧upS o n∧itL (n+1-o.length) o=upP p n) (fun o=>n+1-o.length) p ⟨hp0,hl,hs,rfl⟩ ?_
 rintro o L1 ⟨ho0,hol,hos,hit⟩
 refine zg7 ?_
 refine op_if 18 rfl (fun h18r h18=>?_) (fun h18r h18=>?_)
 ·refine zg7 ?_
  refine wl_if rfl (fun h23r h23=>?_) (fun h23r h23=>?_)
  ·have hon:o.length≤n:=by omega
   refine zg13 ?_
   refine st_pure rfl (.bin rfl rfl (add1N (by omega))) ?_
   refine st_alloc rfl rfl (.mkE (n:=(o.length+1)) (m:=(o.length+1)) ml ml om om om) ?_
   refine zg12 ?_
   refine lp2 (fun(i:Nat) (w:List Rat) L=>((((((((St.mk L.slot (hp [(28,⟨3,w.map ratL,true⟩)])).put (some 1) (nI64 n)).put (some 5) (.list 3 (o.map ratL))).put (some 6) (nI64 o.length)).put (some 7) (.ref 28 3 0 (o.length+1))).put (some 29) (.ref 28 3 0 (o.length+1))).put (some 30) (nI64 (o.length+1))).put (some 31) (nI64 i))) (fun i w=>i≤o.length+1∧w.length=o.length+1∧w.take i=(lifP o).take i∧∀ x,i≤x→w.getD x 0=0) (fun i w=>o.length+1-i) 0 (List.replicate (o.length+1) 0) ⟨Nat.zero_le _,by simp,rfl,fun x _=>by simp [List.getD_eq_getElem?_getD,List.getElem?_replicate];split<;>rfl⟩ ?_
   rintro i w L2 ⟨hi,hwl,hwt,hz⟩
   refine zg6 ?_
   refine wl_if rfl (fun h32r h32=>?_) (fun h32r h32=>?_)
   ·have hi2:i<o.length+1:=by omega
    have hf1:=rl_ints (n:=(i:Int)) (d:=(o.length:Int)) (by omega) (by omega)
    have hf2:=rl_ints (n:=(o.length:Int)-(i:Int)) (d:=(o.length:Int)) (by omega) (by omega)
    have hr1:=upS_rl hos (i-1)
    have hr2:=upS_rl hos i
    have hm1:=rl_mul (((i:Int):Rat)/((o.length:Int):Rat)) (o.getD (i-1) 0)
    have hm2:=rl_mul ((((o.length:Int)-(i:Int):Int):Rat)/((o.length:Int):Rat)) (o.getD i 0)
    have egs:=fun v=>set_get_self (o:=w) (i:=i) (v:=v) (by omega)
    have egz:=hz i (Nat.le_refl _)
    have eim:((i:Int)-1).toNat=i-1:=by omega
    have hr0:rl 0=1:=rfl
    refine zg17 ?_
    refine wl_if rfl (fun h35r h35=>?_) (fun h35r h35=>?_)
    ·have hi0:0<i:=by omega
     refine zg4 ?_
     refine cp am2 (c_RMake (i:Int) (o.length:Int) (by omega) (by omega) (by omega) (by omega) (by omega)) ?_
     refine zg8 ?_
     refine wl_regD 10 (by decide +kernel) ?_
     refine zg8 ?_
     try simp only [t1,dfq,eim]
     refine cp am2 (c_RMul _ _ (by omega)) ?_
     refine zg12 ?_
     refine wl_if rfl (fun h55r h55=>?_) (fun h55r h55=>?_)
     ·have hi1:i<o.length:=by omega
      refine zg4 ?_
      refine st_pure rfl (.bin rfl rfl (sub64 (by omega) (by omega))) ?_
      refine zg1 ?_
      refine cp am2 (c_RMake ((o.length:Int)-(i:Int)) (o.length:Int) (by omega) (by omega) (by omega) (by omega) (by omega)) ?_
      refine zg8 ?_
      refine wl_regD 14 (by decide +kernel) ?_
      refine zg11 ?_
      try simp only [t1,dfq]
      refine cp am2 (c_RMul _ _ (by omega)) ?_
      try simp only [t1,dfq,Nat.zero_add,egs,egz]
      refine cp am2 (c_RAdd _ _ (by omega)) ?_
      refine zg5 ?_
      refine wl_regW ((Weak.kill _ 9).trans (Weak.kill _ 11)) ?_
      refine zg4 ?_
      exact nx2 (i+1) (w.set i (((i:Int):Rat)/((o.length:Int):Rat)*o.getD (i-1) 0+(((o.length:Int)-(i:Int):Int):Rat)/((o.length:Int):Rat)*o.getD i 0)) ⟨by omega,by simp [hwl],set_takeR (by rw [lifP_len];omega) (by rw [lifP_len];omega) hwt (by rw [lifP_get (by omega),lifV_tt hi0 hi1]),fun x hx=>by rw [set_getD _ _ _ _ (by omega),if_neg (by omega)];exact hz x (by omega)⟩
     ·have hi1:¬ i<o.length:=by omega
      refine zg3 ?_
      refine wl_regW ((Weak.kill _ 9).trans (Weak.kill _ 11)) ?_
      refine zg4 ?_
      exact nx2 (i+1) (w.set i (((i:Int):Rat)/((o.length:Int):Rat)*o.getD (i-1) 0)) ⟨by omega,by simp [hwl],set_takeR (by rw [lifP_len];omega) (by rw [lifP_len];omega) hwt (by rw [lifP_get (by omega),lifV_tf hi0 hi1]),fun x hx=>by rw [set_getD _ _ _ _ (by omega),if_neg (by omega)];exact hz x (by omega)⟩
    ·have hi0:¬ 0<i:=by omega
     refine zg10 ?_
     refine wl_if rfl (fun h55r h55=>?_) (fun h55r h55=>?_)
     ·have hi1:i<o.length:=by omega
      refine zg4 ?_
      refine st_pure rfl (.bin rfl rfl (sub64 (by omega) (by omega))) ?_
      refine zg1 ?_
      refine cp am2 (c_RMake ((o.length:Int)-(i:Int)) (o.length:Int) (by omega) (by omega) (by omega) (by omega) (by omega)) ?_
      refine zg8 ?_
      refine wl_regD 14 (by decide +kernel) ?_
      refine zg11 ?_
      try simp only [t1,dfq]
      refine cp am2 (c_RMul _ _ (by omega)) ?_
      try simp only [t1,dfq,Nat.zero_add,egs,egz]
      refine cp am2 (c_RAdd _ _ (by omega)) ?_
      refine zg5 ?_
      refine wl_regW ((Weak.kill _ 9).trans (Weak.kill _ 11)) ?_
      refine zg4 ?_
      exact nx2 (i+1) (w.set i ((((o.length:Int)-(i:Int):Int):Rat)/((o.length:Int):Rat)*o.getD i 0)) ⟨by omega,by simp [hwl],set_takeR (by rw [lifP_len];omega) (by rw [lifP_len];omega) hwt (by rw [lifP_get (by omega),lifV_ft hi0 hi1]),fun x hx=>by rw [set_getD _ _ _ _ (by omega),if_neg (by omega)];exact hz x (by omega)⟩
     ·have hi1:¬ i<o.length:=by omega
      refine zg3 ?_
      refine wl_regW ((Weak.kill _ 9).trans (Weak.kill _ 11)) ?_
      refine zg4 ?_
      exact nx2 (i+1) w (False.elim (by omega))
   ·obtain rfl:i=o.length+1:=by omega
    have hE:w=lifP o:=by
     rw [List.take_of_length_le (by omega),List.take_of_length_le (by rw [lifP_len];omega)] at hwt
     exact hwt
    subst hE
    refine zg5 ?_
    refine wl_regW ((Weak.imm (t:=7) [28] rfl rfl (imm_refm ratE rfl rfl (by rw [lifP_len]))).trans (Weak.kill _ 28)) ?_
    refine zg5 ?_
    exact nx1 (lifP o) ⟨by rw [lifP_len];omega,by rw [lifP_len];omega,upS_step (by omega) hos,by rw [itL_step (by omega)];exact hit⟩ (hm:=by rw [lifP_len];omega)
  ·refine zg12 ?_
   have hE:upP p n=o:=by rw [←hit,show n+1-o.length=0 by omega];rfl
   rw [hE]
   exact ret1 rfl (by first | exact .pure rfl | exact .pure (limL_pure _) | exact .pure (magL_pure _) | exact .pure (ratE.pure _) | exact .pure (pure_lst u32E _ _) | exact .pure (pure_lst ratE _ _))
 ·refine zg20 ?_
  have hE:upP p n=o:=by rw [←hit,show n+1-o.length=0 by omega];rfl
  rw [hE]
  exact ret1 rfl (by first | exact .pure rfl | exact .pure (limL_pure _) | exact .pure (magL_pure _) | exact .pure (ratE.pure _) | exact .pure (pure_lst u32E _ _) | exact .pure (pure_lst ratE _ _))
def cR (n k:Nat):Rat:=((chs n k:Nat):Int)
def sq (p:List Rat) (k:Nat):Rat:=cR (p.length-1) k*p.getD k 0
theorem sq_gt {p:List Rat} {k:Nat} (h:p.length≤k):sq p k=0:=by unfold sq;rw [ge_zero h,Rat.mul_zero]
def sm:Nat→(Nat→Rat)→Rat
 | 0,_=>0
 | n+1,f=>sm n f+f n
theorem sm_congr:∀ (n:Nat) (f g:Nat→Rat),(∀ i,i<n→f i=g i)→sm n f=sm n g
 | 0,_,_,_=>rfl
 | n+1,f,g,h=>by rw [sm,sm,sm_congr n f g (fun i hi=>h i (by omega)),h n (by omega)]
theorem sm_add:∀ (n:Nat) (f g:Nat→Rat),sm n (fun i=>f i+g i)=sm n f+sm n g
 | 0,_,_=>by show (0:Rat)=0+0;grind
 | n+1,f,g=>by rw [sm,sm,sm,sm_add n];grind
theorem sm_zero (n:Nat) (f:Nat→Rat) (h:∀ i,i<n→f i=0):sm n f=0:=by
 induction n with
 | zero=>rfl
 | succ n ih=>rw [sm,ih (fun i hi=>h i (by omega)),h n (by omega)];exact Rat.add_zero 0
theorem sm_ext (n:Nat) (f:Nat→Rat) (h:∀ i,n≤i→f i=0):∀ m,sm (n+m) f=sm n f
 | 0=>rfl
 | m+1=>by rw [←Nat.add_assoc,sm,sm_ext n f h m,h _ (by omega)];grind
def cf (f g:Nat→Rat) (k:Nat):Rat:=sm (k+1) fun i=>f i*g (k-i)
open H0 in
theorem c_Elev (p:List Rat) (n:Nat) (hp0:0<p.length) (hn:n≤40) (hpn:p.length≤n+1) (hps:upS p n):CallP Tryz.prog 304 [.list 3 (p.map ratL),nI64 n] (.tup [.list 3 ((upP p n).map ratL),iL 0]):=by
 refine fnP Tryz.func304 ?_
 refine zg12 ?_
 refine st_pure rfl (.bin rfl rfl (sub64 (by omega) (by omega))) ?_
 refine zg2 ?_
 refine op_if 11 rfl (fun h11r h11=>?_) (fun h11r h11=>?_)
 ·refine zg14 ?_
  exfalso
  omega
 ·refine zg5 ?_
  refine wl_if rfl (fun h14r h14=>?_) (fun h14r h14=>?_)
  ·omega
  ·refine zg6 ?_
   refine cp am2 (c_up p n hp0 (by omega) (by omega) hps) ?_
   refine zg5 ?_
   exact ret2 rfl (.pure (pure_lst ratE _ _)) rfl (.pure rfl)
end Go.Proofs.YthpfpgfehmhpdaaGreat
namespace Go.Lg
theorem Weak.cell {L:St} (b:Nat) {sz:Nat} {x y:LV} {mt:Bool} (hb:L.heap b=some ⟨sz,[x],mt⟩) (h:∀ Z μ w cs,Rep Z μ w x cs→Rep Z μ w y cs):Weak L (L.setB b (some ⟨sz,[y],mt⟩)):=by
 rintro n W X Z0 a w ⟨hdf,hsz,μ,Z,hc,hr⟩
 refine⟨hdf,hsz,μ,Z,?_,hr⟩
 have hs:∀ c,(L.setB b (some ⟨sz,[y],mt⟩)).heap c=if c=b then some ⟨sz,[y],mt⟩ else L.heap c:=fun c=>rfl
 refine⟨hc.keep,hc.zone,hc.zsup,hc.zsub,hc.inj,hc.own,hc.x0,hc.xlt,hc.x1,fun c id blk g1 g2=>?_,fun c id blk g1 g2=>?_,fun c id g1=>?_⟩
 ·rw [hs] at g2
  split at g2
  ·rename_i e;subst e;cases g2;exact hc.mutz c id ⟨sz,[x],mt⟩ g1 hb
  ·exact hc.mutz c id blk g1 g2
 ·rw [hs] at g2
  split at g2
  ·rename_i e;subst e;cases g2;exact hc.frz c id ⟨sz,[x],mt⟩ g1 hb
  ·exact hc.frz c id blk g1 g2
 ·obtain⟨blk,k1,k2⟩:=hc.heap c id g1
  rw [hs]
  by_cases e:c=b
  ·subst e
   rw [if_pos rfl]
   rw [hb] at k1
   cases k1
   refine⟨_,rfl,?_⟩
   obtain⟨cs,T,part,rest,e1,e2,e3⟩:=k2
   refine⟨cs,T,part,rest,e1,e2,?_⟩
   simp only [RepAll] at e3 ⊢
   obtain⟨c1,c2,q1,q2,q3,q4⟩:=e3
   exact⟨c1,c2,q1,q2,h _ _ _ _ q3,q4⟩
  ·rw [if_neg e];exact⟨blk,k1,k2⟩
theorem Weak.newB (L:St) (d sz:Nat) (hd:L.heap d=none):Weak L (L.setB d (some ⟨sz,[],true⟩)):=by
 rintro n W X Z0 a w ⟨hdf,hsz,μ,Z,hc,hr⟩
 refine⟨hdf,hsz,μ,Z,?_,hr⟩
 refine hc.reheap fun c id hcd=>?_
 have:c≠d:=by rintro rfl;rw [mu_none hc hd] at hcd;cases hcd
 simp [St.setB,this]
theorem rep_net (d sz:Nat) (x y:LV) (Z:Nat→Prop) (μ:Nat→Option Nat) (w:World) (cs:List Value) (h:Rep Z μ w (.agg [x,y,.v (.slice none 0 0)]) cs):Rep Z μ w (.agg [x,y,.ref d sz 0 0]) cs:=by
 simp only [Rep,RepFs] at h ⊢
 obtain⟨c1,c2,e1,e2,e3,c3,c4,e4,e5,e6,c5,c6,e7,e8,e9,e10⟩:=h
 exact⟨c1,c2,e1,e2,e3,c3,c4,e4,e5,e6,c5,c6,e7,e8,.inl ⟨e9.1,trivial⟩,e10⟩
end Go.Lg
namespace Go.Proofs.YthpfpgfehmhpdaaGreat
open Go.Lg
def _root_.Go.Lg.V3.at (p:V3):Nat→Rat
 | 0=>p.x
 | 1=>p.y
 | _=>p.z
def nmP (po:List PoR) (k:Nat):List Rat:=po.map fun q=>q.w*q.p.at k
def wtP (po:List PoR):List Rat:=po.map fun q=>q.w
theorem nmP_len (po:List PoR) (k:Nat):(nmP po k).length=po.length:=by simp [nmP]
theorem wtP_len (po:List PoR):(wtP po).length=po.length:=by simp [wtP]
theorem at_rl {R:Nat} {p:V3} (h:bd3 R p):∀ k,rl (p.at k)≤R
 | 0=>h.1
 | 1=>h.2.1
 | _+2=>h.2.2
theorem nmP_rl {R:Nat} {po:List PoR} (h:∀ q∈po,okP R q) (k:Nat):∀ x∈nmP po k,rl x≤2*R:=fun x hx=>by
 obtain⟨q,hq,rfl⟩:=List.mem_map.1 hx
 obtain⟨h1,h2,_⟩:=h q hq
 have h3:=at_rl h1 k
 have h4:=rl_mul q.w (q.p.at k)
 show rl (q.w*q.p.at k)≤_
 omega
theorem wtP_rl {R:Nat} {po:List PoR} (h:∀ q∈po,okP R q):∀ x∈wtP po,rl x≤R:=fun x hx=>by
 obtain⟨q,hq,rfl⟩:=List.mem_map.1 hx
 exact(h q hq).2.1
def trP (po:List PoR) (k:Nat):List Rat:=zipG (·-·) (mulP (difP (nmP po k)) (wtP po)) (mulP (nmP po k) (difP (wtP po)))
theorem mulP_rlK {p q:List Rat} {R:Nat} (h:p.length-1+(q.length-1)≤40) (hpl:p.length≤41) (hql:q.length≤41) (hR1:1≤R) (hR:R≤100) (hpR:∀ x∈p,rl x≤R) (hqR:∀ x∈q,rl x≤R):∀ x∈mulP p q,rl x≤344700:=fun x hx=>by
 obtain⟨k,hk,rfl⟩:=List.mem_map.1 hx
 have hS:=allM_rl hpl hql hR1 hpR hqR p.length
 have hbd:p.length*(q.length*(2*R+5))≤41*(41*205):=Nat.mul_le_mul hpl (Nat.mul_le_mul hql (by omega))
 have hg1:=getD_rl (by omega) hS k
 have hg2:=getD_rl (S:=2) (by decide) (chR_rl (n:=p.length-1+(q.length-1)) h) k
 have h3:=rl_div ((allM p q p.length).getD k 0) ((chR (p.length-1+(q.length-1))).getD k 0)
 omega
theorem zipK_rl {R:Nat} {p q:List Rat} {g:Rat→Rat→Rat} (hg:∀ a b,rl (g a b)≤rl a+rl b+1) (hR:1≤R) (hp:∀ x∈p,rl x≤R) (hq:∀ x∈q,rl x≤R):∀ x∈zipG g p q,rl x≤2*R+1:=fun x hx=>by
 obtain⟨i,_,rfl⟩:=List.mem_map.1 hx
 have h1:=getD_rl hR hp i
 have h2:=getD_rl hR hq i
 have h3:=hg (p.getD i 0) (q.getD i 0)
 omega
structure cvF (po:List PoR) (d:Nat):Prop where
 hl:po.length=d+1
 hd:1≤d
 h6:d≤6
 ok:∀ q∈po,okP 1 q
section
variable {po:List PoR} {d:Nat} (h:cvF po d)
theorem cvF.n (h:cvF po d) (k:Nat):(nmP po k).length=d+1∧∀ x∈nmP po k,rl x≤2:=⟨by rw [nmP_len,h.hl],nmP_rl h.ok k⟩
theorem cvF.w (h:cvF po d):(wtP po).length=d+1∧∀ x∈wtP po,rl x≤2:=⟨by rw [wtP_len,h.hl],fun x hx=>Nat.le_trans (wtP_rl h.ok x hx) (by decide)⟩
theorem cvF.dn (h:cvF po d) (k:Nat):(difP (nmP po k)).length=d∧∀ x∈difP (nmP po k),rl x≤8:=by
 obtain⟨h1,h2⟩:=h.n k
 have:=h.hd
 have:=h.h6
 exact⟨by rw [difP_len,h1,if_neg (by omega)];omega,difP_rl (by decide) (by omega) h2⟩
theorem cvF.dw (h:cvF po d):(difP (wtP po)).length=d∧∀ x∈difP (wtP po),rl x≤8:=by
 obtain⟨h1,h2⟩:=h.w
 have:=h.hd
 have:=h.h6
 exact⟨by rw [difP_len,h1,if_neg (by omega)];omega,difP_rl (by decide) (by omega) h2⟩
theorem cvF.m1 (h:cvF po d) (k:Nat):(mulP (difP (nmP po k)) (wtP po)).length=2*d-1+1∧∀ x∈mulP (difP (nmP po k)) (wtP po),rl x≤344700:=by
 obtain⟨h1,h2⟩:=h.dn k
 obtain⟨h3,h4⟩:=h.w
 have:=h.hd
 have:=h.h6
 exact⟨by rw [mulP_len,h1,h3];omega,mulP_rlK (R:=8) (by omega) (by omega) (by omega) (by decide) (by decide) h2 (fun x hx=>Nat.le_trans (h4 x hx) (by decide))⟩
theorem cvF.m2 (h:cvF po d) (k:Nat):(mulP (nmP po k) (difP (wtP po))).length=2*d-1+1∧∀ x∈mulP (nmP po k) (difP (wtP po)),rl x≤344700:=by
 obtain⟨h1,h2⟩:=h.n k
 obtain⟨h3,h4⟩:=h.dw
 have:=h.hd
 have:=h.h6
 exact⟨by rw [mulP_len,h1,h3];omega,mulP_rlK (R:=8) (by omega) (by omega) (by omega) (by decide) (by decide) (fun x hx=>Nat.le_trans (h2 x hx) (by decide)) h4⟩
theorem cvF.t (h:cvF po d) (k:Nat):(trP po k).length=2*d-1+1∧∀ x∈trP po k,rl x≤689401:=by
 obtain⟨h1,h2⟩:=h.m1 k
 obtain⟨_,h4⟩:=h.m2 k
 exact⟨by rw [trP,zipG_len,h1],fun x hx=>zipK_rl rl_sub (by decide) h2 h4 x hx⟩
end
theorem getD_memP {po:List PoR} {j:Nat} (h:j<po.length):po.getD j default∈po:=by
 rw [List.getD_eq_getElem?_getD,List.getElem?_eq_getElem h];exact List.getElem_mem h
end Go.Proofs.YthpfpgfehmhpdaaGreat
namespace Go.Lg
end Go.Lg
namespace Go.Proofs.YthpfpgfehmhpdaaGreat
open Go.Lg
theorem chsQ_rl {n:Nat} (k:Nat) (hn:n≤40):rl (((chs n k:Nat):Int):Rat)≤2:=by
 rcases Nat.lt_or_ge n k with h | h
 ·rw [chs_gt h];decide
 ·have h1:=chR_rl hn _ (getD_mem (i:=k) (by rw [chR_len];omega))
  rw [chR_get h] at h1;exact h1
def lin (α β:Rat):Rat→List Rat→List Rat
 | c,[]=>[β*c]
 | c,x :: l=>(β*c+α*x) :: lin α β x l
inductive KS:Nat→List Rat→Prop
 | z {s:Int} {l:List Rat}:l≠[]→s=1∨s=-1→(∀ x∈l,sgnR x=s)→KS 0 l
 | r {n:Nat} {l:List Rat} {a b:Rat}:KS n l→0<a→0<b→KS (n+1) (lin (-a) b 0 l)
theorem retCC {P:Program} {L:St} {a u:Nat} {T U:TypeId} {b c sz sy:Nat} {x y x' y':LV} {m m':Bool} {n n':Nat} {ag ag':Bool} (bs:List Nat) (h0:bs.contains 0=false) (h:L.slot a=.eptr b sz 0 0) (hb:L.heap b=some ⟨sz,[x],m⟩)
  (hx:x.csize=sz) (hat:x.at 0 n ag=some x) (hT:TyIs P T n ag) (hi:Imm (L.frz bs).heap x y) (h':L.slot u=.eptr c sy 0 0) (hc:L.heap c=some ⟨sy,[x'],m'⟩)
  (hx':x'.csize=sy) (hat':x'.at 0 n' ag'=some x') (hT':TyIs P U n' ag') (hi':Imm (L.frz bs).heap x' y'):RetL P [.cell a T,.cell u U] L (.tup [y,y']) [] :=
 ⟨[x,x'],[y,y'],(L.frz bs).heap,[],.cons ⟨b,sz,0,0,_,x,n,ag,h,hb,rfl,rfl,hx,hat,hT⟩ (.cons ⟨c,sy,0,0,_,x',n',ag',h',hc,rfl,rfl,hx',hat',hT'⟩ .nil),frz_le bs h0,.cons (.imm hi) (.cons (.imm hi') .nil),List.nodup_nil,rfl,fun k b h=>by simp at h,rfl⟩
section
variable {P:Program} {H:Heap} {ρ:Operand→LV} {T E:TypeId}
end
theorem ps_get (po:List PoR) (i:Nat):(po.map (·.p)).getD i default=(po.getD i default).p:=by
 rw [List.getD_eq_getElem?_getD,List.getD_eq_getElem?_getD,List.getElem?_map]
 cases po[i]?<;>rfl
def fIdx {α:Type} (pr:α→Bool) (l:List α):Int:=if l.any pr then(l.findIdx pr:Nat) else -1
theorem fIdx_hit {α:Type} [Inhabited α] {pr:α→Bool} {l:List α} {i:Nat} (hi:i<l.length) (h0:∀ j,j<i→pr (l.getD j default)=false) (h:pr (l.getD i default)=true):fIdx pr l=(i:Int):=by
 have hg:∀ j (hj:j<l.length),l.getD j default=l[j]:=fun j hj=>by rw [List.getD_eq_getElem?_getD,List.getElem?_eq_getElem hj];rfl
 have e:l.findIdx pr=i:=by
  rw [List.findIdx_eq hi]
  refine⟨by rw [←hg i hi];exact h,fun j hj=>?_⟩
  rw [←hg j (by omega)];exact h0 j hj
 have ha:l.any pr=true:=List.any_eq_true.2 ⟨l[i],List.getElem_mem hi,by rw [←hg i hi];exact h⟩
 unfold fIdx
 rw [if_pos ha,e]
theorem fIdx_none {α:Type} [Inhabited α] {pr:α→Bool} {l:List α} (h0:∀ j,j<l.length→pr (l.getD j default)=false):fIdx pr l=-1:=by
 have ha:l.any pr=false:=by
  rw [List.any_eq_false]
  intro x hx
  obtain⟨i,hi,rfl⟩:=List.mem_iff_getElem.1 hx
  have:=h0 i hi
  rw [List.getD_eq_getElem?_getD,List.getElem?_eq_getElem hi] at this
  simpa using this
 unfold fIdx
 rw [if_neg (by rw [ha];decide)]
theorem fIdx_any {α:Type} (pr:α→Bool) (l:List α):decide (fIdx pr l≥0)=l.any pr:=by
 unfold fIdx
 split
 ·rename_i h
  rw [h];exact decide_eq_true (by omega)
 ·rename_i h
  rw [Bool.not_eq_true] at h
  rw [h];rfl
theorem getD_memL {α:Type} [Inhabited α] {l:List α} {i:Nat} (h:i<l.length):l.getD i default∈l:=by
 rw [List.getD_eq_getElem?_getD,List.getElem?_eq_getElem h];exact List.getElem_mem h
theorem dig_inj {a b:Nat} (h:dig a=dig b):a=b:=by rw [←val_dig a,h,val_dig]
section
variable {a b:Rat}
theorem rsm2 (h2:decide (dig a.num.natAbs=dig b.num.natAbs)=false):false=decide (a=b):=by
 symm;rw [decide_eq_false_iff_not];rintro rfl;simp at h2
theorem rsm3 (h:(decide (a<0)==decide (b<0))=true) (h2:decide (dig a.num.natAbs=dig b.num.natAbs)=true):decide (dig (denN a)=dig (denN b))=decide (a=b):=by
 rw [decide_eq_decide,rat_ext']
 exact⟨fun h3=>⟨eq_of_beq h,dig_inj (of_decide_eq_true h2),dig_inj h3⟩,fun h3=>by rw [h3.2.2]⟩
end
def tmN (k:List Rat) (t:Rat):Nat→Nat
 | 0=>0
 | i+1=>tmN k t i+(if k.getD i 0=t then 1 else 0)
theorem tmN_le (k:List Rat) (t:Rat):∀ i,tmN k t i≤i
 | 0=>Nat.le_refl _
 | i+1=>by have:=tmN_le k t i;rw [tmN];split<;>omega
def dsN (k:List Rat):Nat→List Rat
 | 0=>[]
 | i+1=>if i=0∨k.getD i 0≠k.getD (i-1) 0 then dsN k i++[k.getD i 0] else dsN k i
theorem dsN_le (k:List Rat):∀ i,(dsN k i).length≤i
 | 0=>Nat.le_refl _
 | i+1=>by
  have:=dsN_le k i
  rw [dsN];split
  ·simp;omega
  ·omega
theorem dsN_mem (k:List Rat):∀ i,i≤k.length→∀ x∈dsN k i,x∈k
 | 0,_,x,h=>by cases h
 | i+1,hi,x,h=>by
  rw [dsN] at h
  split at h
  ·rcases List.mem_append.1 h with h | h
   ·exact dsN_mem k i (by omega) x h
   ·rw [List.mem_singleton.1 h];exact getD_mem (by omega)
  ·exact dsN_mem k i (by omega) x h
structure kOK (k:List Rat) (d:Nat):Prop where
 d1:1≤d
 d6:d≤6
 len:2*d+2≤k.length
 max:k.length≤d+41
 srt:∀ i,i+1<k.length→k.getD i 0≤k.getD (i+1) 0
 ne:k.getD 0 0≠k.getD (k.length-1) 0
 endk:∀ t∈k,(t=k.getD 0 0∨t=k.getD (k.length-1) 0)→tmN k t k.length=d+1
 ink:∀ t∈k,t≠k.getD 0 0→t≠k.getD (k.length-1) 0→tmN k t k.length≤d
 sz:∀ x∈k,rl x≤64
theorem ds_all {k:List Rat}:∀ i,i≤k.length→(∀ j,1≤j→j<i→k.getD j 0≠k.getD (j-1) 0)→dsN k i=k.take i
 | 0,_,_=>rfl
 | i+1,hi,h=>by
  rw [dsN,ds_all i (by omega) (fun j h1 h2=>h j h1 (by omega)),if_pos (by
   by_cases e:i=0
   ·exact .inl e
   ·exact .inr (h i (by omega) (by omega))),List.take_add_one,List.getD_eq_getElem?_getD,List.getElem?_eq_getElem (by omega)];rfl
theorem ds_y {k:List Rat} {i:Nat} (h0:0<i) (h:k.getD i 0≠k.getD (i-1) 0):dsN k (i+1)=dsN k i++[k.getD i 0]:=by rw [dsN,if_pos (.inr h)]
theorem ds_n {k:List Rat} {i:Nat} (h0:0<i) (h:k.getD i 0=k.getD (i-1) 0):dsN k (i+1)=dsN k i:=by rw [dsN,if_neg (fun e=>e.elim (fun e=>by omega) (fun e=>e h))]
theorem clr_eq {w:List Rat} {m n:Nat} (hm:m≤n) (hw:w.length=n):(w.map ratL).take m++List.replicate (n-m) (ratL 0)++(w.map ratL).drop (m+(n-m))=(w.take m++List.replicate (n-m) 0).map ratL:=by
 rw [List.drop_of_length_le (by simp;omega)]
 simp [List.map_take]
theorem take_snocL {l:List Rat} {k:Nat} (h:k<l.length):l.take k++[l.getD k 0]=l.take (k+1):=by
 rw [List.take_add_one,List.getElem?_eq_getElem h,List.getD_eq_getElem?_getD,List.getElem?_eq_getElem h];rfl
theorem imm_pre {α:Type} {e:α→LV} {ag:Bool} {bs:List Nat} {L:St} {b sz len:Nat} {l m:List α} {t:Bool} (he:EncOK e sz ag) (hb:L.heap b=some ⟨sz,(l++m).map e,t⟩) (hbs:bs.contains b=true) (hl:len=l.length):Imm (L.frz bs).heap (.ref b sz 0 len) (.list sz (l.map e)):=by
 have:=imm_ref (off:=0) (len:=len) hb hbs (pures_map he _) (by simp;omega)
 subst hl
 rwa [List.drop_zero,←List.map_take,List.take_left] at this
open H0 in
theorem c_RSame (a b:Rat) (h:rl a+rl b≤1099511627776):CallP Tryz.prog 133 [ratL a,ratL b] (bL (decide (a=b))):=by
 have a1:=rl_num a
 have a3:=rl_denN a
 have c1:=rl_num b
 have c3:=rl_denN b
 refine fnP Tryz.func133 ?_
 refine zg15 ?_
 refine op_if 10 rfl (fun h10r h10=>?_) (fun h10r h10=>?_)
 ·refine zg4 ?_
  refine cp am2 (c_Equal _ _ (by omega) (by omega)) ?_
  refine zg2 ?_
  refine op_if 17 rfl (fun h17r h17=>?_) (fun h17r h17=>?_)
  ·refine zg4 ?_
   refine cp am2 (c_Equal _ _ (by omega) (by omega)) ?_
   refine zg5 ?_
   rw [←rsm3 h10r h17r]
   exact ret1 rfl (by first | exact .pure rfl | exact .pure (limL_pure _) | exact .pure (magL_pure _) | exact .pure (ratE.pure _) | exact .pure (pure_lst u32E _ _) | exact .pure (pure_lst ratE _ _))
  ·refine zg10 ?_
   rw [←rsm2 h17r]
   exact ret1 rfl (by first | exact .pure rfl | exact .pure (limL_pure _) | exact .pure (magL_pure _) | exact .pure (ratE.pure _) | exact .pure (pure_lst u32E _ _) | exact .pure (pure_lst ratE _ _))
 ·refine zg17 ?_
  rw [←same1 h10r]
  exact ret1 rfl (by first | exact .pure rfl | exact .pure (limL_pure _) | exact .pure (magL_pure _) | exact .pure (ratE.pure _) | exact .pure (pure_lst u32E _ _) | exact .pure (pure_lst ratE _ _))
namespace H_c_IsSorted
theorem zSm {p q:Prop} (k:q) (e:p=q:=by simp only [e1,e2,e3,e4,p1,p2,p3,q1,q2,q3,l1,t0,t1,r1,r2,r3,r4,Nat.zero_add,Nat.reduceMul,Nat.reduceAdd,b1,b2,b3,b4,b5,b6,i1,i2,i3,i4,i5,i6,Nat.reduceBEq,dfq,eij,eii,List.set_cons_zero,List.set_cons_succ,Nat.reduceEqDiff,reduceIte,if_true,if_false,ptL_kill,poL_kill,kills_map ptE,kills_map poE,kills_map ratE,ratL_kill,spL_kill,LV.kill,kills];exact rfl):p:=e.mpr k
end H_c_IsSorted
open H_c_IsSorted in
theorem c_IsSorted (f:Nat) (k:List Rat) (h0:0<k.length) (hl:k.length≤1048576) (hs:∀ i,i+1<k.length→k.getD i 0≤k.getD (i+1) 0) (hf:∀ x∈k,∀ y∈k,CallP Tryz.prog f [ratL x,ratL y] (iL (cmpR x y))):CallP Tryz.prog 203 [.list 3 (k.map ratL),.clo f []] (bL true):=by
 refine fnP Tryz.func203 ?_
 have eij:True:=trivial
 have eii:True:=trivial
 refine zg10 ?_
 refine st_pure rfl (.bin rfl rfl (sub1N (by omega) (by omega))) ?_
 refine zg4 ?_
 refine lp1 (fun(i:Nat) L=>((((St.mk L.slot (hp [])).put (some 0) (.list 3 (k.map ratL))).put (some 1) (.clo f [])).put (some 5) (nI64 i))) (fun i=>i<k.length) (fun i=>i) (k.length-1) (by omega) ?_
 rintro i L1 hi
 refine zg7 ?_
 refine wl_if rfl (fun h10r h10=>?_) (fun h10r h10=>?_)
 ·have hi2:0<i:=by omega
  have eij:((i:Int)-1).toNat=i-1:=by omega
  have eii:((i:Int)).toNat=i:=by omega
  have hc:=hf _ (getD_mem (p:=k) (i:=i) hi) _ (getD_mem (p:=k) (i:=i-1) (by omega))
  have hge:=hs (i-1) (by omega)
  rw [Nat.sub_add_cancel (by omega)] at hge
  have hcg:0≤cmpR (k.getD i 0) (k.getD (i-1) 0):=cmpR_ge.2 hge
  refine zg5 ?_
  refine wl_regD 12 (by decide +kernel) ?_
  refine zg7 ?_
  refine st_pure rfl (.bin rfl rfl (sub1N (by omega) (by omega))) ?_
  refine zg2 ?_
  refine st_opc [] rfl rfl (.clo (f:=f) (cap:=[]) (args:=[ratL (k.getD i 0),ratL (k.getD (i-1) 0)]) rfl (.cons im0 (.cons im0 .nil)) ⟨rfl,fun _ h=>by cases h⟩ hc.1 (by decide) (fun _ h=>by cases h)) (hc.2 _) ?_
  refine zg3 ?_
  refine wl_if rfl (fun h24r h24=>?_) (fun h24r h24=>?_)
  ·omega
  ·refine zg5 ?_
   refine st_pure rfl (.bin rfl rfl (sub1N (by omega) (by omega))) ?_
   refine zg3 ?_
   exact nx1 (i-1) (by omega)
 ·refine zg11 ?_
  exact ret1 rfl (.pure rfl)
namespace H_c_KTimes
theorem zSm {p q:Prop} (k:q) (e:p=q:=by simp only [e1,e2,e3,e4,p1,p2,p3,q1,q2,q3,l1,t0,t1,r1,r2,r3,r4,Nat.zero_add,Nat.reduceMul,Nat.reduceAdd,b1,b2,b3,b4,b5,b6,i1,i2,i3,i4,i5,i6,Nat.reduceBEq,dfq,List.set_cons_zero,List.set_cons_succ,Nat.reduceEqDiff,reduceIte,if_true,if_false,ptL_kill,poL_kill,kills_map ptE,kills_map poE,kills_map ratE,ratL_kill,spL_kill,LV.kill,kills];exact rfl):p:=e.mpr k
end H_c_KTimes
open H_c_KTimes in
theorem c_KTimes (k:List Rat) (hl:k.length≤1048576) (hr:∀ x∈k,rl x≤549755813888) (t:Rat) (ht:rl t≤549755813888):CallP Tryz.prog 146 [.list 3 (k.map ratL),ratL t] (nI64 (tmN k t k.length)):=by
 refine fnP Tryz.func146 ?_
 refine zg20 ?_
 refine lp1 (fun(i:Nat) L=>((((((St.mk L.slot (hp [(3,⟨3,[ratL t],true⟩)])).put (some 3) (.eptr 3 3 0 0)).put (some 5) (nI64 (tmN k t i))).put (some 8) (.list 3 (k.map ratL))).put (some 9) (nI64 k.length)).put (some 10) (nI64 i))) (fun i=>i≤k.length) (fun i=>k.length-i) 0 (Nat.zero_le _) ?_
 rintro i L1 hi
 refine zg6 ?_
 refine wl_if rfl (fun h11r h11=>?_) (fun h11r h11=>?_)
 ·have hi2:i<k.length:=by omega
  have hx:=hr _ (getD_mem (i:=i) (by omega))
  have htl:=tmN_le k t i
  refine zg16 ?_
  refine cp am2 (c_RSame (k.getD i 0) t (by omega)) ?_
  refine zg2 ?_
  refine wl_if rfl (fun h16r h16=>?_) (fun h16r h16=>?_)
  ·have hT:tmN k t (i+1)=tmN k t i+1:=by rw [tmN,if_pos h16]
   refine zg2 ?_
   refine st_pure rfl (.bin rfl rfl (add1N (by omega))) ?_
   refine zg4 ?_
   refine wl_regW (Weak.kill _ 7) ?_
   refine st_pure rfl (.bin rfl rfl (add1N (by omega))) ?_
   refine zg3 ?_
   exact nx1 (i+1) (by omega)
  ·have hT:tmN k t (i+1)=tmN k t i:=by rw [tmN,if_neg h16];rfl
   refine zg3 ?_
   refine wl_regW (Weak.kill _ 7) ?_
   refine st_pure rfl (.bin rfl rfl (add1N (by omega))) ?_
   refine zg3 ?_
   exact nx1 (i+1) (by omega)
 ·obtain rfl:i=k.length:=by omega
  refine zg12 ?_
  exact ret1 rfl (.pure rfl)
namespace H_c_Compact
theorem zSm {p q:Prop} (k:q) (e:p=q:=by simp only [e1,e2,e3,e4,p1,p2,p3,q1,q2,q3,l1,t0,t1,r1,r2,r3,r4,Nat.zero_add,Nat.reduceMul,Nat.reduceAdd,b1,b2,b3,b4,b5,b6,i1,i2,i3,i4,i5,i6,Nat.reduceBEq,dfq,eij,eii,eik,eia,ecl,eyl,ewa,ewb,Nat.zero_add,Nat.add_zero,List.length_set,List.length_map,List.set_cons_zero,List.set_cons_succ,Nat.reduceEqDiff,reduceIte,if_true,if_false,ptL_kill,poL_kill,kills_map ptE,kills_map poE,kills_map ratE,ratL_kill,spL_kill,LV.kill,kills];exact rfl):p:=e.mpr k
end H_c_Compact
open H_c_Compact in
theorem c_Compact (f:Nat) (l:List Rat) (h0:0<l.length) (hl:l.length≤1048576) (hf:∀ x∈l,∀ y∈l,CallP Tryz.prog f [ratL x,ratL y] (bL (decide (x=y)))):CallOKM Tryz.prog 131 ⟨3,l.map ratL,true⟩ [.ref 0 3 0 l.length,.clo f []] (.ref 0 3 0 (dsN l l.length).length) ⟨3,((dsN l l.length)++List.replicate (l.length-(dsN l l.length).length) 0).map ratL,true⟩:=by
 refine fnM Tryz.func131 ?_
 have eij:True:=trivial
 have eii:True:=trivial
 have eik:True:=trivial
 have eia:True:=trivial
 have ecl:True:=trivial
 have eyl:True:=trivial
 have ewa:True:=trivial
 have ewb:True:=trivial
 refine zg13 ?_
 refine wl_if rfl (fun h10r h10=>?_) (fun h10r h10=>?_)
 ·obtain rfl1:l.length=1:=by omega
  have hE:(dsN l l.length)=l:=by rw [ds_all _ (Nat.le_refl _) (fun j h1 h2=>by omega),List.take_length]
  refine zg8 ?_
  first | (rw [hE,Nat.sub_self,List.replicate_zero,List.append_nil];exact retM1 rfl .ref rfl rfl (pures_map ratE _)) | (exact retM1 rfl .ref (by first | rfl | (simp;done)) rfl (pures_map ratE _))
 ·refine zg9 ?_
  refine lp1 (fun(i:Nat) L=>((((St.mk L.slot (hp [(0,⟨3,l.map ratL,true⟩)])).put (some 0) (.ref 0 3 0 l.length)).put (some 1) (.clo f [])).put (some 5) (nI64 i))) (fun i=>1≤i∧i≤l.length∧∀ j,1≤j→j<i→l.getD j 0≠l.getD (j-1) 0) (fun i=>l.length-i) 1 ⟨Nat.le_refl _,by omega,fun j h1 h2=>by omega⟩ ?_
  rintro i L1 ⟨hi1,hil,hne⟩
  refine zg9 ?_
  refine wl_if rfl (fun h15r h15=>?_) (fun h15r h15=>?_)
  ·have hi2:i<l.length:=by omega
   have eij:((i:Int)-1).toNat=i-1:=by omega
   have eii:((i:Int)).toNat=i:=by omega
   have hc:=hf _ (getD_mem (p:=l) (i:=i) hi2) _ (getD_mem (p:=l) (i:=i-1) (by omega))
   refine zg5 ?_
   refine wl_regD 11 (by decide +kernel) ?_
   refine zg7 ?_
   refine st_pure rfl (.bin rfl rfl (sub1N (by omega) (by omega))) ?_
   refine zg2 ?_
   try simp only [t1,dfq,eij,eii,Nat.zero_add]
   refine st_opc [] rfl rfl (.clo (f:=f) (cap:=[]) (args:=[ratL (l.getD i 0),ratL (l.getD (i-1) 0)]) rfl (.cons im0 (.cons im0 .nil)) ⟨rfl,fun _ h=>by cases h⟩ hc.1 (by decide) (fun _ h=>by cases h)) (hc.2 _) ?_
   refine zg2 ?_
   refine wl_if rfl (fun h28r h28=>?_) (fun h28r h28=>?_)
   ·have hdi:dsN l (i+1)=dsN l i:=ds_n (by omega) h28
    have hdt:dsN l i=l.take i:=ds_all i hil hne
    have hln:(l.take i).length=i:=by rw [List.length_take];omega
    have hst:1≤1∧i+1≤l.length∧l.length=l.length∧(dsN l (i+1)).length+1≤i+1∧l.take (dsN l (i+1)).length=dsN l (i+1)∧∀ x,i+1-1≤x→l.getD x 0=l.getD x 0:=⟨Nat.le_refl _,by omega,rfl,by rw [hdi,hdt,hln];omega,by rw [hdi,hdt,hln],fun _ _=>rfl⟩
    have eia:(dsN l (i+1)).length=i:=by rw [hdi,hdt,hln]
    refine zg4 ?_
    refine st_pure rfl (.sliceR (a:=i) (h:=l.length) rfl Tryz.underlying26 T32 (fun y hy=>by cases hy;exact⟨_,rfl⟩) (fun h=>by cases h) (fun y hy=>by cases hy) (fun _=>rfl) om om om) ?_
    refine zg10 ?_
    refine lp2 (fun(j:Nat) (w:List Rat) L=>((((((St.mk L.slot (hp [(0,⟨3,w.map ratL,true⟩)])).put (some 0) (.ref 0 3 0 l.length)).put (some 1) (.clo f [])).put (some 5) (nI64 (dsN l (i+j)).length)).put (some 6) (.ref 0 3 i (l.length-i))).put (some 7) (nI64 j))) (fun j w=>1≤j∧i+j≤l.length∧w.length=l.length∧(dsN l (i+j)).length+1≤i+j∧w.take (dsN l (i+j)).length=(dsN l (i+j))∧∀ x,i+j-1≤x→w.getD x 0=l.getD x 0) (fun j w=>l.length-(i+j)) 1 l hst ?_
    rintro j w L2 ⟨hj1,hij,hwl,hdl,hwt,hwx⟩
    refine zg9 ?_
    refine wl_if rfl (fun h35r h35=>?_) (fun h35r h35=>?_)
    ·have hi3:i+j<l.length:=by omega
     have ewa:w.getD (i+j) 0=l.getD (i+j) 0:=hwx _ (by omega)
     have ewb:w.getD (i+(j-1)) 0=l.getD (i+j-1) 0:=by rw [show i+(j-1)=i+j-1 by omega];exact hwx _ (by omega)
     have eik:((j:Int)-1).toNat=j-1:=by omega
     have hc:=hf _ (getD_mem (p:=l) (i:=i+j) hi3) _ (getD_mem (p:=l) (i:=i+j-1) (by omega))
     have hd2:(dsN l (i+j)).length<l.length:=by omega
     refine zg5 ?_
     refine wl_regD 12 (by decide +kernel) ?_
     refine zg7 ?_
     refine st_pure rfl (.bin rfl rfl (sub1N (by omega) (by omega))) ?_
     refine zg2 ?_
     try simp only [t1,dfq,eik,ewa,ewb]
     refine st_opc [] rfl rfl (.clo (f:=f) (cap:=[]) (args:=[ratL (l.getD (i+j) 0),ratL (l.getD (i+j-1) 0)]) rfl (.cons im0 (.cons im0 .nil)) ⟨rfl,fun _ h=>by cases h⟩ hc.1 (by decide) (fun _ h=>by cases h)) (hc.2 _) ?_
     refine zg3 ?_
     refine wl_if rfl (fun h49r h49=>?_) (fun h49r h49=>?_)
     ·have hy:=ds_y (k:=l) (i:=i+j) (by omega) h49
      have eyl:(dsN l (i+(j+1))).length=(dsN l (i+j)).length+1:=by rw [←Nat.add_assoc,hy];simp
      have hyl:(dsN l (i+j+1)).length=(dsN l (i+j)).length+1:=by rw [hy];simp
      have hnA:1≤j+1∧i+(j+1)≤l.length∧(w.set (dsN l (i+j)).length (l.getD (i+j) 0)).length=l.length∧(dsN l (i+(j+1))).length+1≤i+(j+1)∧(w.set (dsN l (i+j)).length (l.getD (i+j) 0)).take (dsN l (i+(j+1))).length=dsN l (i+(j+1))∧∀ x,i+(j+1)-1≤x→(w.set (dsN l (i+j)).length (l.getD (i+j) 0)).getD x 0=l.getD x 0:=⟨by omega,by omega,by simp [hwl],by rw [←Nat.add_assoc,hyl];omega,by rw [←Nat.add_assoc,hyl,hy,List.take_add_one,List.take_set_of_le (Nat.le_refl _),hwt,List.getElem?_set_self (by omega)];rfl,fun x hx=>by rw [set_getD _ _ _ _ (by omega),if_neg (by omega)];exact hwx x (by omega)⟩
      refine zg9 ?_
      try simp only [t1,dfq,ewa,Nat.zero_add]
      refine zg5 ?_
      refine st_pure rfl (.bin rfl rfl (add1N (by omega))) ?_
      refine zg6 ?_
      refine st_pure rfl (.bin rfl rfl (add1N (by omega))) ?_
      refine zg3 ?_
      exact nx2 (j+1) (w.set (dsN l (i+j)).length (l.getD (i+j) 0)) hnA
     ·have hy:=ds_n (k:=l) (i:=i+j) (by omega) h49
      have eyl:(dsN l (i+(j+1))).length=(dsN l (i+j)).length:=by rw [←Nat.add_assoc,hy]
      have hnB:1≤j+1∧i+(j+1)≤l.length∧w.length=l.length∧(dsN l (i+(j+1))).length+1≤i+(j+1)∧w.take (dsN l (i+(j+1))).length=dsN l (i+(j+1))∧∀ x,i+(j+1)-1≤x→w.getD x 0=l.getD x 0:=⟨by omega,by omega,hwl,by rw [←Nat.add_assoc,hy];omega,by rw [←Nat.add_assoc,hy];exact hwt,fun x hx=>hwx x (by omega)⟩
      refine zg5 ?_
      refine st_pure rfl (.bin rfl rfl (add1N (by omega))) ?_
      refine zg3 ?_
      exact nx2 (j+1) w hnB
    ·obtain rfl:j=l.length-i:=by omega
     have eia:i+(l.length-i)=l.length:=by omega
     have hdr:=hdl
     rw [eia] at hdl hwt
     have ecl:=clr_eq (w:=w) (m:=(dsN l l.length).length) (n:=l.length) (by omega) hwl
     rw [hwt] at ecl
     refine zg9 ?_
     refine st_pure rfl (.sliceR (a:=(dsN l (i+(l.length-i))).length) (h:=l.length) rfl Tryz.underlying26 T32 (fun y hy=>by cases hy;exact⟨_,rfl⟩) (fun h=>by cases h) (fun y hy=>by cases hy) (fun _=>rfl) om om om) ?_
     refine st_store rfl (.clr (n:=l.length-(dsN l (i+(l.length-i))).length) (off:=0+(dsN l (i+(l.length-i))).length) (z:=ratL 0) (blk:=⟨3,w.map ratL,true⟩) rfl rfl rfl rfl (by rw [List.length_map];omega) Tryz.underlying26 (ratL_zero ▸ Z32a) (ratE.csize 0)) ?_
     refine zg6 ?_
     refine st_pure rfl (.sliceRh rfl Tryz.underlying26 T32 rfl om om) ?_
     refine zg9 ?_
     first | (rw [hE,Nat.sub_self,List.replicate_zero,List.append_nil];exact retM1 rfl .ref rfl rfl (pures_map ratE _)) | (exact retM1 rfl .ref (by first | rfl | (simp;done)) rfl (pures_map ratE _))
   ·have hnx:∀ j,1≤j→j<i+1→l.getD j 0≠l.getD (j-1) 0:=fun j h1 h2=>by
     rcases Nat.lt_succ_iff_lt_or_eq.1 h2 with e | rfl
     ·exact hne j h1 e
     ·exact h28
    refine zg5 ?_
    refine st_pure rfl (.bin rfl rfl (add1N (by omega))) ?_
    refine zg3 ?_
    exact nx1 (i+1) ⟨by omega,by omega,hnx⟩
  ·obtain rfl:i=l.length:=by omega
   have hE:(dsN l l.length)=l:=by rw [ds_all _ (Nat.le_refl _) hne,List.take_length]
   refine zg12 ?_
   first | (rw [hE,Nat.sub_self,List.replicate_zero,List.append_nil];exact retM1 rfl .ref rfl rfl (pures_map ratE _)) | (exact retM1 rfl .ref (by first | rfl | (simp;done)) rfl (pures_map ratE _))
namespace H_c_KcopiedO
theorem zSm {p q:Prop} (k:q) (e:p=q:=by simp only [e1,e2,e3,e4,p1,p2,p3,q1,q2,q3,l1,t0,t1,r1,r2,r3,r4,Nat.zero_add,Nat.reduceMul,Nat.reduceAdd,b1,b2,b3,b4,b5,b6,i1,i2,i3,i4,i5,i6,Nat.reduceBEq,dfq,Rat.add_zero,ers,etk,Nat.zero_add,take_map_len,map_snoc,len_snoc,List.length_cons,List.length_nil,List.nil_append,List.map_nil,List.take_nil,List.append_nil,List.set_cons_zero,List.set_cons_succ,Nat.reduceEqDiff,reduceIte,if_true,if_false,ptL_kill,poL_kill,kills_map ptE,kills_map poE,kills_map ratE,ratL_kill,spL_kill,LV.kill,kills];exact rfl):p:=e.mpr k
end H_c_KcopiedO
open H_c_KcopiedO in
theorem c_KcopiedO (p:List Rat) (hl:p.length≤1048576) (hpr:∀ x∈p,rl x≤274877906944):CallOK Tryz.prog 132 [.list 3 (p.map ratL)] (.ref 1 3 0 p.length) [⟨3,p.map ratL,true⟩]:=by
 refine fnO Tryz.func132 ?_
 have ers:True:=trivial
 have etk:True:=trivial
 refine zg9 ?_
 refine st_alloc rfl rfl (.mkE (n:=0) (m:=p.length) ml ml om om om) ?_
 refine zg12 ?_
 refine lp1 (fun(k:Nat) L=>(((((St.mk L.slot (hp [(8,⟨3,(p.take k).map ratL,true⟩)])).put (some 3) (.ref 8 3 0 k)).put (some 9) (.list 3 (p.map ratL))).put (some 10) (nI64 p.length)).put (some 11) (nI64 k))) (fun k=>k≤p.length) (fun k=>p.length-k) 0 (Nat.zero_le _) ?_
 rintro k L1 hk
 refine zg6 ?_
 refine wl_if rfl (fun h12r h12=>?_) (fun h12r h12=>?_)
 ·have hk2:k<p.length:=by omega
  have hrk:=hpr _ (getD_mem hk2)
  have hA:=c_RAdd (p.getD k 0) 0 (by rw [show rl 0=1 from rfl];omega)
  rw [Rat.add_zero] at hA
  have ers:=take_snocL (l:=p) hk2
  have etk:((p.take k).map ratL).take k=(p.take k).map ratL:=List.take_of_length_le (by rw [List.length_map,List.length_take];omega)
  refine zg15 ?_
  refine st_pure rfl (.build0 SL32 Z32a) ?_
  refine cp am2 (hA) ?_
  refine zg1 ?_
  refine st_store rfl (.appX (d:=8) (news:=[ratL (p.getD k 0)]) rfl rfl rfl rfl (by simp;omega) (.inl rfl) (by decide) Tryz.underlying26 Tryz.underlying26 Z32a T32 rfl B32 (.inl ⟨19,0,_,rfl,by decide,rfl,rfl,by simp,rfl,by simp [pures,ratE.pure]⟩) (by simp;omega) (by simp;omega) (by decide)) ?_
  refine zg4 ?_
  refine wl_regW ((Weak.kill _ 5).trans (Weak.kill _ 19)) ?_
  refine st_pure rfl (.bin rfl rfl (add1N (by omega))) ?_
  refine zg3 ?_
  exact nx1 (k+1) (by omega)
 ·obtain rfl:k=p.length:=by omega
  have hE:p.take p.length=p:=List.take_length
  refine zg12 ?_
  rw [hE]
  exact ret1own rfl rfl (pures_map ratE _)
namespace H_c_Distinct
theorem zSm {p q:Prop} (k:q) (e:p=q:=by simp only [e1,e2,e3,e4,p1,p2,p3,q1,q2,q3,l1,t0,t1,r1,r2,r3,r4,Nat.zero_add,Nat.reduceMul,Nat.reduceAdd,b1,b2,b3,b4,b5,b6,i1,i2,i3,i4,i5,i6,Nat.reduceBEq,List.set_cons_zero,List.set_cons_succ,Nat.reduceEqDiff,reduceIte,if_true,if_false,ptL_kill,poL_kill,kills_map ptE,kills_map poE,kills_map ratE,ratL_kill,spL_kill,LV.kill,kills];exact rfl):p:=e.mpr k
end H_c_Distinct
open H_c_Distinct in
theorem c_Distinct (k:List Rat) (h0:0<k.length) (hl:k.length≤1048576) (hr:∀ x∈k,rl x≤274877906944):CallP Tryz.prog 75 [.list 3 (k.map ratL)] (.list 3 ((dsN k k.length).map ratL)):=by
 refine fnP Tryz.func75 ?_
 refine zg8 ?_
 refine st_call1 [] rfl rfl (.cons (.pure (pure_lst ratE _ _)) .nil) (c_KcopiedO k hl hr) (pures_map ratE _) rfl ?_
 refine st_callM 1000065 rfl rfl rfl (pures_map ratE _) (.cons .ref (.cons (.imm (.pure rfl)) .nil)) (.ref h0) (c_Compact 133 k h0 hl (fun x hx y hy=>c_RSame x y (by have:=hr x hx;have:=hr y hy;omega))) rfl (pures_map ratE _) ?_
 refine zg4 ?_
 exact ret1f [1000065] rfl rfl (imm_pre ratE rfl rfl rfl)
open H0 in
theorem c_KPoles (k:List Rat) (d:Nat) (h:d+1≤k.length) (hl:k.length≤1048576):CallP Tryz.prog 204 [.list 3 (k.map ratL),nI64 d] (nI64 (k.length-d-1)):=by
 refine fnP Tryz.func204 ?_
 refine zg10 ?_
 refine st_pure rfl (.bin rfl rfl (sub64 (by omega) (by omega))) ?_
 refine st_pure rfl (.bin rfl rfl (sub64 (by omega) (by omega))) ?_
 refine zg4 ?_
 refine ret1 ?_ (.pure rfl)
 simp only [e1,e2,e3,e4,p1,p2,p3,q1,q2,q3,Nat.reduceBEq]
 congr 2
 omega
namespace H_c_KCheck
theorem zSm {p q:Prop} (k:q) (e:p=q:=by simp only [e1,e2,e3,e4,p1,p2,p3,q1,q2,q3,l1,t0,t1,r1,r2,r3,r4,Nat.zero_add,Nat.reduceMul,Nat.reduceAdd,b1,b2,b3,b4,b5,b6,i1,i2,i3,i4,i5,i6,Nat.reduceBEq,dfq,hix,List.set_cons_zero,List.set_cons_succ,Nat.reduceEqDiff,reduceIte,if_true,if_false,ptL_kill,poL_kill,kills_map ptE,kills_map poE,kills_map ratE,ratL_kill,spL_kill,LV.kill,kills];exact rfl):p:=e.mpr k
end H_c_KCheck
open H_c_KCheck in
theorem c_KCheck (k:List Rat) (d:Nat) (h:kOK k d):CallP Tryz.prog 129 [.list 3 (k.map ratL),nI64 d] (iL 0):=by
 have hd1:=h.d1
 have hd6:=h.d6
 have hlen:=h.len
 have hmax:=h.max
 have hr:∀ x∈k,rl x≤274877906944:=fun x hx=>Nat.le_trans (h.sz x hx) (by decide)
 have hix:((k.length:Int)-1).toNat=k.length-1:=by omega
 have hr0:=h.sz _ (getD_mem (p:=k) (i:=0) (by omega))
 have hr1:=h.sz _ (getD_mem (p:=k) (i:=k.length-1) (by omega))
 have hS:CallP Tryz.prog 203 [.list 3 (k.map ratL),.clo 136 []] (bL true):=c_IsSorted 136 k (by omega) (by omega) h.srt (fun x hx y hy=>c_RCmp x y (by have:=h.sz x hx;have:=h.sz y hy;omega))
 refine fnP Tryz.func129 ?_
 refine zg11 ?_
 refine st_pure rfl (.bin rfl rfl (sub64 (by omega) (by omega))) ?_
 refine st_pure rfl (.bin rfl rfl (sub64 (by omega) (by omega))) ?_
 refine zg9 ?_
 refine op_if 18 rfl (fun h18r h18=>?_) (fun h18r h18=>?_)
 ·omega
 ·refine zg6 ?_
  refine wl_if rfl (fun h15r h15=>?_) (fun h15r h15=>?_)
  ·omega
  ·refine zg5 ?_
   refine st_pure rfl (.bin rfl rfl (mul64 (by omega) (by omega))) ?_
   refine st_pure rfl (.bin rfl rfl (add64 (by omega) (by omega))) ?_
   refine zg4 ?_
   refine wl_if rfl (fun h22r h22=>?_) (fun h22r h22=>?_)
   ·omega
   ·refine zg7 ?_
    refine wl_if rfl (fun h29r h29=>?_) (fun h29r h29=>?_)
    ·omega
    ·refine zg5 ?_
     refine wl_regD 15 (by decide +kernel) ?_
     refine zg1 ?_
     refine cp am2 (hS) ?_
     refine zg8 ?_
     refine st_pure (guardX (v:=false) rfl rfl (rfl) rfl) (.bin rfl rfl (sub64 (by omega) (by omega))) ?_
     refine zg2 ?_
     try simp only [t1,dfq,hix]
     refine cp am2 (c_RSame (k.getD 0 0) (k.getD (k.length-1) 0) (by omega)) ?_
     refine zg3 ?_
     refine wl_condY (b:=_) rfl (decide_eq_false h.ne) ?_
     refine zg6 ?_
     refine cp am1 (c_Distinct k (by omega) (by omega) hr) ?_
     refine zg5 ?_
     refine lp1 (fun(i:Nat) L=>((((((St.mk L.slot (hp [])).put (some 0) (.list 3 (k.map ratL))).put (some 1) (nI64 d)).put (some 48) (.list 3 ((dsN k k.length).map ratL))).put (some 49) (nI64 (dsN k k.length).length)).put (some 50) (nI64 i))) (fun i=>i≤(dsN k k.length).length) (fun i=>(dsN k k.length).length-i) 0 (Nat.zero_le _) ?_
     rintro i L1 hi
     refine zg6 ?_
     refine wl_if rfl (fun h51r h51=>?_) (fun h51r h51=>?_)
     ·have hdl:=dsN_le k k.length
      have hi2:i<(dsN k k.length).length:=by omega
      have hm:=dsN_mem k k.length (Nat.le_refl _) _ (getD_mem hi2)
      have hrt:=h.sz _ hm
      have he1:=h.endk _ hm
      have he2:=h.ink _ hm
      refine zg16 ?_
      refine cp am2 (c_KTimes k (by omega) (fun x hx=>Nat.le_trans (hr x hx) (by decide)) ((dsN k k.length).getD i 0) (by omega)) ?_
      refine zg4 ?_
      refine wl_regD 16 (by decide +kernel) ?_
      refine zg4 ?_
      refine cp am2 (c_RSame ((dsN k k.length).getD i 0) (k.getD 0 0) (by omega)) ?_
      refine zg1 ?_
      refine op_if 62 rfl (fun h62r h62=>?_) (fun h62r h62=>?_)
      ·refine zg7 ?_
       try simp only [t1,dfq,hix]
       refine zg11 ?_
       refine st_pure (guardX (v:=true) rfl rfl (rfl) rfl) (.bin rfl rfl (add64 (by omega) (by omega))) ?_
       refine zg3 ?_
       refine op_if 79 rfl (fun h79r h79=>?_) (fun h79r h79=>?_)
       ·have:=he1 (by first | exact .inl h62 | exact .inr h73)
        omega
       ·refine zg3 ?_
        refine st_skip (guardX (v:=false) rfl rfl ((by first | rfl | (rw [h73r];rfl))) rfl) ?_
        refine st_skip (guardX (v:=false) rfl rfl ((by first | rfl | (rw [h73r];rfl))) rfl) ?_
        refine st_skip (guardX (v:=false) rfl rfl ((by first | rfl | (rw [h73r];rfl))) rfl) ?_
        refine st_pure (guardX (v:=false) rfl rfl (h79r) rfl) (.pickF rfl ((by first | rfl | (rw [h73r];rfl)))) ?_
        refine zg7 ?_
        refine wl_regW (Weak.kill _ 7) ?_
        refine st_pure rfl (.bin rfl rfl (add1N (by omega))) ?_
        refine zg3 ?_
        exact nx1 (i+1) (by omega)
      ·refine zg4 ?_
       refine st_pure (guardX (v:=false) rfl rfl (h62r) rfl) (.bin rfl rfl (sub64 (by omega) (by omega))) ?_
       refine zg2 ?_
       try simp only [t1,dfq,hix]
       refine cp am2 (c_RSame ((dsN k k.length).getD i 0) (k.getD (k.length-1) 0) (by omega)) ?_
       refine zg8 ?_
       refine op_if 73 rfl (fun h73r h73=>?_) (fun h73r h73=>?_)
       ·refine zg2 ?_
        refine st_pure (guardX (v:=true) rfl rfl (h73r) rfl) (.bin rfl rfl (add64 (by omega) (by omega))) ?_
        refine zg3 ?_
        refine op_if 79 rfl (fun h79r h79=>?_) (fun h79r h79=>?_)
        ·have:=he1 (by first | exact .inl h62 | exact .inr h73)
         omega
        ·refine zg3 ?_
         refine st_skip (guardX (v:=false) rfl rfl ((by first | rfl | (rw [h73r];rfl))) rfl) ?_
         refine st_skip (guardX (v:=false) rfl rfl ((by first | rfl | (rw [h73r];rfl))) rfl) ?_
         refine st_skip (guardX (v:=false) rfl rfl ((by first | rfl | (rw [h73r];rfl))) rfl) ?_
         refine st_pure (guardX (v:=false) rfl rfl (h79r) rfl) (.pickF rfl ((by first | rfl | (rw [h73r];rfl)))) ?_
         refine zg7 ?_
         refine wl_regW (Weak.kill _ 7) ?_
         refine st_pure rfl (.bin rfl rfl (add1N (by omega))) ?_
         refine zg3 ?_
         exact nx1 (i+1) (by omega)
       ·refine zg9 ?_
        refine st_pure (guardX (v:=true) rfl rfl ((by first | rfl | (rw [h73r];rfl))) rfl) (.move _) ?_
        refine st_pure (guardX (v:=true) rfl rfl ((by first | rfl | (rw [h73r];rfl))) rfl) (.move _) ?_
        refine st_pure (guardX (v:=true) rfl rfl ((by first | rfl | (rw [h73r];rfl))) rfl) (.bin rfl rfl rfl) ?_
        refine st_pure (guardX (v:=false) rfl rfl (rfl) rfl) (.pickT rfl ((by first | rfl | (rw [h73r];rfl)))) ?_
        refine zg3 ?_
        refine wl_if rfl (fun h87r h87=>?_) (fun h87r h87=>?_)
        ·have:=he2 h62 h73
         omega
        ·refine zg3 ?_
         refine wl_regW (Weak.kill _ 7) ?_
         refine st_pure rfl (.bin rfl rfl (add1N (by omega))) ?_
         refine zg3 ?_
         exact nx1 (i+1) (by omega)
     ·refine zg11 ?_
      exact ret1 rfl (.pure rfl)
def sqS (s:Rat × Rat):Rat × Rat:=if hasR s 0=true then(0,mxR (s.1*s.1) (s.2*s.2)) else(mnR (s.1*s.1) (s.2*s.2),mxR (s.1*s.1) (s.2*s.2))
def muS (a b:Rat × Rat):Rat × Rat:=hulP (hulP (hulP (a.1*b.1,a.1*b.1) (a.1*b.2,a.1*b.2)) (a.2*b.1,a.2*b.1)) (a.2*b.2,a.2*b.2)
def rcS (b:Rat × Rat):Rat × Rat:=(mnR (1/b.1) (1/b.2),mxR (1/b.1) (1/b.2))
def quS (a b:Rat × Rat):Rat × Rat:=muS a (rcS b)
def bdS (R:Nat) (s:Rat × Rat):Prop:=rl s.1≤R∧rl s.2≤R
theorem bdS.le {R S:Nat} {s:Rat × Rat} (h:bdS R s) (k:R≤S):bdS S s:=⟨Nat.le_trans h.1 k,Nat.le_trans h.2 k⟩
theorem mn_rl {a b:Rat} {R:Nat} (ha:rl a≤R) (hb:rl b≤R):rl (mnR a b)≤R:=by unfold mnR;split<;>assumption
theorem mx_rl3 {a b:Rat} {R:Nat} (ha:rl a≤R) (hb:rl b≤R):rl (mxR a b)≤R:=by unfold mxR;split<;>assumption
theorem hul_bd {R:Nat} {s t:Rat × Rat} (hs:bdS R s) (ht:bdS R t):bdS R (hulP s t):=⟨mn_rl hs.1 ht.1,mx_rl3 hs.2 ht.2⟩
theorem muS_bd {R S:Nat} {a b:Rat × Rat} (ha:bdS R a) (hb:bdS S b):bdS (R+S) (muS a b):=by
 obtain⟨a1,a2⟩:=ha
 obtain⟨b1,b2⟩:=hb
 have h:∀ x y:Rat,rl x≤R→rl y≤S→bdS (R+S) (x*y,x*y):=fun x y hx hy=>by
  have:=rl_mul x y
  exact⟨by show rl (x*y)≤_;omega,by show rl (x*y)≤_;omega⟩
 exact hul_bd (hul_bd (hul_bd (h _ _ a1 b1) (h _ _ a1 b2)) (h _ _ a2 b1)) (h _ _ a2 b2)
theorem rc_bd {R:Nat} {b:Rat × Rat} (hb:bdS R b):bdS (R+1) (rcS b):=by
 have h:∀ x:Rat,rl x≤R→rl (1/x)≤R+1:=fun x hx=>by
  have:=rl_div 1 x
  have:rl 1=1:=rfl
  omega
 exact⟨mn_rl (h _ hb.1) (h _ hb.2),mx_rl3 (h _ hb.1) (h _ hb.2)⟩
theorem quS_bd {R S:Nat} {a b:Rat × Rat} (ha:bdS R a) (hb:bdS S b):bdS (R+(S+1)) (quS a b):=muS_bd ha (rc_bd hb)
theorem sqS_bd {R:Nat} {s:Rat × Rat} (hs:bdS R s) (hR:1≤R):bdS (2*R) (sqS s):=by
 have h1:=rl_mul s.1 s.1
 have h2:=rl_mul s.2 s.2
 have h3:=hs.1
 have h4:=hs.2
 have h0:rl 0=1:=rfl
 unfold sqS
 split
 ·exact⟨by show rl 0≤_;omega,mx_rl3 (by omega) (by omega)⟩
 ·exact⟨mn_rl (by omega) (by omega),mx_rl3 (by omega) (by omega)⟩
structure _root_.Go.Lg.Bx3 where
 x:Rat × Rat
 y:Rat × Rat
 z:Rat × Rat
abbrev bxL (b:Bx3):LV:=.agg [spL b.x,spL b.y,spL b.z]
theorem bxE:EncOK bxL 18 true:=by
 refine⟨fun b=>?_,fun b=>rfl,fun b=>?_⟩
 ·simp [bxL,LV.csize,csizes,spE.csize]
 ·simp [bxL,LV.pure,pures,spE.pure]
def bdB (R:Nat) (b:Bx3):Prop:=bdS R b.x∧bdS R b.y∧bdS R b.z
theorem bxL_kill (q:Bx3) (b:Nat):(bxL q).kill b=bxL q:=LV.kill_pure b _ (bxE.pure q)
namespace H_c_SMul
theorem zSm {p q:Prop} (k:q) (e:p=q:=by simp only [e1,e2,e3,e4,p1,p2,p3,q1,q2,q3,l1,t0,t1,r1,r2,r3,r4,Nat.zero_add,Nat.reduceMul,Nat.reduceAdd,b1,b2,b3,b4,b5,b6,i1,i2,i3,i4,i5,i6,Nat.reduceBEq,List.set_cons_zero,List.set_cons_succ,Nat.reduceEqDiff,reduceIte,if_true,if_false,ptL_kill,poL_kill,kills_map ptE,kills_map poE,kills_map ratE,ratL_kill,spL_kill,LV.kill,kills];exact rfl):p:=e.mpr k
end H_c_SMul
open H_c_SMul in
theorem c_SMul (a b:Rat × Rat) (R:Nat) (hR:R≤1000000000) (ha:bdS R a) (hb:bdS R b):CallP Tryz.prog 171 [spL a,spL b] (spL (muS a b)):=by
 obtain⟨a1,a2⟩:=ha
 obtain⟨y1,y2⟩:=hb
 have m11:=rl_mul a.1 b.1
 have m12:=rl_mul a.1 b.2
 have m21:=rl_mul a.2 b.1
 have m22:=rl_mul a.2 b.2
 have hP:∀ x:Rat,rl x≤2*R→bdS (2*R) (x,x):=fun x hx=>⟨hx,hx⟩
 have c0:=hP (a.1*b.1) (by omega)
 have c1:=hul_bd c0 (hP (a.1*b.2) (by omega))
 have c2:=hul_bd c1 (hP (a.2*b.1) (by omega))
 obtain⟨d1,d2⟩:=c1
 obtain⟨f1,f2⟩:=c2
 refine fnP Tryz.func171 ?_
 refine zg13 ?_
 refine cp am2 (c_RMul a.1 b.1 (by omega)) ?_
 refine cp am1 (c_SPoint (a.1*b.1) (by omega)) ?_
 refine zg27 ?_
 refine wl_unroll ?_
 refine zg6 ?_
 refine wl_condX (b:=_) rfl (by decide) ?_
 refine zg11 ?_
 refine wl_regD 8 (by decide +kernel) ?_
 refine zg5 ?_
 refine cp am2 (c_RMul a.1 b.2 (by omega)) ?_
 refine cp am1 (c_SPoint (a.1*b.2) (by omega)) ?_
 refine cp am2 (c_SHull ((a.1*b.1),(a.1*b.1)) ((a.1*b.2),(a.1*b.2)) (by show rl (a.1*b.1)+rl (a.1*b.2)≤_;omega) (by show rl (a.1*b.1)+rl (a.1*b.2)≤_;omega)) ?_
 refine zg4 ?_
 refine wl_regW (Weak.kill _ 7) ?_
 refine zg4 ?_
 refine wl_unroll ?_
 refine zg6 ?_
 refine wl_condX (b:=_) rfl (by decide) ?_
 refine zg11 ?_
 refine wl_regD 8 (by decide +kernel) ?_
 refine zg5 ?_
 refine cp am2 (c_RMul a.2 b.1 (by omega)) ?_
 refine cp am1 (c_SPoint (a.2*b.1) (by omega)) ?_
 refine cp am2 (c_SHull (hulP ((a.1*b.1),(a.1*b.1)) ((a.1*b.2),(a.1*b.2))) ((a.2*b.1),(a.2*b.1)) (by show _+rl (a.2*b.1)≤_;omega) (by show _+rl (a.2*b.1)≤_;omega)) ?_
 refine zg4 ?_
 refine wl_regW (Weak.kill _ 7) ?_
 refine zg4 ?_
 refine wl_unroll ?_
 refine zg6 ?_
 refine wl_condX (b:=_) rfl (by decide) ?_
 refine zg11 ?_
 refine wl_regD 8 (by decide +kernel) ?_
 refine zg5 ?_
 refine cp am2 (c_RMul a.2 b.2 (by omega)) ?_
 refine cp am1 (c_SPoint (a.2*b.2) (by omega)) ?_
 refine cp am2 (c_SHull (hulP (hulP ((a.1*b.1),(a.1*b.1)) ((a.1*b.2),(a.1*b.2))) ((a.2*b.1),(a.2*b.1))) ((a.2*b.2),(a.2*b.2)) (by show _+rl (a.2*b.2)≤_;omega) (by show _+rl (a.2*b.2)≤_;omega)) ?_
 refine zg4 ?_
 refine wl_regW (Weak.kill _ 7) ?_
 refine zg4 ?_
 refine wl_unroll ?_
 refine zg6 ?_
 refine wl_condY (b:=_) rfl (by decide) ?_
 refine zg12 ?_
 exact retC [] rfl rfl rfl (spE.csize _) (spL_all _) T50 (.pure (spE.pure _))
open H0 in
theorem c_SHas (s:Rat × Rat) (x:Rat) (h1:rl s.1+rl x≤549755813888) (h2:rl x+rl s.2≤549755813888):CallP Tryz.prog 92 [spL s,ratL x] (bL (hasR s x)):=by
 refine fnP Tryz.func92 ?_
 refine zg12 ?_
 refine cp am2 (c_RCmp _ _ (by omega)) ?_
 refine zg2 ?_
 refine op_if 10 rfl (fun h10r h10=>?_) (fun h10r h10=>?_)
 ·refine zg3 ?_
  refine cp am2 (c_RCmp _ _ (by omega)) ?_
  refine zg6 ?_
  rw [←has1 h10r]
  exact ret1 rfl (by first | exact .pure rfl | exact .pure (limL_pure _) | exact .pure (magL_pure _) | exact .pure (ratE.pure _) | exact .pure (pure_lst u32E _ _) | exact .pure (pure_lst ratE _ _))
 ·refine zg10 ?_
  rw [←has2 h10r]
  exact ret1 rfl (by first | exact .pure rfl | exact .pure (limL_pure _) | exact .pure (magL_pure _) | exact .pure (ratE.pure _) | exact .pure (pure_lst u32E _ _) | exact .pure (pure_lst ratE _ _))
namespace H_c_SSqr
theorem zSm {p q:Prop} (k:q) (e:p=q:=by simp only [e1,e2,e3,e4,p1,p2,p3,q1,q2,q3,l1,t0,t1,r1,r2,r3,r4,Nat.zero_add,Nat.reduceMul,Nat.reduceAdd,b1,b2,b3,b4,b5,b6,i1,i2,i3,i4,i5,i6,Nat.reduceBEq,List.set_cons_zero,List.set_cons_succ,Nat.reduceEqDiff,reduceIte,if_true,if_false,ptL_kill,poL_kill,kills_map ptE,kills_map poE,kills_map ratE,ratL_kill,spL_kill,LV.kill,kills];exact rfl):p:=e.mpr k
end H_c_SSqr
open H_c_SSqr in
theorem c_SSqr (s:Rat × Rat) (R:Nat) (hR:R≤1000000000) (ha:bdS R s):CallP Tryz.prog 158 [spL s] (spL (sqS s)):=by
 obtain⟨a1,a2⟩:=ha
 have m1:=rl_mul s.1 s.1
 have m2:=rl_mul s.2 s.2
 have h0:rl 0=1:=rfl
 refine fnP Tryz.func158 ?_
 refine zg7 ?_
 refine wl_regD 12 (by decide +kernel) ?_
 refine zg4 ?_
 refine cp am2 (c_RMul s.1 s.1 (by omega)) ?_
 refine zg4 ?_
 refine cp am2 (c_RMul s.2 s.2 (by omega)) ?_
 refine cp am2 (c_SOf (s.1*s.1) (s.2*s.2) (by omega)) ?_
 refine zg8 ?_
 refine st_pure rfl (.build0 SL32 Z32a) ?_
 refine cp am2 (c_SHas s 0 (by omega) (by omega)) ?_
 refine zg2 ?_
 refine wl_if rfl (fun h17r h17=>?_) (fun h17r h17=>?_)
 ·have hS:sqS s=(0,mxR (s.1*s.1) (s.2*s.2)):=if_pos h17
  refine zg1 ?_
  refine st_pure rfl (.build0 SL32 Z32a) ?_
  refine zg11 ?_
  rw [hS]
  exact retC [] rfl rfl rfl (spE.csize _) (spL_all _) T50 (.pure (spE.pure _))
 ·have hS:sqS s=(mnR (s.1*s.1) (s.2*s.2),mxR (s.1*s.1) (s.2*s.2)):=if_neg (by rw [h17];decide)
  refine zg9 ?_
  rw [hS]
  exact retC [] rfl rfl rfl (spE.csize _) (spL_all _) T50 (.pure (spE.pure _))
namespace H_c_SQuo
theorem zSm {p q:Prop} (k:q) (e:p=q:=by simp only [e1,e2,e3,e4,p1,p2,p3,q1,q2,q3,l1,t0,t1,r1,r2,r3,r4,Nat.zero_add,Nat.reduceMul,Nat.reduceAdd,b1,b2,b3,b4,b5,b6,i1,i2,i3,i4,i5,i6,Nat.reduceBEq,List.set_cons_zero,List.set_cons_succ,Nat.reduceEqDiff,reduceIte,if_true,if_false,ptL_kill,poL_kill,kills_map ptE,kills_map poE,kills_map ratE,ratL_kill,spL_kill,LV.kill,kills];exact rfl):p:=e.mpr k
end H_c_SQuo
open H_c_SQuo in
theorem c_SQuo (a b:Rat × Rat) (R:Nat) (hR:R≤100000000) (ha:bdS R a) (hb:bdS R b) (hz:hasR b 0=false):CallP Tryz.prog 162 [spL a,spL b] (.tup [spL (quS a b),iL 0]):=by
 have ha2:=ha.le (Nat.le_succ R)
 have hrc:=rc_bd hb
 obtain⟨y1,y2⟩:=hb
 have h0:rl 0=1:=rfl
 have hr1:rl 1=1:=rfl
 have qd1:=rl_div 1 b.1
 have qd2:=rl_div 1 b.2
 have h1c:CallP Tryz.prog 224 [iL 1] (ratL 1):=c_RInt 1 (by decide) (by decide)
 have hq1:=c_RQuo 1 b.1 (by omega)
 have hq2:=c_RQuo 1 b.2 (by omega)
 refine fnP Tryz.func162 (ht:=(tame2 (spE.pure _) rfl)) ?_
 refine zg12 ?_
 refine st_pure rfl (.build0 SL32 Z32a) ?_
 refine cp am2 (c_SHas b 0 (by omega) (by omega)) ?_
 refine zg2 ?_
 refine wl_if rfl (fun h13r h13=>?_) (fun h13r h13=>?_)
 ·rw [hz] at h13r
  cases h13r
 ·refine zg4 ?_
  refine cp am1 (h1c) ?_
  refine zg9 ?_
  refine cp am2 (hq1) ?_
  refine zg13 ?_
  refine cp am2 (hq2) ?_
  refine zg9 ?_
  refine wl_regD 5 (by decide +kernel) ?_
  refine zg3 ?_
  refine cp am2 (c_SOf (1/b.1) (1/b.2) (by omega)) ?_
  refine cp am2 (c_SMul a (rcS b) (R+1) (by omega) ha2 hrc) ?_
  refine zg5 ?_
  exact retCT [] rfl rfl rfl (spE.csize _) (spL_all _) T50 (.pure (spE.pure _)) rfl (.pure rfl)
def d3V (l:List Int) (k:Nat):V3:=⟨(nbV l k).1,(nbV l (nbV l k).2).1,(nbV l (nbV l (nbV l k).2).2).1⟩
def d3K (l:List Int) (k:Nat):Nat:=(nbV l (nbV l (nbV l k).2).2).2
def dwV (l:List Int) (k:Nat):Rat:=((1+(nxV l k 3).tmod 3:Int):Rat)
def dpV (l:List Int) (k:Nat):PoR:=⟨d3V l k,dwV l (d3K l k)⟩
def dpK (l:List Int) (k:Nat):Nat:=nxK l (d3K l k)
def dqK (l:List Int):Nat→Nat→Nat
 | k,0=>k
 | k,c+1=>dqK l (dpK l k) c
def dtV (l:List Int) (k:Nat):Rat:=((nxV l k 4-2:Int):Rat)
def cD (l:List Int) (k:Nat) (n:Nat):Nat:=(1+nxV l k (n:Int)).toNat
section
variable {P:Program} {H:Heap} {ρ:Operand→LV} {T:TypeId}
theorem bdPo {o0 o1:Operand} {p:V3} {r:Rat} [z:ZI P T (.agg [.agg [ratL 0,ratL 0,ratL 0],ratL 0])] [s:SI P T [(9,true),(3,true)]] (h0:ρ o0=ptL p) (h1:ρ o1=ratL r) :
  OpP P H ρ (.build T #[(0,o0),(1,o1)]) (poL ⟨p,r⟩):=by
 have:=OpP.bd (H:=H) (ρ:=ρ) (ps:=#[(0,o0),(1,o1)]) (z:=z) (s:=s) (by simp [lay,LV.csize,csizes,ratE.csize,ratE.isAgg,isAgg_agg]) (by
  intro q hq
  simp only [List.mem_cons,List.not_mem_nil,or_false] at hq
  rcases hq with rfl | rfl
  ·exact⟨_,rfl,by rw [h0];simp [lay,ptE.csize,LV.csize,csizes,ratE.csize];rfl,by rw [h0];exact LV.pure_ne_any (ptE.pure _),by rw [h0];exact LV.pure_ne_tup (ptE.pure _)⟩
  ·exact⟨_,rfl,by rw [h1];simp [lay,ratE.csize,ratE.isAgg],by rw [h1];exact LV.pure_ne_any (ratE.pure _),by rw [h1];exact LV.pure_ne_tup (ratE.pure _)⟩)
 simp only [buildL,List.map,List.foldl,List.set,h0,h1] at this
 exact this
end
theorem gD1 {a b:List Rat} {i:Nat} (h:i<a.length):(a++b).getD i 0=a.getD i 0:=by
 rw [List.getD_eq_getElem?_getD,List.getD_eq_getElem?_getD,List.getElem?_append_left h]
theorem gD2 {a b:List Rat} {i:Nat} (h:a.length≤i):(a++b).getD i 0=b.getD (i-a.length) 0:=by
 rw [List.getD_eq_getElem?_getD,List.getD_eq_getElem?_getD,List.getElem?_append_right h]
theorem getD_rep {n i:Nat} {T:Rat} (h:i<n):(List.replicate n T).getD i 0=T:=by
 rw [List.getD_eq_getElem?_getD,List.getElem?_eq_getElem (by simpa using h)];simp
theorem tm_rep (a b:List Rat) (t:Rat):∀ i,i≤a.length→tmN (a++b) t i=tmN a t i
 | 0,_=>rfl
 | i+1,h=>by rw [tmN,tmN,tm_rep a b t i (by omega),gD1 (by omega)]
theorem tm_app (a b:List Rat) (t:Rat):∀ i,tmN (a++b) t (a.length+i)=tmN a t a.length+tmN b t i
 | 0=>by rw [Nat.add_zero,tm_rep _ _ _ _ (Nat.le_refl _)];rfl
 | i+1=>by
  rw [←Nat.add_assoc,tmN,tm_app a b t i,tmN,gD2 (by omega),Nat.add_sub_cancel_left];omega
theorem tm_const (n:Nat) (T t:Rat):∀ i,i≤n→tmN (List.replicate n T) t i=if T=t then i else 0
 | 0,_=>by split<;>rfl
 | i+1,h=>by
  rw [tmN,tm_const n T t i (by omega),getD_rep (by omega)]
  split<;>rfl
theorem any_ff {α:Type} (l:List α):l.any (fun _=>false)=false:=by simp
open H0 in
theorem c_SWidth (s:Rat × Rat) (h:rl s.2+rl s.1≤549755813888):CallP Tryz.prog 137 [spL s] (ratL (s.2-s.1)):=by
 refine fnP Tryz.func137 ?_
 refine zg12 ?_
 refine cp am2 (c_RSub s.2 s.1 h) ?_
 refine zg4 ?_
 exact retC [] rfl rfl rfl (ratE.csize _) (ratL_all _) T32 (.pure (ratE.pure _))
section
variable {P:Program} {H:Heap} {ρ:Operand→LV} {T E:TypeId}
theorem bdW {o1:Operand} {r:Rat} [z:ZI P T (.agg [.agg [ratL 0,ratL 0,ratL 0],ratL 0])] [s:SI P T [(9,true),(3,true)]] (h1:ρ o1=ratL r) :
  OpP P H ρ (.build T #[(1,o1)]) (poL ⟨⟨0,0,0⟩,r⟩):=by
 have:=OpP.bd (H:=H) (ρ:=ρ) (ps:=#[(1,o1)]) (z:=z) (s:=s) (by simp [lay,LV.csize,csizes,ratE.csize,ratE.isAgg,isAgg_agg]) (by
  intro q hq
  simp only [List.mem_cons,List.not_mem_nil,or_false] at hq
  subst hq
  exact⟨_,rfl,by rw [h1];simp [lay,ratE.csize,ratE.isAgg],by rw [h1];exact LV.pure_ne_any (ratE.pure _),by rw [h1];exact LV.pure_ne_tup (ratE.pure _)⟩)
 simp only [buildL,List.map,List.foldl,List.set,h1] at this
 exact this
end
namespace H_c_Unit0
theorem zSm {p q:Prop} (k:q) (e:p=q:=by simp only [e1,e2,e3,e4,p1,p2,p3,q1,q2,q3,l1,t0,t1,r1,r2,r3,r4,Nat.zero_add,Nat.reduceMul,Nat.reduceAdd,b1,b2,b3,b4,b5,b6,i1,i2,i3,i4,i5,i6,Nat.reduceBEq,List.set_cons_zero,List.set_cons_succ,Nat.reduceEqDiff,reduceIte,if_true,if_false,ptL_kill,poL_kill,kills_map ptE,kills_map poE,kills_map ratE,ratL_kill,spL_kill,LV.kill,kills];exact rfl):p:=e.mpr k
end H_c_Unit0
open H_c_Unit0 in
theorem c_Unit0 :CallP Tryz.prog 29 [iL 0] (ptL ⟨1,0,0⟩):=by
 have h1:CallP Tryz.prog 20 [iL 1] (ratL 1):=c_FInt 1 (by decide) (by decide)
 refine fnP Tryz.func29 (ht:=(fun r=>LV.ren_pure r _ (ptE.pure _))) ?_
 refine zg13 ?_
 refine cp am1 (h1) ?_
 refine zg11 ?_
 exact retC [] rfl rfl rfl cs (at_all cs rfl) T56 (.pure pu)
namespace H_c_Unit1
theorem zSm {p q:Prop} (k:q) (e:p=q:=by simp only [e1,e2,e3,e4,p1,p2,p3,q1,q2,q3,l1,t0,t1,r1,r2,r3,r4,Nat.zero_add,Nat.reduceMul,Nat.reduceAdd,b1,b2,b3,b4,b5,b6,i1,i2,i3,i4,i5,i6,Nat.reduceBEq,List.set_cons_zero,List.set_cons_succ,Nat.reduceEqDiff,reduceIte,if_true,if_false,ptL_kill,poL_kill,kills_map ptE,kills_map poE,kills_map ratE,ratL_kill,spL_kill,LV.kill,kills];exact rfl):p:=e.mpr k
end H_c_Unit1
open H_c_Unit1 in
theorem c_Unit1 :CallP Tryz.prog 29 [iL 1] (ptL ⟨0,1,0⟩):=by
 have h1:CallP Tryz.prog 20 [iL 1] (ratL 1):=c_FInt 1 (by decide) (by decide)
 refine fnP Tryz.func29 (ht:=(fun r=>LV.ren_pure r _ (ptE.pure _))) ?_
 refine zg13 ?_
 refine cp am1 (h1) ?_
 refine zg11 ?_
 exact retC [] rfl rfl rfl cs (at_all cs rfl) T56 (.pure pu)
theorem bdP0 {P:Program} {H:Heap} {ρ:Operand→LV} {T E:TypeId} [u:UN P T (.array 3 E)] [t:TI P E 3 true] [z:ZI P T (.agg [ratL 0,ratL 0,ratL 0])]:OpP P H ρ (.build T #[]) (ptL ⟨0,0,0⟩) :=
 OpP.bda (H:=H) (ρ:=ρ) (ps:=#[]) (u:=u) (t:=t) (z:=z) (by simp [lay,ratE.csize,ratE.isAgg]) (fun q hq=>by simp at hq)
theorem bnd_le12 {p:List Rat} (h:0<p.length):(bndP p).1≤(bndP p).2:=by
 have:=(bk_spec p p.length).1 0 h
 exact Rat.le_trans this.1 this.2
theorem sq_pos {s:Rat × Rat} (h:0<s.1) (h2:s.1≤s.2):sqS s=(s.1*s.1,s.2*s.2)∧hasR (sqS s) 0=false:=by
 have hn:hasR s 0=false:=by unfold hasR;rw [decide_eq_false (by grind)];rfl
 have hm:s.1*s.1≤s.2*s.2:=Rat.le_trans (Rat.mul_le_mul_of_nonneg_left h2 (Rat.le_of_lt h)) (Rat.mul_le_mul_of_nonneg_right h2 (by grind))
 have hp:=Rat.mul_pos h h
 have e:sqS s=(s.1*s.1,s.2*s.2):=by
  unfold sqS
  rw [if_neg (by rw [hn];decide)]
  unfold mnR mxR
  rw [if_neg (by grind)]
  split
  ·rfl
  ·have:s.1*s.1=s.2*s.2:=by grind
   rw [this]
 refine⟨e,?_⟩
 rw [e]
 unfold hasR
 rw [decide_eq_false (by show ¬(s.1*s.1≤0);grind)];rfl
section
variable {po:List PoR} {d:Nat} (h:cvF po d)
include h
end
theorem subNN {a b c:Nat} (h:a=b+c) (h2:a≤9223372036854775807):binI .sub .i64 (a:Nat) (b:Nat)=some (.int .i64 ((c:Nat):Int)):=by
 rw [sub64 (by omega) (by omega)];congr 2;omega
def bxN (l:List V3) (k:Nat):Nat→Rat × Rat
 | 0=>((l.getD 0 default).at k,(l.getD 0 default).at k)
 | j+1=>hulP (bxN l k j) ((l.getD (j+1) default).at k,(l.getD (j+1) default).at k)
def bxP (l:List V3):Bx3:=⟨bxN l 0 (l.length-1),bxN l 1 (l.length-1),bxN l 2 (l.length-1)⟩
theorem bxN_bd {l:List V3} {R:Nat} (h:∀ i,i<l.length→bd3 R (l.getD i default)) (k:Nat):∀ n,n<l.length→bdS R (bxN l k n)
 | 0,hn=>⟨at_rl (h 0 hn) k,at_rl (h 0 hn) k⟩
 | n+1,hn=>hul_bd (bxN_bd h k n (by omega)) ⟨at_rl (h _ hn) k,at_rl (h _ hn) k⟩
section
variable {po:List PoR} {d:Nat} (h:cvF po d)
include h
end
section
variable {po:List PoR} {d:Nat} (h:cvF po d)
include h
end
theorem fE_rl {a b:Rat}:∀ (n:Nat) (c:Nat→Rat) (R:Nat),(∀ i,rl (c i)≤R)→rl (fE a b n c)≤(R+(rl a+rl b+1))*2 ^ n
 | 0,c,R,h=>by
  have:=h 0
  show rl (c 0)≤_
  omega
 | n+1,c,R,h=>by
  have:=fE_rl (a:=a) (b:=b) n (fun i=>a*c i+b*c (i+1)) (2*R+(rl a+rl b+1)) (fun i=>by
   have h0:=h i
   have h1:=h (i+1)
   have m0:=rl_mul a (c i)
   have m1:=rl_mul b (c (i+1))
   have s0:=rl_add (a*c i) (b*c (i+1))
   omega)
  rw [fE]
  refine Nat.le_trans this ?_
  rw [Nat.pow_succ,Nat.mul_comm (2 ^ n) 2,←Nat.mul_assoc]
  exact Nat.mul_le_mul_right _ (by omega)
theorem ev_rl {p:List Rat} {t:Rat} {R:Nat} (hl:0<p.length) (hR:1≤R) (h:∀ x∈p,rl x≤R):rl (evP p t)≤(R+(rl (1-t)+rl t+1))*2 ^ (p.length-1):=by
 rw [ev_fE hl]
 exact fE_rl _ _ R (fun i=>getD_rl hR h i)
theorem fz0 (bs:List Nat):frzH bs []=[]:=rfl
def sS (t:Rat) (f:Nat→Rat):Nat→Rat:=fun i=>(1-t)*f i+t*f (i+1)
def sI (t:Rat):Nat→(Nat→Rat)→(Nat→Rat)
 | 0,f=>f
 | n+1,f=>sI t n (sS t f)
structure cvR (po:List PoR) (d R:Nat):Prop where
 hl:po.length=d+1
 hd:1≤d
 h6:d≤6
 ok:∀ q∈po,okP R q
theorem cvF.r {po:List PoR} {d:Nat} (h:cvF po d):cvR po d 1:=⟨h.hl,h.hd,h.h6,h.ok⟩
section
variable {po:List PoR} {d R:Nat} (h:cvR po d R) {x y:Rat} (hx0:0≤x) (hx1:x<1) (hy0:0≤y) (hy1:y≤1)
include h
include hx1
include hx0 hy0 hy1
end
theorem hul_call {f:Nat} (hc:∀ s t:Rat × Rat,rl s.1+rl t.1≤34359738368→rl s.2+rl t.2≤34359738368→CallP Tryz.prog f [spL s,spL t] (spL (hulP s t))) {l:List V3} {R:Nat} (hR:R≤1000000) (hb:∀ i,i<l.length→bd3 R (l.getD i default)) (k j:Nat) (hj:j+1<l.length) :
  CallP Tryz.prog f [spL (bxN l k j),spL ((l.getD (j+1) default).at k,(l.getD (j+1) default).at k)] (spL (bxN l k (j+1))):=by
 have q:=bxN_bd hb k j (by omega)
 have g:=at_rl (hb (j+1) hj) k
 have h1:R+R≤34359738368:=by omega
 exact hc _ _ (Nat.le_trans (Nat.add_le_add q.1 g) h1) (Nat.le_trans (Nat.add_le_add q.2 g) h1)
theorem bxcs:(LV.agg [.agg [ratL 0,ratL 0],.agg [ratL 0,ratL 0],.agg [ratL 0,ratL 0]]).csize=18:=by simp [LV.csize,csizes,ratE.csize]
theorem bxcs2 (a b c:Rat × Rat):(LV.agg [spL a,spL b,spL c]).csize=18:=bxE.csize ⟨a,b,c⟩
theorem dr1 (l:List V3) (j:Nat):(l.drop 1).getD j default=l.getD (j+1) default:=by
 rw [List.getD_eq_getElem?_getD,List.getD_eq_getElem?_getD,List.getElem?_drop,Nat.add_comm]
namespace H_c_VBoxOf
theorem zSm {p q:Prop} (k:q) (e:p=q:=by simp only [e1,e2,e3,e4,p1,p2,p3,q1,q2,q3,l1,t0,t1,r1,r2,r3,r4,Nat.zero_add,Nat.reduceMul,Nat.reduceAdd,b1,b2,b3,b4,b5,b6,i1,i2,i3,i4,i5,i6,Nat.reduceBEq,bxcs,bxcs2,dr1,dfq,List.length_drop,List.length_map,List.set_cons_zero,List.set_cons_succ,Nat.reduceEqDiff,reduceIte,if_true,if_false,ptL_kill,poL_kill,kills_map ptE,kills_map poE,kills_map ratE,ratL_kill,spL_kill,LV.kill,kills];exact rfl):p:=e.mpr k
end H_c_VBoxOf
open H_c_VBoxOf in
theorem c_VBoxOf (l:List V3) (h0:0<l.length) (hl:l.length≤1000) (R:Nat) (hR:R≤1000000) (hb:∀ i,i<l.length→bd3 R (l.getD i default)):CallP Tryz.prog 88 [.list 9 (l.map ptL)] (.tup [bxL (bxP l),iL 0]):=by
 obtain⟨z1,z2,z3⟩:=hb 0 h0
 refine fnP Tryz.func88 (ht:=(tame2 (bxE.pure _) rfl)) ?_
 refine zg19 ?_
 refine wl_if rfl (fun h10r h10=>?_) (fun h10r h10=>?_)
 ·omega
 ·refine zg9 ?_
  refine wl_unroll ?_
  refine zg6 ?_
  refine wl_condX (b:=_) rfl (by decide) ?_
  refine zg18 ?_
  refine cp am1 (c_SPoint (l.getD 0 default).x (by omega)) ?_
  refine zg7 ?_
  refine st_pure rfl (.sliceLl (a:=1) ptE rfl Tryz.underlying162 T56 rfl om) ?_
  refine zg5 ?_
  refine lp1 (fun(j:Nat) L=>(((((((((St.mk L.slot (hp [(2,⟨18,[.agg [.agg [ratL 0,ratL 0],.agg [ratL 0,ratL 0],.agg [ratL 0,ratL 0]]],true⟩),(4,⟨18,[.agg [spL (bxN l 0 j),.agg [ratL 0,ratL 0],.agg [ratL 0,ratL 0]]],true⟩)])).put (some 0) (.list 9 (l.map ptL))).put (some 2) (.eptr 2 18 0 0)).put (some 4) (.eptr 4 18 0 0)).put (some 5) (iL 0)).put (some 12) (iL 0)).put (some 24) (.list 9 ((l.drop 1).map ptL))).put (some 25) (nI64 (l.length-1))).put (some 26) (nI64 j))) (fun j=>j≤l.length-1) (fun j=>l.length-1-j) 0 (Nat.zero_le _) ?_
  rintro j L2 hj
  refine zg6 ?_
  refine wl_if rfl (fun h27r h27=>?_) (fun h27r h27=>?_)
  ·have hj2:j<l.length-1:=by omega
   obtain⟨g1,g2,g3⟩:=hb (j+1) (by omega)
   have hH0:CallP Tryz.prog 157 [spL (bxN l 0 j),spL ((l.getD (j+1) default).x,(l.getD (j+1) default).x)] (spL (bxN l 0 (j+1))):=hul_call (fun s t h1 h2=>c_SHull s t (by omega) (by omega)) hR hb 0 j (by omega)
   refine zg12 ?_
   refine wl_regD 10 (by decide +kernel) ?_
   refine zg7 ?_
   refine cp am1 (c_SPoint (l.getD (j+1) default).x (by omega)) ?_
   refine cp am2 (hH0) ?_
   refine zg5 ?_
   refine wl_regW (Weak.kill _ 7) ?_
   refine st_pure rfl (.bin rfl rfl (add1N (by omega))) ?_
   refine zg3 ?_
   exact nx1 (j+1) (by omega)
  ·obtain rfl:j=l.length-1:=by omega
   refine zg11 ?_
   refine wl_unroll ?_
   refine zg6 ?_
   refine wl_condX (b:=_) rfl (by decide) ?_
   refine zg18 ?_
   refine cp am1 (c_SPoint (l.getD 0 default).y (by omega)) ?_
   refine zg7 ?_
   refine st_pure rfl (.sliceLl (a:=1) ptE rfl Tryz.underlying162 T56 rfl om) ?_
   refine zg5 ?_
   refine lp1 (fun(j:Nat) L=>(((((((((St.mk L.slot (hp [(2,⟨18,[.agg [.agg [ratL 0,ratL 0],.agg [ratL 0,ratL 0],.agg [ratL 0,ratL 0]]],true⟩),(4,⟨18,[.agg [spL (bxN l 0 (l.length-1)),spL (bxN l 1 j),.agg [ratL 0,ratL 0]]],true⟩)])).put (some 0) (.list 9 (l.map ptL))).put (some 2) (.eptr 2 18 0 0)).put (some 4) (.eptr 4 18 0 0)).put (some 5) (iL 1)).put (some 12) (iL 1)).put (some 24) (.list 9 ((l.drop 1).map ptL))).put (some 25) (nI64 (l.length-1))).put (some 26) (nI64 j))) (fun j=>j≤l.length-1) (fun j=>l.length-1-j) 0 (Nat.zero_le _) ?_
   rintro j L2 hj
   refine zg6 ?_
   refine wl_if rfl (fun h27r h27=>?_) (fun h27r h27=>?_)
   ·have hj2:j<l.length-1:=by omega
    obtain⟨g1,g2,g3⟩:=hb (j+1) (by omega)
    have hH1:CallP Tryz.prog 157 [spL (bxN l 1 j),spL ((l.getD (j+1) default).y,(l.getD (j+1) default).y)] (spL (bxN l 1 (j+1))):=hul_call (fun s t h1 h2=>c_SHull s t (by omega) (by omega)) hR hb 1 j (by omega)
    refine zg12 ?_
    refine wl_regD 10 (by decide +kernel) ?_
    refine zg7 ?_
    refine cp am1 (c_SPoint (l.getD (j+1) default).y (by omega)) ?_
    refine cp am2 (hH1) ?_
    refine zg5 ?_
    refine wl_regW (Weak.kill _ 7) ?_
    refine st_pure rfl (.bin rfl rfl (add1N (by omega))) ?_
    refine zg3 ?_
    exact nx1 (j+1) (by omega)
   ·obtain rfl:j=l.length-1:=by omega
    refine zg11 ?_
    refine wl_unroll ?_
    refine zg6 ?_
    refine wl_condX (b:=_) rfl (by decide) ?_
    refine zg18 ?_
    refine cp am1 (c_SPoint (l.getD 0 default).z (by omega)) ?_
    refine zg7 ?_
    refine st_pure rfl (.sliceLl (a:=1) ptE rfl Tryz.underlying162 T56 rfl om) ?_
    refine zg5 ?_
    refine lp1 (fun(j:Nat) L=>(((((((((St.mk L.slot (hp [(2,⟨18,[.agg [.agg [ratL 0,ratL 0],.agg [ratL 0,ratL 0],.agg [ratL 0,ratL 0]]],true⟩),(4,⟨18,[.agg [spL (bxN l 0 (l.length-1)),spL (bxN l 1 (l.length-1)),spL (bxN l 2 j)]],true⟩)])).put (some 0) (.list 9 (l.map ptL))).put (some 2) (.eptr 2 18 0 0)).put (some 4) (.eptr 4 18 0 0)).put (some 5) (iL 2)).put (some 12) (iL 2)).put (some 24) (.list 9 ((l.drop 1).map ptL))).put (some 25) (nI64 (l.length-1))).put (some 26) (nI64 j))) (fun j=>j≤l.length-1) (fun j=>l.length-1-j) 0 (Nat.zero_le _) ?_
    rintro j L2 hj
    refine zg6 ?_
    refine wl_if rfl (fun h27r h27=>?_) (fun h27r h27=>?_)
    ·have hj2:j<l.length-1:=by omega
     obtain⟨g1,g2,g3⟩:=hb (j+1) (by omega)
     have hH2:CallP Tryz.prog 157 [spL (bxN l 2 j),spL ((l.getD (j+1) default).z,(l.getD (j+1) default).z)] (spL (bxN l 2 (j+1))):=hul_call (fun s t h1 h2=>c_SHull s t (by omega) (by omega)) hR hb 2 j (by omega)
     refine zg12 ?_
     refine wl_regD 10 (by decide +kernel) ?_
     refine zg7 ?_
     refine cp am1 (c_SPoint (l.getD (j+1) default).z (by omega)) ?_
     refine cp am2 (hH2) ?_
     refine zg5 ?_
     refine wl_regW (Weak.kill _ 7) ?_
     refine st_pure rfl (.bin rfl rfl (add1N (by omega))) ?_
     refine zg3 ?_
     exact nx1 (j+1) (by omega)
    ·obtain rfl:j=l.length-1:=by omega
     refine zg11 ?_
     refine wl_unroll ?_
     refine zg6 ?_
     refine wl_condY (b:=_) rfl (by decide) ?_
     refine zg13 ?_
     exact retCT [] rfl rfl rfl cs (at_all cs rfl) T92 (.pure pu) rfl (.pure rfl)
def kn2 (d:Nat) (a b:Rat):List Rat:=List.replicate (d+1) a++List.replicate (d+1) b
theorem kn2_len (d:Nat) (a b:Rat):(kn2 d a b).length=2*(d+1):=by simp [kn2];omega
theorem kn2_get (d:Nat) (a b:Rat) (i:Nat) (h:i<2*(d+1)):(kn2 d a b).getD i 0=if i<d+1 then a else b:=by
 unfold kn2
 split
 ·rw [gD1 (by simp;omega),getD_rep (by omega)]
 ·rw [gD2 (by simp;omega),List.length_replicate,getD_rep (by omega)]
theorem kn2_lo (d:Nat) (a b:Rat):(kn2 d a b).getD 0 0=a:=by rw [kn2_get _ _ _ _ (by omega),if_pos (by omega)]
theorem kn2_hi (d:Nat) (a b:Rat):(kn2 d a b).getD (2*(d+1)-1) 0=b:=by rw [kn2_get _ _ _ _ (by omega),if_neg (by omega)]
theorem kn2_rl {d:Nat} {a b:Rat} {R:Nat} (ha:rl a≤R) (hb:rl b≤R):∀ x∈kn2 d a b,rl x≤R:=fun x hx=>by
 rcases List.mem_append.1 hx with g | g
 ·rw [(List.mem_replicate.1 g).2];exact ha
 ·rw [(List.mem_replicate.1 g).2];exact hb
theorem mn_lt2 {a b:Rat} (h:a<b):mnR a b=a:=by unfold mnR;rw [if_neg (by grind)]
theorem mx_lt2 {a b:Rat} (h:a<b):mxR a b=b:=by unfold mxR;rw [if_pos h]
theorem hs_ofL {p:List Rat} {x:Rat} (hl:p.length≤7) (hp:∀ y∈p,rl y≤7000000) (hx:rl x≤100000):HS p x:=by
 have h1:=rl_sub 1 x
 have h0:rl 1=1:=rfl
 refine⟨rl (1-x)+rl x+1,Nat.le_refl _,by omega,fun y hy=>?_⟩
 have h2:=hp y hy
 have h3:2 ^ p.length≤2 ^ 7:=Nat.pow_le_pow_right (by decide) hl
 have h4:(rl y+(rl (1-x)+rl x+1))*2 ^ p.length≤8000000*2 ^ 7:=Nat.mul_le_mul (by omega) h3
 omega
theorem rep_crv2 (d sz:Nat) (x z:LV) (Z:Nat→Prop) (μ:Nat→Option Nat) (w:World) (cs:List Value) (h:Rep Z μ w (.agg [x,.v (.slice none 0 0),z]) cs):Rep Z μ w (.agg [x,.ref d sz 0 0,z]) cs:=by
 simp only [Rep,RepFs] at h ⊢
 obtain⟨c1,c2,e1,e2,e3,c3,c4,e4,e5,e6,c5,c6,e7,e8,e9,e10⟩:=h
 exact⟨c1,c2,e1,e2,e3,c3,c4,e4,e5,.inl ⟨e6.1,trivial⟩,c5,c6,e7,e8,e9,e10⟩
namespace H_c_Of2
theorem zSm {p q:Prop} (k:q) (e:p=q:=by simp only [e1,e2,e3,e4,p1,p2,p3,q1,q2,q3,l1,t0,t1,r1,r2,r3,r4,Nat.zero_add,Nat.reduceMul,Nat.reduceAdd,b1,b2,b3,b4,b5,b6,i1,i2,i3,i4,i5,i6,Nat.reduceBEq,List.set_cons_zero,List.set_cons_succ,Nat.reduceEqDiff,reduceIte,if_true,if_false,ptL_kill,poL_kill,kills_map ptE,kills_map poE,kills_map ratE,ratL_kill,spL_kill,LV.kill,kills];exact rfl):p:=e.mpr k
end H_c_Of2
open H_c_Of2 in
theorem c_Of2 (q:PoR) (R:Nat) (hR:R≤1000000) (h:okP R q):CallP Tryz.prog 215 [poL q] (.agg [ratL (q.w*q.p.x),ratL (q.w*q.p.y),ratL (q.w*q.p.z),ratL q.w]):=by
 obtain⟨⟨a1,a2,a3⟩,a4,_⟩:=h
 have hA:=c_RAdd q.w 0 (by have:rl 0=1:=rfl;omega)
 rw [Rat.add_zero] at hA
 refine fnP Tryz.func215 (ht:=(fun g=>LV.ren_pure g _ pu)) ?_
 refine zg20 ?_
 refine wl_unroll ?_
 refine zg6 ?_
 refine wl_condX (b:=_) rfl (by decide) ?_
 refine zg18 ?_
 refine cp am2 (c_RMul q.w q.p.x (by omega)) ?_
 refine zg5 ?_
 refine wl_regW (Weak.kill _ 5) ?_
 refine zg4 ?_
 refine wl_unroll ?_
 refine zg6 ?_
 refine wl_condX (b:=_) rfl (by decide) ?_
 refine zg18 ?_
 refine cp am2 (c_RMul q.w q.p.y (by omega)) ?_
 refine zg5 ?_
 refine wl_regW (Weak.kill _ 5) ?_
 refine zg4 ?_
 refine wl_unroll ?_
 refine zg6 ?_
 refine wl_condX (b:=_) rfl (by decide) ?_
 refine zg18 ?_
 refine cp am2 (c_RMul q.w q.p.z (by omega)) ?_
 refine zg5 ?_
 refine wl_regW (Weak.kill _ 5) ?_
 refine zg4 ?_
 refine wl_unroll ?_
 refine zg6 ?_
 refine wl_condY (b:=_) rfl (by decide) ?_
 refine zg9 ?_
 refine st_pure rfl (.build0 SL32 Z32a) ?_
 refine cp am2 (hA) ?_
 refine zg11 ?_
 exact retC [] rfl rfl rfl cs (at_all cs rfl) T198 (.pure pu)
namespace H_c_FourP
theorem zSm {p q:Prop} (k:q) (e:p=q:=by simp only [e1,e2,e3,e4,p1,p2,p3,q1,q2,q3,l1,t0,t1,r1,r2,r3,r4,Nat.zero_add,Nat.reduceMul,Nat.reduceAdd,b1,b2,b3,b4,b5,b6,i1,i2,i3,i4,i5,i6,Nat.reduceBEq,List.getD_cons_zero,List.set_cons_zero,List.set_cons_succ,Nat.reduceEqDiff,reduceIte,if_true,if_false,ptL_kill,poL_kill,kills_map ptE,kills_map poE,kills_map ratE,ratL_kill,spL_kill,LV.kill,kills];exact rfl):p:=e.mpr k
end H_c_FourP
open H_c_FourP in
theorem c_FourP (n0 n1 n2 w:Rat) (R:Nat) (hR:R≤1000000000) (h0:rl n0≤R) (h1:rl n1≤R) (h2:rl n2≤R) (hw:rl w≤R) (hpos:0<w):CallP Tryz.prog 144 [.agg [ratL n0,ratL n1,ratL n2,ratL w]] (poL ⟨⟨n0/w,n1/w,n2/w⟩,w⟩):=by
 have hA:=c_RAdd w 0 (by have:rl 0=1:=rfl;omega)
 rw [Rat.add_zero] at hA
 have hne:w≠0:=by grind
 have hQ0:CallP Tryz.prog 216 [ratL n0,ratL w] (.tup [ratL (n0/w),iL 0]):=by
  have:=c_RQuo n0 w (by omega)
  rwa [if_neg hne] at this
 have hQ1:CallP Tryz.prog 216 [ratL n1,ratL w] (.tup [ratL (n1/w),iL 0]):=by
  have:=c_RQuo n1 w (by omega)
  rwa [if_neg hne] at this
 have hQ2:CallP Tryz.prog 216 [ratL n2,ratL w] (.tup [ratL (n2/w),iL 0]):=by
  have:=c_RQuo n2 w (by omega)
  rwa [if_neg hne] at this
 refine fnP Tryz.func144 (ht:=(fun g=>LV.ren_pure g _ (poE.pure _))) ?_
 refine zg8 ?_
 try simp only [List.getD_cons_zero]
 refine zg2 ?_
 refine st_pure rfl (.build0 SL32 Z32a) ?_
 refine cp am2 (hA) ?_
 refine s0bd (bdW rfl) ?_
 refine zg11 ?_
 refine wl_unroll ?_
 refine zg6 ?_
 refine wl_condX (b:=_) rfl (by decide) ?_
 refine zg10 ?_
 refine wl_regF 12 [9] (by decide +kernel) ?_
 refine zg6 ?_
 refine cp am2 (hQ0) ?_
 refine zg14 ?_
 refine wl_unroll ?_
 refine zg6 ?_
 refine wl_condX (b:=_) rfl (by decide) ?_
 refine zg10 ?_
 refine wl_regF 12 [9] (by decide +kernel) ?_
 refine zg6 ?_
 refine cp am2 (hQ1) ?_
 refine zg14 ?_
 refine wl_unroll ?_
 refine zg6 ?_
 refine wl_condX (b:=_) rfl (by decide) ?_
 refine zg10 ?_
 refine wl_regF 12 [9] (by decide +kernel) ?_
 refine zg6 ?_
 refine cp am2 (hQ2) ?_
 refine zg14 ?_
 refine wl_unroll ?_
 refine zg6 ?_
 refine wl_condY (b:=_) rfl (by decide) ?_
 refine zg12 ?_
 exact retC [] rfl rfl rfl cs (at_all cs rfl) T122 (.pure pu)
theorem retMCT {P:Program} {L:St} {a:Nat} {T:TypeId} {b sz t:Nat} {x y x' y':LV} {m:Bool} {n:Nat} {ag:Bool} {blk:Blk} (h:L.slot a=.eptr b sz 0 0) (hb:L.heap b=some ⟨sz,[x],m⟩)
  (hx:x.csize=sz) (hat:x.at 0 n ag=some x) (hT:TyIs P T n ag) (hi:ArgM L.heap 0 x y) (h':L.slot t=x') (hi':ArgM L.heap 0 x' y') (hb0:L.heap 0=some blk) (hm:blk.mt=true) (hp:pures blk.vals=true):RetM P [.cell a T,.tmp t] L (.tup [y,y']) blk :=
 ⟨[x,x'],[y,y'],L.heap,.cons ⟨b,sz,0,0,_,x,n,ag,h,hb,rfl,rfl,hx,hat,hT⟩ (.cons h' .nil),Heap.le_refl _,.cons hi (.cons hi' .nil),hb0,hm,hp,rfl⟩
def bsj (f:Rat) (v:List Rat) (j:Nat):List Rat:=(List.range v.length).map fun i=>if j<i then v.getD (i-1) 0+f*(v.getD i 0-v.getD (i-1) 0) else v.getD i 0
theorem bsj_len (f:Rat) (v:List Rat) (j:Nat):(bsj f v j).length=v.length:=by simp [bsj]
theorem bsj_get (f:Rat) (v:List Rat) (j i:Nat) (h:i<v.length):(bsj f v j).getD i 0=if j<i then v.getD (i-1) 0+f*(v.getD i 0-v.getD (i-1) 0) else v.getD i 0:=by
 unfold bsj
 rw [List.getD_eq_getElem?_getD,List.getElem?_map,List.getElem?_range h]
 rfl
theorem rext {p q:List Rat} (h:p.length=q.length) (hg:∀ i,i<p.length→p.getD i 0=q.getD i 0):p=q:=by
 refine List.ext_getElem h fun i h1 h2=>?_
 have:=hg i h1
 rwa [List.getD_eq_getElem?_getD,List.getD_eq_getElem?_getD,List.getElem?_eq_getElem h1,List.getElem?_eq_getElem h2] at this
theorem bsj_top (f:Rat) (v:List Rat) (j:Nat) (h:v.length≤j+1):bsj f v j=v :=
 rext (bsj_len f v j) fun i hi=>by
  rw [bsj_len] at hi
  rw [bsj_get f v j i hi,if_neg (by omega)]
theorem bsj_set (f:Rat) (v:List Rat) (j:Nat) (h0:0<j) (h:j<v.length):(bsj f v j).set j (v.getD (j-1) 0+f*(v.getD j 0-v.getD (j-1) 0))=bsj f v (j-1) :=
 rext (by rw [List.length_set,bsj_len,bsj_len]) fun i hi=>by
  rw [List.length_set,bsj_len] at hi
  rw [bsj_get f v (j-1) i hi,List.getD_eq_getElem?_getD,List.getElem?_set]
  by_cases e:j=i
  ·subst e
   rw [if_pos rfl,if_pos (by rw [bsj_len];exact h),if_pos (by omega)];rfl
  ·rw [if_neg e,←List.getD_eq_getElem?_getD,bsj_get f v j i hi]
   by_cases g:j<i
   ·rw [if_pos g,if_pos (by omega)]
   ·rw [if_neg g,if_neg (by omega)]
def bfi (F:Rat→Rat) (args v:List Rat):Nat→List Rat
 | 0=>v
 | r+1=>bsj (F (args.getD r 0)) (bfi F args v r) r
theorem bfi_len (F:Rat→Rat) (args v:List Rat):∀ r,(bfi F args v r).length=v.length
 | 0=>rfl
 | r+1=>by rw [bfi,bsj_len,bfi_len F args v r]
theorem bsj_rl {f:Rat} {v:List Rat} {Q R:Nat} (hf:rl f≤Q) (hR:1≤R) (hv:∀ x∈v,rl x≤R) (j:Nat):∀ x∈bsj f v j,rl x≤3*R+Q+2:=fun x hx=>by
 obtain⟨i,hi,rfl⟩:=mem_getD hx
 rw [bsj_len] at hi
 rw [bsj_get f v j i hi]
 have a:=getD_rl hR hv i
 have b:=getD_rl hR hv (i-1)
 split
 ·have h1:=rl_sub (v.getD i 0) (v.getD (i-1) 0)
  have h2:=rl_mul f (v.getD i 0-v.getD (i-1) 0)
  have h3:=rl_add (v.getD (i-1) 0) (f*(v.getD i 0-v.getD (i-1) 0))
  omega
 ·omega
def bfS (Q R:Nat):Nat→Nat
 | 0=>R
 | r+1=>3*bfS Q R r+Q+2
theorem bfS_pos {Q R:Nat} (hR:1≤R):∀ r,1≤bfS Q R r
 | 0=>hR
 | r+1=>by have:=bfS_pos (Q:=Q) hR r;unfold bfS;omega
theorem bfS_mono {Q R:Nat} (hR:1≤R):∀ {r s},r≤s→bfS Q R r≤bfS Q R s
 | r,0,h=>by
         obtain rfl:r=0:=by omega
         exact Nat.le_refl _
 | r,s+1,h=>by
  rcases Nat.lt_or_ge s r with g | g
  ·obtain rfl:r=s+1:=by omega
   exact Nat.le_refl _
  ·have:=bfS_mono (Q:=Q) hR (r:=r) (s:=s) g
   show _≤3*bfS Q R s+Q+2
   omega
theorem bfi_rl {F:Rat→Rat} {args v:List Rat} {Q R:Nat} (hQ:∀ t∈args,rl (F t)≤Q) (hR:1≤R) (hv:∀ x∈v,rl x≤R):∀ r,r≤args.length→∀ x∈bfi F args v r,rl x≤bfS Q R r
 | 0,_=>hv
 | r+1,h=>bsj_rl (hQ _ (getD_mem (show r<args.length by omega))) (bfS_pos hR r) (bfi_rl hQ hR hv r (by omega)) r
def blo (d:Nat) (a b:Rat) (v args:List Rat):Rat:=(bfi (fun t=>(t-a)/(b-a)) args v d).getD d 0
theorem bsj_all0 (v:List Rat) (j i:Nat) (h:i<v.length) (hj:j<i):(bsj 0 v j).getD i 0=v.getD (i-1) 0:=by
 rw [bsj_get _ _ _ _ h,if_pos hj];grind
theorem bsj_one (v:List Rat) (j:Nat):bsj 1 v j=v:=rext (bsj_len _ _ _) fun i hi=>by
 rw [bsj_len] at hi
 rw [bsj_get _ _ _ _ hi];split<;>grind
theorem bfi_lo {a b:Rat} {args v:List Rat} (n:Nat) (hA:∀ r,r<n→args.getD r 0=a):∀ r,r≤n→∀ i,i<v.length→r≤i→(bfi (fun t=>(t-a)/(b-a)) args v r).getD i 0=v.getD (i-r) 0
 | 0,_,i,_,_=>rfl
 | r+1,h,i,hi,hr=>by
  have ih:=bfi_lo (b:=b) (v:=v) n hA r (by omega) (i-1) (by omega) (by omega)
  rw [bfi,hA r (by omega),show (a-a)/(b-a)=0 by rw [Rat.sub_self,Rat.div_def,Rat.zero_mul],bsj_all0 _ _ _ (by rw [bfi_len];exact hi) (by omega),ih]
  congr 1;omega
theorem bfi_hi {a b:Rat} (hab:a≠b) {args v:List Rat} (n:Nat) (hB:∀ r,n≤r→r<args.length→args.getD r 0=b):∀ k,n+k≤args.length→bfi (fun t=>(t-a)/(b-a)) args v (n+k)=bfi (fun t=>(t-a)/(b-a)) args v n
 | 0,_=>rfl
 | k+1,h=>by
  have ih:=bfi_hi hab (v:=v) n hB k (by omega)
  rw [←Nat.add_assoc,bfi,hB (n+k) (by omega) (by omega),show (b-a)/(b-a)=1 by rw [Rat.div_def];exact Rat.mul_inv_cancel _ (by grind),bsj_one,ih]
theorem kn2_args {d j:Nat} {a b:Rat} (hj:j≤d):((kn2 d a b).drop (j+1)).take d=List.replicate (d-j) a++List.replicate j b:=by
 have hl:(((kn2 d a b).drop (j+1)).take d).length=d:=by rw [List.length_take,List.length_drop,kn2_len];omega
 refine rext (by rw [hl,List.length_append,List.length_replicate,List.length_replicate];omega) fun i hi=>?_
 rw [hl] at hi
 rw [List.getD_eq_getElem?_getD,List.getElem?_take_of_lt hi,List.getElem?_drop,←List.getD_eq_getElem?_getD,kn2_get _ _ _ _ (by omega)]
 by_cases g:i<d-j
 ·rw [if_pos (by omega),gD1 (by simpa using g),getD_rep g]
 ·rw [if_neg (by omega),gD2 (by simp;omega),List.length_replicate,getD_rep (by omega)]
theorem blo_kn2 {d j:Nat} {a b:Rat} (hab:a<b) {v:List Rat} (hv:v.length=d+1) (hj:j≤d):blo d a b v (((kn2 d a b).drop (j+1)).take d)=v.getD j 0:=by
 rw [kn2_args hj,blo]
 have hal:(List.replicate (d-j) a++List.replicate j b).length=d:=by simp;omega
 have h1:=bfi_hi (a:=a) (b:=b) (by grind) (args:=List.replicate (d-j) a++List.replicate j b) (v:=v) (d-j) (fun r g1 g2=>by rw [hal] at g2;rw [gD2 (by simpa using g1),List.length_replicate,getD_rep (by omega)]) j (by rw [hal];omega)
 rw [show d-j+j=d by omega] at h1
 rw [h1,bfi_lo (d-j) (fun r g=>by rw [gD1 (by simpa using g),getD_rep g]) (d-j) (Nat.le_refl _) d (by omega) (by omega)]
 congr 1;omega
namespace H_c_SpCopO
theorem zSm {p q:Prop} (k:q) (e:p=q:=by simp only [e1,e2,e3,e4,p1,p2,p3,q1,q2,q3,l1,t0,t1,r1,r2,r3,r4,Nat.zero_add,Nat.reduceMul,Nat.reduceAdd,b1,b2,b3,b4,b5,b6,i1,i2,i3,i4,i5,i6,Nat.reduceBEq,dfq,Rat.add_zero,ers,etk,Nat.zero_add,take_map_len,map_snoc,len_snoc,List.length_cons,List.length_nil,List.nil_append,List.map_nil,List.take_nil,List.append_nil,List.set_cons_zero,List.set_cons_succ,Nat.reduceEqDiff,reduceIte,if_true,if_false,ptL_kill,poL_kill,kills_map ptE,kills_map poE,kills_map ratE,ratL_kill,spL_kill,LV.kill,kills];exact rfl):p:=e.mpr k
end H_c_SpCopO
open H_c_SpCopO in
theorem c_SpCopO (p:List Rat) (hl:p.length≤1048576) (hpr:∀ x∈p,rl x≤274877906944):CallOK Tryz.prog 142 [.list 3 (p.map ratL)] (.ref 1 3 0 p.length) [⟨3,p.map ratL,true⟩]:=by
 refine fnO Tryz.func142 ?_
 have ers:True:=trivial
 have etk:True:=trivial
 refine zg9 ?_
 refine st_alloc rfl rfl (.mkE (n:=0) (m:=p.length) ml ml om om om) ?_
 refine zg12 ?_
 refine lp1 (fun(k:Nat) L=>(((((St.mk L.slot (hp [(8,⟨3,(p.take k).map ratL,true⟩)])).put (some 3) (.ref 8 3 0 k)).put (some 9) (.list 3 (p.map ratL))).put (some 10) (nI64 p.length)).put (some 11) (nI64 k))) (fun k=>k≤p.length) (fun k=>p.length-k) 0 (Nat.zero_le _) ?_
 rintro k L1 hk
 refine zg6 ?_
 refine wl_if rfl (fun h12r h12=>?_) (fun h12r h12=>?_)
 ·have hk2:k<p.length:=by omega
  have hrk:=hpr _ (getD_mem hk2)
  have hA:=c_RAdd (p.getD k 0) 0 (by rw [show rl 0=1 from rfl];omega)
  rw [Rat.add_zero] at hA
  have ers:=take_snocL (l:=p) hk2
  have etk:((p.take k).map ratL).take k=(p.take k).map ratL:=List.take_of_length_le (by rw [List.length_map,List.length_take];omega)
  refine zg15 ?_
  refine st_pure rfl (.build0 SL32 Z32a) ?_
  refine cp am2 (hA) ?_
  refine zg1 ?_
  refine st_store rfl (.appX (d:=8) (news:=[ratL (p.getD k 0)]) rfl rfl rfl rfl (by simp;omega) (.inl rfl) (by decide) Tryz.underlying26 Tryz.underlying26 Z32a T32 rfl B32 (.inl ⟨19,0,_,rfl,by decide,rfl,rfl,by simp,rfl,by simp [pures,ratE.pure]⟩) (by simp;omega) (by simp;omega) (by decide)) ?_
  refine zg4 ?_
  refine wl_regW ((Weak.kill _ 5).trans (Weak.kill _ 19)) ?_
  refine st_pure rfl (.bin rfl rfl (add1N (by omega))) ?_
  refine zg3 ?_
  exact nx1 (k+1) (by omega)
 ·obtain rfl:k=p.length:=by omega
  have hE:p.take p.length=p:=List.take_length
  refine zg12 ?_
  rw [hE]
  exact ret1own rfl rfl (pures_map ratE _)
theorem c_SpCop (p:List Rat) (hl:p.length≤1048576) (hpr:∀ x∈p,rl x≤274877906944):CallP Tryz.prog 142 [.list 3 (p.map ratL)] (.list 3 (p.map ratL)):=callP_own (c_SpCopO p hl hpr) (pures_map ratE _) (by simp)
namespace H_c_frac
theorem zSm {p q:Prop} (k:q) (e:p=q:=by simp only [e1,e2,e3,e4,p1,p2,p3,q1,q2,q3,l1,t0,t1,r1,r2,r3,r4,Nat.zero_add,Nat.reduceMul,Nat.reduceAdd,b1,b2,b3,b4,b5,b6,i1,i2,i3,i4,i5,i6,Nat.reduceBEq,List.set_cons_zero,List.set_cons_succ,Nat.reduceEqDiff,reduceIte,if_true,if_false,ptL_kill,poL_kill,kills_map ptE,kills_map poE,kills_map ratE,ratL_kill,spL_kill,LV.kill,kills];exact rfl):p:=e.mpr k
end H_c_frac
open H_c_frac in
theorem c_frac (a b t:Rat) (h:rl a+rl b+rl t≤100000) (hab:a<b):CallP Tryz.prog 285 [ratL a,ratL b,ratL t] (ratL ((t-a)/(b-a))):=by
 have h1:=rl_sub t a
 have h2:=rl_sub b a
 have hQ:CallP Tryz.prog 216 [ratL (t-a),ratL (b-a)] (.tup [ratL ((t-a)/(b-a)),iL 0]):=by
  have:=c_RQuo (t-a) (b-a) (by omega)
  rwa [if_neg (by grind)] at this
 refine fnP Tryz.func285 ?_
 refine zg9 ?_
 refine wl_regF 11 [9] (by decide +kernel) ?_
 refine zg2 ?_
 refine cp am2 (c_RSub t a (by omega)) ?_
 refine zg2 ?_
 refine cp am2 (c_RSub b a (by omega)) ?_
 refine cp am2 (hQ) ?_
 refine zg15 ?_
 exact retC [] rfl rfl rfl (ratE.csize _) (ratL_all _) T32 (.pure (ratE.pure _))
namespace H_c_piece2
theorem zSm {p q:Prop} (k:q) (e:p=q:=by simp only [e1,e2,e3,e4,p1,p2,p3,q1,q2,q3,l1,t0,t1,r1,r2,r3,r4,Nat.zero_add,Nat.reduceMul,Nat.reduceAdd,b1,b2,b3,b4,b5,b6,i1,i2,i3,i4,i5,i6,Nat.reduceBEq,dfq,hkl,List.length_map,List.set_cons_zero,List.set_cons_succ,Nat.reduceEqDiff,reduceIte,if_true,if_false,ptL_kill,poL_kill,kills_map ptE,kills_map poE,kills_map ratE,ratL_kill,spL_kill,LV.kill,kills];exact rfl):p:=e.mpr k
end H_c_piece2
open H_c_piece2 in
theorem c_piece2 (d:Nat) (a b:Rat) (j:Nat) (hab:a<b) (ha:rl a≤100) (hb:rl b≤100) (h9:d≤6) (hj:j≤d):CallP Tryz.prog 218 [.list 3 ((kn2 d a b).map ratL),nI64 j] (nI64 d):=by
 have hkl:=kn2_len d a b
 have hlo:=kn2_lo d a b
 have hhi:=kn2_hi d a b
 refine fnP Tryz.func218 ?_
 refine zg7 ?_
 refine lp1 (fun(i:Nat) L=>(((St.mk L.slot (hp [])).put (some 0) (.list 3 ((kn2 d a b).map ratL))).put (some 1) (nI64 i))) (fun i=>i≤d) (fun i=>d-i) j hj ?_
 rintro i L1 hi
 have hA:i<d→¬cmpR ((kn2 d a b).getD i 0) ((kn2 d a b).getD (i+1) 0)<0:=fun g=>by
  rw [kn2_get _ _ _ _ (by omega),kn2_get _ _ _ _ (by omega),if_pos (by omega),if_pos (by omega)]
  exact fun e=>by have:=cmpR_ge.2 (show a≤a by grind);omega
 have hB:i=d→cmpR ((kn2 d a b).getD i 0) ((kn2 d a b).getD (i+1) 0)<0:=fun g=>by
  rw [kn2_get _ _ _ _ (by omega),kn2_get _ _ _ _ (by omega),if_pos (by omega),if_neg (by omega)]
  exact cmpR_neg.2 hab
 have hri:=kn2_rl (d:=d) ha hb
 have hr1:=hri _ (getD_mem (p:=kn2 d a b) (i:=i) (by omega))
 have hr2:=hri _ (getD_mem (p:=kn2 d a b) (i:=i+1) (by omega))
 refine zg2 ?_
 refine wl_regD 18 (by decide +kernel) ?_
 refine zg1 ?_
 refine st_pure rfl (.bin rfl rfl (add1N (by omega))) ?_
 refine zg4 ?_
 refine st_pure (guardX (v:=true) rfl rfl ((decide_eq_true (by first | omega | (simp only [List.length_map,hkl];omega)))) rfl) (.move _) ?_
 refine st_pure (guardX (v:=true) rfl rfl ((decide_eq_true (by first | omega | (simp only [List.length_map,hkl];omega)))) rfl) (.move _) ?_
 refine st_pure (guardX (v:=true) rfl rfl ((decide_eq_true (by first | omega | (simp only [List.length_map,hkl];omega)))) rfl) ixA ?_
 refine st_pure (guardX (v:=true) rfl rfl ((decide_eq_true (by first | omega | (simp only [List.length_map,hkl];omega)))) rfl) ldA ?_
 refine st_pure (guardX (v:=true) rfl rfl ((decide_eq_true (by first | omega | (simp only [List.length_map,hkl];omega)))) rfl) (.move _) ?_
 refine st_pure (guardX (v:=true) rfl rfl ((decide_eq_true (by first | omega | (simp only [List.length_map,hkl];omega)))) rfl) (.move _) ?_
 refine st_pure (guardX (v:=true) rfl rfl ((decide_eq_true (by first | omega | (simp only [List.length_map,hkl];omega)))) rfl) (.bin rfl rfl (add1N (by omega))) ?_
 refine st_pure (guardX (v:=true) rfl rfl ((decide_eq_true (by first | omega | (simp only [List.length_map,hkl];omega)))) rfl) ixA ?_
 refine st_pure (guardX (v:=true) rfl rfl ((decide_eq_true (by first | omega | (simp only [List.length_map,hkl];omega)))) rfl) ldA ?_
 try simp only [t1,dfq]
 refine st_callP (guardX (v:=true) rfl rfl ((decide_eq_true (by first | omega | (simp only [List.length_map,hkl];omega)))) rfl) (.cons im0 (.cons im0 .nil)) (c_RCmp ((kn2 d a b).getD i 0) ((kn2 d a b).getD (i+1) 0) (by omega)) ?_
 refine st_pure (guardX (v:=true) rfl rfl ((decide_eq_true (by first | omega | (simp only [List.length_map,hkl];omega)))) rfl) (.bin rfl rfl rfl) ?_
 refine st_pure rfl (.pickT rfl ((decide_eq_true (by first | omega | (simp only [List.length_map,hkl];omega))))) ?_
 refine zg2 ?_
 refine wl_if rfl (fun h22r h22=>?_) (fun h22r h22=>?_)
 ·have hi2:i<d:=by
   rcases Nat.lt_or_ge i d with g | g
   ·exact g
   ·have:=hB (by omega)
    omega
  refine zg5 ?_
  refine st_pure rfl (.bin rfl rfl (add1N (by omega))) ?_
  refine zg4 ?_
  exact nx1 (i+1) (by omega)
 ·obtain rfl:i=d:=by
   rcases Nat.lt_or_ge i d with g | g
   ·have:=hA g
    omega
   ·omega
  refine zg12 ?_
  exact ret1 rfl (.pure rfl)
namespace H_c_KIvl2
theorem zSm {p q:Prop} (k:q) (e:p=q:=by simp only [e1,e2,e3,e4,p1,p2,p3,q1,q2,q3,l1,t0,t1,r1,r2,r3,r4,Nat.zero_add,Nat.reduceMul,Nat.reduceAdd,b1,b2,b3,b4,b5,b6,i1,i2,i3,i4,i5,i6,Nat.reduceBEq,hkl,hlo,hhi,hix,hix2,List.length_map,dfq,List.set_cons_zero,List.set_cons_succ,Nat.reduceEqDiff,reduceIte,if_true,if_false,ptL_kill,poL_kill,kills_map ptE,kills_map poE,kills_map ratE,ratL_kill,spL_kill,LV.kill,kills];exact rfl):p:=e.mpr k
end H_c_KIvl2
open H_c_KIvl2 in
theorem c_KIvl2 (d:Nat) (a b t:Rat) (hd:d≤6) (hT:rl a≤100) (hT1:rl b≤100) (ht:rl t≤1000) (h1:a≤t) (h2:t<b):CallP Tryz.prog 219 [.list 3 ((kn2 d a b).map ratL),nI64 d,ratL t] (.tup [nI64 d,iL 0]):=by
 have hkl:=kn2_len d a b
 have hlo:=kn2_lo d a b
 have hhi:=kn2_hi d a b
 have c1:¬cmpR t a<0:=fun e=>by have:=cmpR_ge.2 h1;omega
 have c2:¬cmpR t b > 0:=fun e=>by have:=cmpR_pos.1 e;grind
 have hix:((2*(d+1):Nat):Int).toNat-1=2*(d+1)-1:=by omega
 have hix2:(((2*(d+1):Nat):Int)-1).toNat=2*(d+1)-1:=by omega
 have c3:cmpR t b<0:=cmpR_neg.2 h2
 refine fnP Tryz.func219 (ht:=(tame2 rfl rfl)) ?_
 refine zg9 ?_
 refine wl_regD 22 (by decide +kernel) ?_
 refine zg4 ?_
 refine st_pure (guardX (v:=false) rfl rfl ((beq_eq_false_iff_ne.2 (by omega))) rfl) ldA ?_
 refine st_pure (guardX (v:=false) rfl rfl ((beq_eq_false_iff_ne.2 (by omega))) rfl) (.move _) ?_
 refine st_pure (guardX (v:=false) rfl rfl ((beq_eq_false_iff_ne.2 (by omega))) rfl) ixA ?_
 refine st_pure (guardX (v:=false) rfl rfl ((beq_eq_false_iff_ne.2 (by omega))) rfl) ldA ?_
 try simp only [t1,dfq,hlo]
 refine st_callP (guardX (v:=false) rfl rfl ((beq_eq_false_iff_ne.2 (by omega))) rfl) (.cons im0 (.cons im0 .nil)) (c_RCmp t a (by omega)) ?_
 refine st_pure (guardX (v:=false) rfl rfl ((beq_eq_false_iff_ne.2 (by omega))) rfl) (.bin rfl rfl rfl) ?_
 refine st_pure rfl (.pickF rfl ((beq_eq_false_iff_ne.2 (by omega)))) ?_
 refine zg1 ?_
 refine st_pure (guardX (v:=false) rfl rfl ((decide_eq_false c1)) rfl) ldA ?_
 refine st_pure (guardX (v:=false) rfl rfl ((decide_eq_false c1)) rfl) (.move _) ?_
 refine st_pure (guardX (v:=false) rfl rfl ((decide_eq_false c1)) rfl) (.move _) ?_
 refine st_pure (guardX (v:=false) rfl rfl ((decide_eq_false c1)) rfl) lnA ?_
 refine st_pure (guardX (v:=false) rfl rfl ((decide_eq_false c1)) rfl) (.bin rfl rfl (sub1N (by omega) (by omega))) ?_
 refine st_pure (guardX (v:=false) rfl rfl ((decide_eq_false c1)) rfl) ixA ?_
 refine st_pure (guardX (v:=false) rfl rfl ((decide_eq_false c1)) rfl) ldA ?_
 try simp only [t1,dfq,hkl,hhi,hix2]
 refine st_callP (guardX (v:=false) rfl rfl ((decide_eq_false c1)) rfl) (.cons im0 (.cons im0 .nil)) (c_RCmp t b (by omega)) ?_
 refine st_pure (guardX (v:=false) rfl rfl ((decide_eq_false c1)) rfl) (.bin rfl rfl rfl) ?_
 refine st_pure rfl (.pickF rfl ((decide_eq_false c1))) ?_
 refine zg2 ?_
 refine wl_condY (b:=_) rfl (decide_eq_false c2) ?_
 refine zg14 ?_
 refine lp1 (fun(i:Nat) L=>(((((St.mk L.slot (hp [(5,⟨3,[ratL t],true⟩)])).put (some 0) (.list 3 ((kn2 d a b).map ratL))).put (some 5) (.eptr 5 3 0 0)).put (some 8) (nI64 0)).put (some 9) (nI64 i))) (fun i=>i≤d) (fun i=>d-i) 0 (Nat.zero_le _) ?_
 rintro i L1 hi
 have hA:i<d→¬cmpR ((kn2 d a b).getD i 0) ((kn2 d a b).getD (i+1) 0)<0:=fun g=>by
  rw [kn2_get _ _ _ _ (by omega),kn2_get _ _ _ _ (by omega),if_pos (by omega),if_pos (by omega)]
  exact fun e=>by have:=cmpR_ge.2 (show a≤a by grind);omega
 have hB:i=d→cmpR ((kn2 d a b).getD i 0) ((kn2 d a b).getD (i+1) 0)<0:=fun g=>by
  rw [kn2_get _ _ _ _ (by omega),kn2_get _ _ _ _ (by omega),if_pos (by omega),if_neg (by omega)]
  exact cmpR_neg.2 (by grind)
 have hri:=kn2_rl (d:=d) hT hT1
 have hr1:=hri _ (getD_mem (p:=kn2 d a b) (i:=i) (by omega))
 have hr2:=hri _ (getD_mem (p:=kn2 d a b) (i:=i+1) (by omega))
 refine zg4 ?_
 refine st_pure rfl (.bin rfl rfl (add1N (by omega))) ?_
 refine zg5 ?_
 refine wl_condX (b:=_) rfl (decide_eq_true (by first | omega | (simp only [List.length_map,hkl];omega))) ?_
 refine zg6 ?_
 refine wl_regD 11 (by decide +kernel) ?_
 refine zg6 ?_
 refine st_pure rfl (.bin rfl rfl (add1N (by omega))) ?_
 refine zg2 ?_
 try simp only [t1,dfq]
 refine cp am2 (c_RCmp ((kn2 d a b).getD i 0) ((kn2 d a b).getD (i+1) 0) (by omega)) ?_
 refine zg3 ?_
 refine wl_if rfl (fun h49r h49=>?_) (fun h49r h49=>?_)
 ·have hi2:i<d:=by
   rcases Nat.lt_or_ge i d with g | g
   ·exact g
   ·have:=hB (by omega)
    omega
  refine zg6 ?_
  refine st_pure rfl (.bin rfl rfl (add1N (by omega))) ?_
  refine zg3 ?_
  exact nx1 (i+1) (by omega)
 ·obtain rfl:i=d:=by
   rcases Nat.lt_or_ge i d with g | g
   ·have:=hA g
    omega
   ·omega
  have hkd1:(kn2 i a b).getD (i+1) 0=b:=by rw [kn2_get _ _ _ _ (by omega),if_neg (by omega)]
  refine zg9 ?_
  refine wl_regD 8 (by decide +kernel) ?_
  refine zg3 ?_
  refine st_pure rfl (.bin rfl rfl (add1N (by omega))) ?_
  refine zg2 ?_
  try simp only [t1,dfq,hkd1]
  refine cp am2 (c_RCmp t b (by omega)) ?_
  refine zg3 ?_
  refine wl_if rfl (fun h58r h58=>?_) (fun h58r h58=>?_)
  ·refine zg14 ?_
   exact ret2 rfl (.pure rfl) rfl (.pure rfl)
  ·omega
namespace H_c_Blos
theorem zSm {p q:Prop} (k:q) (e:p=q:=by simp only [e1,e2,e3,e4,p1,p2,p3,q1,q2,q3,l1,t0,t1,r1,r2,r3,r4,Nat.zero_add,Nat.reduceMul,Nat.reduceAdd,b1,b2,b3,b4,b5,b6,i1,i2,i3,i4,i5,i6,Nat.reduceBEq,ebfl,ratL_zero,hxd,hxd2,ersS,hkl,hkd,hkd1,hal,hc,ewl,ewj,ewk,ersj,dfq,Rat.add_zero,Nat.sub_self,List.drop_zero,List.take_zero,List.nil_append,List.length_map,List.length_replicate,List.append_nil,List.set_cons_zero,List.set_cons_succ,Nat.reduceEqDiff,reduceIte,if_true,if_false,ptL_kill,poL_kill,kills_map ptE,kills_map poE,kills_map ratE,ratL_kill,spL_kill,LV.kill,kills];exact rfl):p:=e.mpr k
end H_c_Blos
open H_c_Blos in
theorem c_Blos (d:Nat) (a b:Rat) (c args:List Rat) (R:Nat) (h9:d≤6) (hab:a<b) (ha:rl a≤100) (hb:rl b≤100) (hc:c.length=d+1) (hal:args.length=d) (hR1:1≤R) (hR:R≤10000000) (hcR:∀ x∈c,rl x≤R) (hA:∀ t∈args,rl t≤100):CallOKM Tryz.prog 259 ⟨3,c.map ratL,true⟩ [.list 3 ((kn2 d a b).map ratL),nI64 d,.ref 0 3 0 (d+1),nI64 d,.list 3 (args.map ratL)] (.tup [ratL (blo d a b c args),iL 0]) ⟨3,c.map ratL,true⟩:=by
 have hkl:=kn2_len d a b
 have hlo:=kn2_lo d a b
 have hhi:=kn2_hi d a b
 have hs9:bfS 402 R 6≤10000000000:=by simp only [bfS];omega
 have hQ:∀ t∈args,rl ((fun t=>(t-a)/(b-a)) t)≤402:=fun t ht=>by
  have h1:=rl_div (t-a) (b-a)
  have h2:=rl_sub t a
  have h3:=rl_sub b a
  have h4:=hA t ht
  show rl ((t-a)/(b-a))≤402
  omega
 have hBR:∀ r,r≤d→∀ x∈(bfi (fun t=>(t-a)/(b-a)) args c r),rl x≤10000000000:=fun r hr x hx=>Nat.le_trans (bfi_rl (R:=R) hQ hR1 hcR r (by omega) x hx) (Nat.le_trans (bfS_mono hR1 (show r≤6 by omega)) hs9)
 have hkd:(kn2 d a b).getD d 0=a:=by rw [kn2_get _ _ _ _ (by omega),if_pos (by omega)]
 have hkd1:(kn2 d a b).getD (d+1) 0=b:=by rw [kn2_get _ _ _ _ (by omega),if_neg (by omega)]
 have c1:¬cmpR a b≥0:=fun e=>by have:=cmpR_ge.1 e;grind
 have hpa:=pure_lst ratE 3 args
 have hxd:((List.replicate (d+1) (0:Rat)).map ratL).drop (0+(c.map ratL).length)=[]:=List.drop_of_length_le (by simp;omega)
 have hxd2:((List.replicate (d+1) (0:Rat)).map ratL).drop (d+1)=[]:=List.drop_of_length_le (by simp)
 have hlst:=getD_rl (by decide) (hBR d (Nat.le_refl _)) d
 have hAd:=c_RAdd ((bfi (fun t=>(t-a)/(b-a)) args c d).getD d 0) 0 (by have:rl 0=1:=rfl;omega)
 rw [Rat.add_zero] at hAd
 have hpk:=pure_lst ratE 3 (kn2 d a b)
 refine fnM Tryz.func259 ?_
 have ebfl:True:=trivial
 have ersS:True:=trivial
 have ewl:True:=trivial
 have ewj:True:=trivial
 have ewk:True:=trivial
 have ersj:True:=trivial
 refine zg14 ?_
 refine cp am2 (c_KPoles (kn2 d a b) d (by omega) (by omega)) ?_
 refine zg2 ?_
 refine st_pure (guardX (v:=false) rfl rfl ((bne_eq_false_iff_eq.2 (by first | omega | (simp only [List.length_map,hkl];omega)))) rfl) (.move _) ?_
 refine st_pure (guardX (v:=false) rfl rfl ((bne_eq_false_iff_eq.2 (by first | omega | (simp only [List.length_map,hkl];omega)))) rfl) lnA ?_
 refine st_pure (guardX (v:=false) rfl rfl ((bne_eq_false_iff_eq.2 (by first | omega | (simp only [List.length_map,hkl];omega)))) rfl) (.move _) ?_
 refine st_pure (guardX (v:=false) rfl rfl ((bne_eq_false_iff_eq.2 (by first | omega | (simp only [List.length_map,hkl];omega)))) rfl) (.bin rfl rfl rfl) ?_
 refine st_pure rfl (.pickF rfl ((bne_eq_false_iff_eq.2 (by first | omega | (simp only [List.length_map,hkl];omega))))) ?_
 refine zg3 ?_
 refine wl_condY (b:=_) rfl (bne_eq_false_iff_eq.2 (by first | omega | (simp only [List.length_map,hal];omega))) ?_
 refine zg1 ?_
 refine wl_regD 23 (by decide +kernel) ?_
 refine zg4 ?_
 refine st_pure (guardX (v:=false) rfl rfl ((decide_eq_false (by omega))) rfl) (.move _) ?_
 refine st_pure (guardX (v:=false) rfl rfl ((decide_eq_false (by omega))) rfl) (.move _) ?_
 refine st_pure (guardX (v:=false) rfl rfl ((decide_eq_false (by omega))) rfl) lnA ?_
 refine st_pure (guardX (v:=false) rfl rfl ((decide_eq_false (by omega))) rfl) (.bin rfl rfl rfl) ?_
 refine st_pure rfl (.pickF rfl ((decide_eq_false (by omega)))) ?_
 refine zg1 ?_
 refine st_pure (guardX (v:=false) rfl rfl ((decide_eq_false (by omega))) rfl) (.move _) ?_
 refine st_pure (guardX (v:=false) rfl rfl ((decide_eq_false (by omega))) rfl) (.move _) ?_
 refine st_pure (guardX (v:=false) rfl rfl ((decide_eq_false (by omega))) rfl) ixA ?_
 refine st_pure (guardX (v:=false) rfl rfl ((decide_eq_false (by omega))) rfl) ldA ?_
 refine st_pure (guardX (v:=false) rfl rfl ((decide_eq_false (by omega))) rfl) (.move _) ?_
 refine st_pure (guardX (v:=false) rfl rfl ((decide_eq_false (by omega))) rfl) (.move _) ?_
 refine st_pure (guardX (v:=false) rfl rfl ((decide_eq_false (by omega))) rfl) (.bin rfl rfl (add1N (by omega))) ?_
 refine st_pure (guardX (v:=false) rfl rfl ((decide_eq_false (by omega))) rfl) ixA ?_
 refine st_pure (guardX (v:=false) rfl rfl ((decide_eq_false (by omega))) rfl) ldA ?_
 try simp only [t1,dfq,hkd,hkd1]
 refine st_callP (guardX (v:=false) rfl rfl ((decide_eq_false (by omega))) rfl) (.cons im0 (.cons im0 .nil)) (c_RCmp a b (by omega)) ?_
 refine st_pure (guardX (v:=false) rfl rfl ((decide_eq_false (by omega))) rfl) (.bin rfl rfl rfl) ?_
 refine st_pure rfl (.pickF rfl ((decide_eq_false (by omega)))) ?_
 refine zg3 ?_
 refine wl_condY (b:=_) rfl (decide_eq_false c1) ?_
 refine zg6 ?_
 refine st_pure rfl (.bin rfl rfl (add1N (by omega))) ?_
 refine st_alloc rfl rfl (.mkE (n:=d+1) (m:=d+1) ml ml om om om) ?_
 refine zg9 ?_
 refine st_pure rfl (.bin rfl rfl (subNN (a:=d) (b:=d) (c:=0) (by omega) (by omega))) ?_
 refine st_pure rfl (.sliceR (a:=0) (h:=d+1) rfl Tryz.underlying26 T32 (fun y hy=>by cases hy;exact⟨_,rfl⟩) (fun h=>by cases h) (fun y hy=>by cases hy) (fun _=>rfl) om om om) ?_
 refine st_store rfl (.cpy (b:=58) (off:=0) (sz:=3) (news:=c.map ratL) (by rw [List.length_map,hc];exact rfl) rfl rfl rfl (by simp [hc]) Tryz.underlying26 Tryz.underlying26 T32 (.inl ⟨0,0,_,(by rw [List.length_map,hc];exact rfl),rfl,rfl,by simp [hc],by rw [List.drop_zero,List.take_length]⟩)) ?_
 refine zg11 ?_
 refine lp1 (fun(r:Nat) L=>(((((((((St.mk L.slot (hp [(0,⟨3,c.map ratL,true⟩),(10,⟨3,[ratL 0],true⟩),(58,⟨3,(bfi (fun t=>(t-a)/(b-a)) args c r).map ratL,true⟩)])).put (some 0) (.list 3 ((kn2 d a b).map ratL))).put (some 1) (nI64 d)).put (some 3) (nI64 d)).put (some 10) (.eptr 10 3 0 0)).put (some 12) (.ref 58 3 0 (d+1))).put (some 66) (.list 3 (args.map ratL))).put (some 67) (nI64 d)).put (some 68) (nI64 r))) (fun r=>r≤d) (fun r=>d-r) 0 (Nat.zero_le _) ?_
 rintro r L1 hr
 refine zg6 ?_
 refine wl_if rfl (fun h69r h69=>?_) (fun h69r h69=>?_)
 ·have hr2:r<d:=by omega
  have hrt:=hA _ (getD_mem (p:=args) (i:=r) (by omega))
  have hbl:(bfi (fun t=>(t-a)/(b-a)) args c r).length=d+1:=by rw [bfi_len,hc]
  have ersj:bsj ((args.getD r 0-a)/(b-a)) (bfi (fun t=>(t-a)/(b-a)) args c r) d=(bfi (fun t=>(t-a)/(b-a)) args c r):=bsj_top _ _ _ (by omega)
  have hfr:=c_frac a b (args.getD r 0) (by omega) hab
  refine zg21 ?_
  refine lp1 (fun(j:Nat) L=>((((((((((((St.mk L.slot (hp [(0,⟨3,c.map ratL,true⟩),(10,⟨3,[ratL 0],true⟩),(58,⟨3,(bsj ((args.getD r 0-a)/(b-a)) (bfi (fun t=>(t-a)/(b-a)) args c r) j).map ratL,true⟩),(14,⟨3,[ratL (args.getD r 0)],true⟩)])).put (some 0) (.list 3 ((kn2 d a b).map ratL))).put (some 1) (nI64 d)).put (some 3) (nI64 d)).put (some 10) (.eptr 10 3 0 0)).put (some 12) (.ref 58 3 0 (d+1))).put (some 13) (nI64 r)).put (some 14) (.eptr 14 3 0 0)).put (some 15) (nI64 j)).put (some 66) (.list 3 (args.map ratL))).put (some 67) (nI64 d)).put (some 68) (nI64 r))) (fun j=>r≤j∧j≤d) (fun j=>j) d ⟨by omega,Nat.le_refl _⟩ ?_
  rintro j L2 ⟨hj1,hj2⟩
  refine zg8 ?_
  refine wl_if rfl (fun h76r h76=>?_) (fun h76r h76=>?_)
  ·have hj3:r<j:=by omega
   have ewl:(bsj ((args.getD r 0-a)/(b-a)) (bfi (fun t=>(t-a)/(b-a)) args c r) j).length=d+1:=by rw [bsj_len,hbl]
   have ewj:(bsj ((args.getD r 0-a)/(b-a)) (bfi (fun t=>(t-a)/(b-a)) args c r) j).getD j 0=(bfi (fun t=>(t-a)/(b-a)) args c r).getD j 0:=by rw [bsj_get _ _ _ _ (by omega),if_neg (by omega)]
   have ewk:(bsj ((args.getD r 0-a)/(b-a)) (bfi (fun t=>(t-a)/(b-a)) args c r) j).getD (j-1) 0=(bfi (fun t=>(t-a)/(b-a)) args c r).getD (j-1) 0:=by rw [bsj_get _ _ _ _ (by omega),if_neg (by omega)]
   have hv1:=getD_rl (by decide) (hBR r (by omega)) j
   have hv2:=getD_rl (by decide) (hBR r (by omega)) (j-1)
   have hfq:rl ((args.getD r 0-a)/(b-a))≤402:=hQ _ (getD_mem (p:=args) (i:=r) (by omega))
   have hdf:=rl_sub ((bfi (fun t=>(t-a)/(b-a)) args c r).getD j 0) ((bfi (fun t=>(t-a)/(b-a)) args c r).getD (j-1) 0)
   have hmf:=rl_mul ((args.getD r 0-a)/(b-a)) ((bfi (fun t=>(t-a)/(b-a)) args c r).getD j 0-(bfi (fun t=>(t-a)/(b-a)) args c r).getD (j-1) 0)
   have ersS:=bsj_set ((args.getD r 0-a)/(b-a)) (bfi (fun t=>(t-a)/(b-a)) args c r) j (by omega) (by omega)
   have hkj:(kn2 d a b).getD j 0=a:=by rw [kn2_get _ _ _ _ (by omega),if_pos (by omega)]
   have hkh:(kn2 d a b).getD (j+d-r) 0=b:=by rw [kn2_get _ _ _ _ (by omega),if_neg (by omega)]
   refine zg8 ?_
   refine st_pure rfl (.bin rfl rfl (subNN (a:=d) (b:=d) (c:=0) (by omega) (by omega))) ?_
   refine zg1 ?_
   refine st_pure rfl (.bin rfl rfl (add64N (a:=0) (b:=j) (by omega))) ?_
   refine zg4 ?_
   refine wl_regD 15 (by decide +kernel) ?_
   refine zg7 ?_
   refine st_pure rfl (.bin rfl rfl (add64N (a:=j) (b:=d) (by omega))) ?_
   refine zg1 ?_
   refine st_pure rfl (.bin rfl rfl (subNN (a:=j+d) (b:=r) (c:=j+d-r) (by omega) (by omega))) ?_
   refine zg3 ?_
   try simp only [t1,dfq,hkj,hkh]
   refine cp am3 (hfr) ?_
   refine zg4 ?_
   refine wl_regD 21 (by decide +kernel) ?_
   refine zg4 ?_
   refine st_pure rfl (.bin rfl rfl (sub1N (by omega) (by omega))) ?_
   refine zg9 ?_
   refine st_pure rfl (.bin rfl rfl (sub1N (by omega) (by omega))) ?_
   refine zg2 ?_
   refine zSm ?_
   refine cp am2 (c_RSub ((bfi (fun t=>(t-a)/(b-a)) args c r).getD j 0) ((bfi (fun t=>(t-a)/(b-a)) args c r).getD (j-1) 0) (by omega)) ?_
   refine cp am2 (c_RMul ((args.getD r 0-a)/(b-a)) ((bfi (fun t=>(t-a)/(b-a)) args c r).getD j 0-(bfi (fun t=>(t-a)/(b-a)) args c r).getD (j-1) 0) (by omega)) ?_
   refine cp am2 (c_RAdd ((bfi (fun t=>(t-a)/(b-a)) args c r).getD (j-1) 0) ((args.getD r 0-a)/(b-a)*((bfi (fun t=>(t-a)/(b-a)) args c r).getD j 0-(bfi (fun t=>(t-a)/(b-a)) args c r).getD (j-1) 0)) (by omega)) ?_
   refine zg5 ?_
   refine wl_regW (Weak.kill _ 17) ?_
   refine zg1 ?_
   refine st_pure rfl (.bin rfl rfl (sub1N (by omega) (by omega))) ?_
   refine zg3 ?_
   exact nx1 (j-1) ⟨by omega,by omega⟩
  ·obtain rfl:r=j:=by omega
   refine zg6 ?_
   refine wl_regW (Weak.kill _ 14) ?_
   refine st_pure rfl (.bin rfl rfl (add1N (by omega))) ?_
   refine zg3 ?_
   exact nx1 (r+1) (by omega)
 ·obtain rfl:d=r:=by omega
  have ebfl:(bfi (fun t=>(t-a)/(b-a)) args c d).length=d+1:=by rw [bfi_len,hc]
  refine zg11 ?_
  refine zSm ?_
  refine st_pure rfl (.build0 SL32 Z32a) ?_
  refine cp am2 (hAd) ?_
  refine zg5 ?_
  exact retMCT rfl rfl (ratE.csize _) (ratL_all _) T32 (.imm (.pure (ratE.pure _))) rfl (.imm (.pure rfl)) rfl rfl (pures_map ratE _)
structure Q4 where
 x:Rat
 y:Rat
 z:Rat
 w:Rat
instance:Inhabited Q4:=⟨⟨0,0,0,0⟩⟩
def q4L (q:Q4):LV:=.agg [ratL q.x,ratL q.y,ratL q.z,ratL q.w]
theorem q4E:EncOK q4L 12 true:=⟨fun q=>by simp [q4L,LV.csize,csizes,ratE.csize],fun _=>rfl,fun q=>by simp [q4L,LV.pure,pures,ratE.pure]⟩
theorem q4L_kill (b:Nat) (q:Q4):(q4L q).kill b=q4L q:=LV.kill_pure b _ (q4E.pure q)
def bd4 (R:Nat) (q:Q4):Prop:=rl q.x≤R∧rl q.y≤R∧rl q.z≤R∧rl q.w≤R
def pol (d:Nat) (a b:Rat) (C:List Q4) (args:List Rat):Q4:=⟨blo d a b (C.map (·.x)) args,blo d a b (C.map (·.y)) args,blo d a b (C.map (·.z)) args,blo d a b (C.map (·.w)) args⟩
theorem getD_mapQ {C:List Q4} {i:Nat} (h:i<C.length) (f:Q4→Rat):(C.map f).getD i 0=f (C.getD i default):=by
 rw [List.getD_eq_getElem?_getD,List.getElem?_map,List.getD_eq_getElem?_getD,List.getElem?_eq_getElem h];rfl
theorem pol_kn2 {d j:Nat} {a b:Rat} (hab:a<b) {C:List Q4} (hC:C.length=d+1) (hj:j≤d):pol d a b C (((kn2 d a b).drop (j+1)).take d)=C.getD j default:=by
 unfold pol
 rw [blo_kn2 hab (by simp [hC]) hj,blo_kn2 hab (by simp [hC]) hj,blo_kn2 hab (by simp [hC]) hj,blo_kn2 hab (by simp [hC]) hj,
  getD_mapQ (by omega),getD_mapQ (by omega),getD_mapQ (by omega),getD_mapQ (by omega)]
theorem cp_set {A B:List Rat} {i:Nat} (hl:A.length=B.length) (h:i<A.length):(A.take i++B.drop i).set i (A.getD i 0)=A.take (i+1)++B.drop (i+1):=by
 rw [List.set_append_right _ _ (by rw [List.length_take];omega),List.length_take,Nat.min_eq_left (by omega),Nat.sub_self,←take_snocL h,List.append_assoc]
 congr 1
 rw [List.drop_eq_getElem_cons (by omega:i<B.length),List.set_cons_zero];rfl
theorem cp_len {A B:List Rat} {i:Nat} (hl:A.length=B.length) (h:i≤A.length):(A.take i++B.drop i).length=A.length:=by
 rw [List.length_append,List.length_take,List.length_drop];omega
theorem cp_end {A B:List Rat} {i:Nat} (hl:A.length=B.length) (h:A.length≤i):A.take i++B.drop i=A:=by
 rw [List.take_of_length_le h,List.drop_of_length_le (by omega),List.append_nil]
theorem take_snocQ {C:List Q4} {k:Nat} (h:k<C.length):C.take k++[C.getD k default]=C.take (k+1):=by
 rw [List.take_add_one,List.getElem?_eq_getElem h,List.getD_eq_getElem?_getD,List.getElem?_eq_getElem h];rfl
theorem fIdx_kn2 {d:Nat} {a b:Rat} {pr:Rat→Bool} (ha:pr a=false) (hb:pr b=true):fIdx pr (kn2 d a b)=((d+1:Nat):Int) :=
 fIdx_hit (by rw [kn2_len];omega) (fun j hj=>by
  have:(kn2 d a b).getD j default=(kn2 d a b).getD j 0:=rfl
  rw [this,kn2_get _ _ _ _ (by omega),if_pos hj,ha]) (by
  have:(kn2 d a b).getD (d+1) default=(kn2 d a b).getD (d+1) 0:=rfl
  rw [this,kn2_get _ _ _ _ (by omega),if_neg (by omega),hb])
theorem st_callMt {P:Program} {dst:Option Tmp} {ty:TypeId} {pos:String} {af:Array Edge} {g:Option (Nat × Bool)} {rest:List Oper} {L:St} {K:St→Prop} {f:FuncId} {xs:Array Operand} {ats:Array TypeId} {args:List LV} {r:LV} {ops:Array Oper} (b:Nat) {blk blk':Blk} (hg:GuardIs ops L ⟨dst,.call ⟨.value (.func f),xs,ats⟩,ty,pos,af,g⟩ true)
  (hb:L.heap b=some blk) (hm:blk.mt=true) (hp:pures blk.vals=true) (ha:ArgML L.heap b (xs.toList.map L.ev) args) (hn:Names b (xs.toList.map L.ev)) (hk:CallOKM P f blk args r blk')
  (hm':blk'.mt=true) (hp':pures blk'.vals=true) (hr:∀ g,r.ren g=r) (k:opsL P false ops rest ((L.setB b (some blk')).put dst r) K) :
  opsL P false ops (⟨dst,.call ⟨.value (.func f),xs,ats⟩,ty,pos,af,g⟩ :: rest) L K :=
 st_callM b hg hb hm hp ha hn hk hm' hp' (by rw [hr];exact k)
instance:EC Tryz.prog 198 q4L 12 true ⟨0,0,0,0⟩:=⟨q4E,Z198,T198⟩
namespace H_c_polar
theorem zSm {p q:Prop} (k:q) (e:p=q:=by simp only [e1,e2,e3,e4,p1,p2,p3,q1,q2,q3,l1,t0,t1,r1,r2,r3,r4,Nat.zero_add,Nat.reduceMul,Nat.reduceAdd,b1,b2,b3,b4,b5,b6,i1,i2,i3,i4,i5,i6,Nat.reduceBEq,ratL_zero,q4L,hC,ecl,ect,eend,ewv,dfq,List.drop_zero,List.take_zero,List.nil_append,List.length_map,List.length_replicate,q4L_kill,kills_map q4E,List.set_cons_zero,List.set_cons_succ,Nat.reduceEqDiff,reduceIte,if_true,if_false,ptL_kill,poL_kill,kills_map ptE,kills_map poE,kills_map ratE,ratL_kill,spL_kill,LV.kill,kills];exact rfl):p:=e.mpr k
end H_c_polar
open H_c_polar in
theorem c_polar (d:Nat) (a b:Rat) (C:List Q4) (args:List Rat) (R:Nat) (h9:d≤6) (hab:a<b) (ha:rl a≤100) (hb:rl b≤100) (hC:C.length=d+1) (hal:args.length=d) (hR1:1≤R) (hR:R≤10000000) (hcR:∀ q∈C,bd4 R q) (hA:∀ t∈args,rl t≤100):CallP Tryz.prog 220 [.agg [nI64 d,.list 3 ((kn2 d a b).map ratL),.list 12 (C.map q4L)],nI64 d,.list 3 (args.map ratL)] (q4L (pol d a b C args)):=by
 have hkl:=kn2_len d a b
 have hlo:=kn2_lo d a b
 have hhi:=kn2_hi d a b
 have hpS:LV.pure (.agg [nI64 d,.list 3 ((kn2 d a b).map ratL),.list 12 (C.map q4L)])=true:=by simp [LV.pure,pures,pures_map ratE,pures_map q4E]
 have hpk:=pure_lst ratE 3 (kn2 d a b)
 have hpa:=pure_lst ratE 3 args
 have hm0:∀ x∈(C.map (·.x)),rl x≤R:=fun x hx=>by
  obtain⟨q,hq,rfl⟩:=List.mem_map.1 hx
  exact(hcR q hq).1
 have hm1:∀ x∈(C.map (·.y)),rl x≤R:=fun x hx=>by
  obtain⟨q,hq,rfl⟩:=List.mem_map.1 hx
  exact(hcR q hq).2.1
 have hm2:∀ x∈(C.map (·.z)),rl x≤R:=fun x hx=>by
  obtain⟨q,hq,rfl⟩:=List.mem_map.1 hx
  exact(hcR q hq).2.2.1
 have hm3:∀ x∈(C.map (·.w)),rl x≤R:=fun x hx=>by
  obtain⟨q,hq,rfl⟩:=List.mem_map.1 hx
  exact(hcR q hq).2.2.2
 refine fnP Tryz.func220 (ht:=(fun g=>LV.ren_pure g _ (q4E.pure _))) ?_
 have ecl:True:=trivial
 have ect:True:=trivial
 have eend:True:=trivial
 have ewv:True:=trivial
 refine zg16 ?_
 refine st_alloc rfl rfl (.mkE (n:=d+1) (m:=d+1) ml ml om om om) ?_
 refine zg10 ?_
 refine wl_unroll ?_
 refine zg6 ?_
 refine wl_condX (b:=_) rfl (by decide) ?_
 refine zg20 ?_
 refine lp1 (fun(i:Nat) L=>((((((((((((St.mk L.slot (hp [(3,⟨3,[.agg [nI64 d,.list 3 ((kn2 d a b).map ratL),.list 12 (C.map q4L)]],true⟩),(6,⟨12,[.agg [ratL 0,ratL 0,ratL 0,ratL 0]],true⟩),(7,⟨12,[.agg [ratL 0,ratL 0,ratL 0,ratL 0]],true⟩),(15,⟨3,((C.map (·.x)).take i++(List.replicate (d+1) (0:Rat)).drop i).map ratL,true⟩)])).put (some 1) (nI64 d)).put (some 2) (.list 3 (args.map ratL))).put (some 3) (.eptr 3 3 0 0)).put (some 6) (.eptr 6 12 0 0)).put (some 7) (.eptr 7 12 0 0)).put (some 8) (.ref 15 3 0 (d+1))).put (some 9) (nI64 0)).put (some 16) (nI64 0)).put (some 20) (.list 12 (C.map q4L))).put (some 21) (nI64 (d+1))).put (some 22) (nI64 i))) (fun i=>i≤d+1) (fun i=>d+1-i) 0 (Nat.zero_le _) ?_
 rintro i L2 hi
 refine zg6 ?_
 refine wl_if rfl (fun h23r h23=>?_) (fun h23r h23=>?_)
 ·have hi2:i<d+1:=by omega
  have ewv:=getD_mapQ (C:=C) (i:=i) (by omega) (·.x)
  have ect:((C.map (·.x)).take i++(List.replicate (d+1) (0:Rat)).drop i).set i ((C.getD i default).x)=(C.map (·.x)).take (i+1)++(List.replicate (d+1) (0:Rat)).drop (i+1):=by
   rw [←ewv]
   exact cp_set (by simp [hC]) (by simp [hC];omega)
  have ecl:((C.map (·.x)).take i++(List.replicate (d+1) (0:Rat)).drop i).length=d+1:=by rw [cp_len (by simp [hC]) (by simp [hC];omega)];simp [hC]
  refine zg25 ?_
  refine wl_regW (Weak.kill _ 11) ?_
  refine st_pure rfl (.bin rfl rfl (add1N (by omega))) ?_
  refine zg3 ?_
  exact nx1 (i+1) (by omega)
 ·obtain rfl:i=d+1:=by omega
  have eend:(C.map (·.x)).take (d+1)++(List.replicate (d+1) (0:Rat)).drop (d+1)=(C.map (·.x)):=cp_end (by simp [hC]) (by simp [hC])
  try simp only [eend]
  refine zg14 ?_
  refine st_callMt 15 rfl rfl rfl (pures_map ratE _) (.cons (.imm (.pure hpk)) (.cons (.imm (.pure rfl)) (.cons .ref (.cons (.imm (.pure rfl)) (.cons (.imm (.pure hpa)) .nil))))) (.tl (.tl (.ref (Nat.succ_pos _)))) (c_Blos d a b (C.map (·.x)) args R h9 hab ha hb (by rw [List.length_map,hC]) hal hR1 hR hm0 hA) rfl (pures_map ratE _) (tame2 (ratE.pure _) rfl) ?_
  refine zg13 ?_
  refine wl_unroll ?_
  refine zg6 ?_
  refine wl_condX (b:=_) rfl (by decide) ?_
  refine zg20 ?_
  refine lp1 (fun(i:Nat) L=>((((((((((((St.mk L.slot (hp [(3,⟨3,[.agg [nI64 d,.list 3 ((kn2 d a b).map ratL),.list 12 (C.map q4L)]],true⟩),(6,⟨12,[.agg [ratL 0,ratL 0,ratL 0,ratL 0]],true⟩),(7,⟨12,[.agg [ratL (blo d a b (C.map (·.x)) args),ratL 0,ratL 0,ratL 0]],true⟩),(15,⟨3,((C.map (·.y)).take i++(C.map (·.x)).drop i).map ratL,true⟩)])).put (some 1) (nI64 d)).put (some 2) (.list 3 (args.map ratL))).put (some 3) (.eptr 3 3 0 0)).put (some 6) (.eptr 6 12 0 0)).put (some 7) (.eptr 7 12 0 0)).put (some 8) (.ref 15 3 0 (d+1))).put (some 9) (nI64 1)).put (some 16) (nI64 1)).put (some 20) (.list 12 (C.map q4L))).put (some 21) (nI64 (d+1))).put (some 22) (nI64 i))) (fun i=>i≤d+1) (fun i=>d+1-i) 0 (Nat.zero_le _) ?_
  rintro i L2 hi
  refine zg6 ?_
  refine wl_if rfl (fun h23r h23=>?_) (fun h23r h23=>?_)
  ·have hi2:i<d+1:=by omega
   have ewv:=getD_mapQ (C:=C) (i:=i) (by omega) (·.y)
   have ect:((C.map (·.y)).take i++(C.map (·.x)).drop i).set i ((C.getD i default).y)=(C.map (·.y)).take (i+1)++(C.map (·.x)).drop (i+1):=by
    rw [←ewv]
    exact cp_set (by simp [hC]) (by simp [hC];omega)
   have ecl:((C.map (·.y)).take i++(C.map (·.x)).drop i).length=d+1:=by rw [cp_len (by simp [hC]) (by simp [hC];omega)];simp [hC]
   refine zg25 ?_
   refine wl_regW (Weak.kill _ 11) ?_
   refine st_pure rfl (.bin rfl rfl (add1N (by omega))) ?_
   refine zg3 ?_
   exact nx1 (i+1) (by omega)
  ·obtain rfl:i=d+1:=by omega
   have eend:(C.map (·.y)).take (d+1)++(C.map (·.x)).drop (d+1)=(C.map (·.y)):=cp_end (by simp [hC]) (by simp [hC])
   try simp only [eend]
   refine zg14 ?_
   refine st_callMt 15 rfl rfl rfl (pures_map ratE _) (.cons (.imm (.pure hpk)) (.cons (.imm (.pure rfl)) (.cons .ref (.cons (.imm (.pure rfl)) (.cons (.imm (.pure hpa)) .nil))))) (.tl (.tl (.ref (Nat.succ_pos _)))) (c_Blos d a b (C.map (·.y)) args R h9 hab ha hb (by rw [List.length_map,hC]) hal hR1 hR hm1 hA) rfl (pures_map ratE _) (tame2 (ratE.pure _) rfl) ?_
   refine zg13 ?_
   refine wl_unroll ?_
   refine zg6 ?_
   refine wl_condX (b:=_) rfl (by decide) ?_
   refine zg20 ?_
   refine lp1 (fun(i:Nat) L=>((((((((((((St.mk L.slot (hp [(3,⟨3,[.agg [nI64 d,.list 3 ((kn2 d a b).map ratL),.list 12 (C.map q4L)]],true⟩),(6,⟨12,[.agg [ratL 0,ratL 0,ratL 0,ratL 0]],true⟩),(7,⟨12,[.agg [ratL (blo d a b (C.map (·.x)) args),ratL (blo d a b (C.map (·.y)) args),ratL 0,ratL 0]],true⟩),(15,⟨3,((C.map (·.z)).take i++(C.map (·.y)).drop i).map ratL,true⟩)])).put (some 1) (nI64 d)).put (some 2) (.list 3 (args.map ratL))).put (some 3) (.eptr 3 3 0 0)).put (some 6) (.eptr 6 12 0 0)).put (some 7) (.eptr 7 12 0 0)).put (some 8) (.ref 15 3 0 (d+1))).put (some 9) (nI64 2)).put (some 16) (nI64 2)).put (some 20) (.list 12 (C.map q4L))).put (some 21) (nI64 (d+1))).put (some 22) (nI64 i))) (fun i=>i≤d+1) (fun i=>d+1-i) 0 (Nat.zero_le _) ?_
   rintro i L2 hi
   refine zg6 ?_
   refine wl_if rfl (fun h23r h23=>?_) (fun h23r h23=>?_)
   ·have hi2:i<d+1:=by omega
    have ewv:=getD_mapQ (C:=C) (i:=i) (by omega) (·.z)
    have ect:((C.map (·.z)).take i++(C.map (·.y)).drop i).set i ((C.getD i default).z)=(C.map (·.z)).take (i+1)++(C.map (·.y)).drop (i+1):=by
     rw [←ewv]
     exact cp_set (by simp [hC]) (by simp [hC];omega)
    have ecl:((C.map (·.z)).take i++(C.map (·.y)).drop i).length=d+1:=by rw [cp_len (by simp [hC]) (by simp [hC];omega)];simp [hC]
    refine zg25 ?_
    refine wl_regW (Weak.kill _ 11) ?_
    refine st_pure rfl (.bin rfl rfl (add1N (by omega))) ?_
    refine zg3 ?_
    exact nx1 (i+1) (by omega)
   ·obtain rfl:i=d+1:=by omega
    have eend:(C.map (·.z)).take (d+1)++(C.map (·.y)).drop (d+1)=(C.map (·.z)):=cp_end (by simp [hC]) (by simp [hC])
    try simp only [eend]
    refine zg14 ?_
    refine st_callMt 15 rfl rfl rfl (pures_map ratE _) (.cons (.imm (.pure hpk)) (.cons (.imm (.pure rfl)) (.cons .ref (.cons (.imm (.pure rfl)) (.cons (.imm (.pure hpa)) .nil))))) (.tl (.tl (.ref (Nat.succ_pos _)))) (c_Blos d a b (C.map (·.z)) args R h9 hab ha hb (by rw [List.length_map,hC]) hal hR1 hR hm2 hA) rfl (pures_map ratE _) (tame2 (ratE.pure _) rfl) ?_
    refine zg13 ?_
    refine wl_unroll ?_
    refine zg6 ?_
    refine wl_condX (b:=_) rfl (by decide) ?_
    refine zg20 ?_
    refine lp1 (fun(i:Nat) L=>((((((((((((St.mk L.slot (hp [(3,⟨3,[.agg [nI64 d,.list 3 ((kn2 d a b).map ratL),.list 12 (C.map q4L)]],true⟩),(6,⟨12,[.agg [ratL 0,ratL 0,ratL 0,ratL 0]],true⟩),(7,⟨12,[.agg [ratL (blo d a b (C.map (·.x)) args),ratL (blo d a b (C.map (·.y)) args),ratL (blo d a b (C.map (·.z)) args),ratL 0]],true⟩),(15,⟨3,((C.map (·.w)).take i++(C.map (·.z)).drop i).map ratL,true⟩)])).put (some 1) (nI64 d)).put (some 2) (.list 3 (args.map ratL))).put (some 3) (.eptr 3 3 0 0)).put (some 6) (.eptr 6 12 0 0)).put (some 7) (.eptr 7 12 0 0)).put (some 8) (.ref 15 3 0 (d+1))).put (some 9) (nI64 3)).put (some 16) (nI64 3)).put (some 20) (.list 12 (C.map q4L))).put (some 21) (nI64 (d+1))).put (some 22) (nI64 i))) (fun i=>i≤d+1) (fun i=>d+1-i) 0 (Nat.zero_le _) ?_
    rintro i L2 hi
    refine zg6 ?_
    refine wl_if rfl (fun h23r h23=>?_) (fun h23r h23=>?_)
    ·have hi2:i<d+1:=by omega
     have ewv:=getD_mapQ (C:=C) (i:=i) (by omega) (·.w)
     have ect:((C.map (·.w)).take i++(C.map (·.z)).drop i).set i ((C.getD i default).w)=(C.map (·.w)).take (i+1)++(C.map (·.z)).drop (i+1):=by
      rw [←ewv]
      exact cp_set (by simp [hC]) (by simp [hC];omega)
     have ecl:((C.map (·.w)).take i++(C.map (·.z)).drop i).length=d+1:=by rw [cp_len (by simp [hC]) (by simp [hC];omega)];simp [hC]
     refine zg25 ?_
     refine wl_regW (Weak.kill _ 11) ?_
     refine st_pure rfl (.bin rfl rfl (add1N (by omega))) ?_
     refine zg3 ?_
     exact nx1 (i+1) (by omega)
    ·obtain rfl:i=d+1:=by omega
     have eend:(C.map (·.w)).take (d+1)++(C.map (·.z)).drop (d+1)=(C.map (·.w)):=cp_end (by simp [hC]) (by simp [hC])
     try simp only [eend]
     refine zg14 ?_
     refine st_callMt 15 rfl rfl rfl (pures_map ratE _) (.cons (.imm (.pure hpk)) (.cons (.imm (.pure rfl)) (.cons .ref (.cons (.imm (.pure rfl)) (.cons (.imm (.pure hpa)) .nil))))) (.tl (.tl (.ref (Nat.succ_pos _)))) (c_Blos d a b (C.map (·.w)) args R h9 hab ha hb (by rw [List.length_map,hC]) hal hR1 hR hm3 hA) rfl (pures_map ratE _) (tame2 (ratE.pure _) rfl) ?_
     refine zg13 ?_
     refine wl_unroll ?_
     refine zg6 ?_
     refine wl_condY (b:=_) rfl (by decide) ?_
     refine zg12 ?_
     exact retC [] rfl rfl rfl cs (at_all cs rfl) T198 (.pure (q4E.pure (pol d a b C args)))
namespace H_c_Over
theorem zSm {p q:Prop} (k:q) (e:p=q:=by simp only [e1,e2,e3,e4,p1,p2,p3,q1,q2,q3,l1,t0,t1,r1,r2,r3,r4,Nat.zero_add,Nat.reduceMul,Nat.reduceAdd,b1,b2,b3,b4,b5,b6,i1,i2,i3,i4,i5,i6,Nat.reduceBEq,hkl,hkd,ers,etk,hC,ejd,dfq,List.length_map,take_map_len,map_snoc,len_snoc,List.length_cons,List.length_nil,List.nil_append,List.map_nil,List.take_nil,List.append_nil,q4L_kill,kills_map q4E,List.set_cons_zero,List.set_cons_succ,Nat.reduceEqDiff,reduceIte,if_true,if_false,ptL_kill,poL_kill,kills_map ptE,kills_map poE,kills_map ratE,ratL_kill,spL_kill,LV.kill,kills];exact rfl):p:=e.mpr k
end H_c_Over
open H_c_Over in
theorem c_Over (d:Nat) (a b:Rat) (C:List Q4) (R:Nat) (h9:d≤6) (hab:a<b) (ha:rl a≤100) (hb:rl b≤100) (hC:C.length=d+1) (hR1:1≤R) (hR:R≤10000000) (hcR:∀ q∈C,bd4 R q):CallP Tryz.prog 148 [.agg [nI64 d,.list 3 ((kn2 d a b).map ratL),.list 12 (C.map q4L)],.list 3 ((kn2 d a b).map ratL)] (.agg [nI64 d,.list 3 ((kn2 d a b).map ratL),.list 12 (C.map q4L)]):=by
 have hkl:=kn2_len d a b
 have hlo:=kn2_lo d a b
 have hhi:=kn2_hi d a b
 have hpS:LV.pure (.agg [nI64 d,.list 3 ((kn2 d a b).map ratL),.list 12 (C.map q4L)])=true:=by simp [LV.pure,pures,pures_map ratE,pures_map q4E]
 have hpk:=pure_lst ratE 3 (kn2 d a b)
 have hkd:(kn2 d a b).getD d 0=a:=by rw [kn2_get _ _ _ _ (by omega),if_pos (by omega)]
 have hdd:2*(d+1)-d-1=d+1:=by omega
 have hKP:=c_KPoles (kn2 d a b) d (by omega) (by omega)
 rw [hkl,hdd] at hKP
 refine fnP Tryz.func148 (ht:=(fun g=>LV.ren_pure g _ (by simp [LV.pure,pures,pures_map ratE,pures_map q4E]))) ?_
 have ers:True:=trivial
 have etk:True:=trivial
 have ejd:True:=trivial
 refine zg22 ?_
 refine cp am2 (hKP) ?_
 refine zg4 ?_
 refine wl_weak ((Weak.cell 5 rfl (fun Z μ w cs h=>rep_net 51 12 _ _ Z μ w cs h)).trans (Weak.newB _ 51 12 rfl)) ?_
 refine lp1 (fun(j:Nat) L=>(((((((St.mk L.slot (hp [(2,⟨3,[.agg [nI64 d,.list 3 ((kn2 d a b).map ratL),.list 12 (C.map q4L)]],true⟩),(4,⟨3,[.agg [.v (.int .i64 0),.v (.slice none 0 0),.v (.slice none 0 0)]],true⟩),(5,⟨3,[.agg [nI64 d,.list 3 ((kn2 d a b).map ratL),.ref 51 12 0 j]],true⟩),(51,⟨12,(C.take j).map q4L,true⟩)])).put (some 1) (.list 3 ((kn2 d a b).map ratL))).put (some 2) (.eptr 2 3 0 0)).put (some 4) (.eptr 4 3 0 0)).put (some 5) (.eptr 5 3 0 0)).put (some 17) (nI64 (d+1))).put (some 18) (nI64 j))) (fun j=>j≤d+1) (fun j=>d+1-j) 0 (Nat.zero_le _) ?_
 rintro j L1 hj
 refine zg6 ?_
 refine wl_if rfl (fun h19r h19=>?_) (fun h19r h19=>?_)
 ·have hj2:j<d+1:=by omega
  have ers:=take_snocQ (C:=C) (k:=j) (by omega)
  have etk:((C.take j).map q4L).take j=(C.take j).map q4L:=List.take_of_length_le (by rw [List.length_map,List.length_take];omega)
  have ejd:((kn2 d a b).take (j+d+1)).drop (j+1)=((kn2 d a b).drop (j+1)).take d:=by
   rw [List.drop_take]
   congr 1
   omega
  have hPo:CallP Tryz.prog 220 [.agg [nI64 d,.list 3 ((kn2 d a b).map ratL),.list 12 (C.map q4L)],nI64 d,.list 3 ((((kn2 d a b).drop (j+1)).take d).map ratL)] (q4L (C.getD j default)):=by
   have:=c_polar d a b C (((kn2 d a b).drop (j+1)).take d) R h9 hab ha hb hC (by rw [List.length_take,List.length_drop,hkl];omega) hR1 hR hcR (fun t ht=>kn2_rl ha hb t (List.mem_of_mem_drop (List.mem_of_mem_take ht)))
   rwa [pol_kn2 hab hC (by omega)] at this
  refine zg14 ?_
  refine cp am2 (c_piece2 d a b j hab ha hb h9 (by omega)) ?_
  refine zg4 ?_
  refine wl_regD 14 (by decide +kernel) ?_
  refine zg8 ?_
  try simp only [t1,dfq,hkd]
  refine cp am3 (c_KIvl2 d a b a h9 ha hb (by omega) (by grind) hab) ?_
  refine zg7 ?_
  refine wl_regD 15 (by decide +kernel) ?_
  refine zg6 ?_
  refine st_pure rfl (.bin rfl rfl (add1N (by omega))) ?_
  refine zg3 ?_
  refine st_pure rfl (.bin rfl rfl (add64N (a:=j) (b:=d) (by omega))) ?_
  refine st_pure rfl (.bin rfl rfl (add1N (by omega))) ?_
  refine st_pure rfl (.sliceLb (a:=j+1) (h:=j+d+1) ratE rfl Tryz.underlying26 T32 rfl rfl om om) ?_
  refine zSm ?_
  refine cp am3 (hPo) ?_
  refine zg1 ?_
  refine st_store rfl (.appX (d:=51) (news:=[q4L (C.getD j default)]) rfl rfl rfl rfl (by simp;omega) (.inl rfl) (by decide) Tryz.underlying152 Tryz.underlying152 Z198 T198 cs B198 (.inl ⟨50,0,_,rfl,by decide,rfl,rfl,by simp,rfl,by simp [pures,q4E.pure]⟩) (by simp;omega) (by simp;omega) (by decide)) ?_
  refine zg5 ?_
  refine wl_regW (Weak.kill _ 50) ?_
  refine st_pure rfl (.bin rfl rfl (add1N (by omega))) ?_
  refine zg3 ?_
  exact nx1 (j+1) (by omega)
 ·obtain rfl:j=d+1:=by omega
  have hE:C.take (d+1)=C:=List.take_of_length_le (by omega)
  simp only [hE]
  refine zg12 ?_
  exact retC [51] rfl rfl rfl cs (at_all cs rfl) T154 (.agg (.cons (.pure rfl) (.cons (.pure hpk) (.cons (imm_refm (l:=C) q4E rfl rfl hC.symm) .nil))))
namespace H_c_IdxRc
theorem zSm {p q:Prop} (k:q) (e:p=q:=by simp only [e1,e2,e3,e4,p1,p2,p3,q1,q2,q3,l1,t0,t1,r1,r2,r3,r4,Nat.zero_add,Nat.reduceMul,Nat.reduceAdd,b1,b2,b3,b4,b5,b6,i1,i2,i3,i4,i5,i6,Nat.reduceBEq,dfq,List.set_cons_zero,List.set_cons_succ,Nat.reduceEqDiff,reduceIte,if_true,if_false,ptL_kill,poL_kill,kills_map ptE,kills_map poE,kills_map ratE,ratL_kill,spL_kill,LV.kill,kills,List.length_map];exact rfl):p:=e.mpr k
end H_c_IdxRc
open H_c_IdxRc in
theorem c_IdxRc (f:Nat) (cap:List LV) (hcp:pures cap=true) (hcs:∀ x∈cap,x.csize=1∧x.isAgg=false) (pr:Rat→Bool) (l:List Rat) (hl:l.length≤1048576) (hf:∀ x∈l,CallP Tryz.prog f ([ratL x]++cap) (bL (pr x))):CallP Tryz.prog 149 [.list 3 (l.map ratL),.clo f cap] (iL (fIdx pr l)):=by
 refine fnP Tryz.func149 ?_
 refine zg14 ?_
 refine lp1 (fun(i:Nat) L=>((((((St.mk L.slot (hp [])).put (some 0) (.list 3 (l.map ratL))).put (some 1) (.clo f cap)).put (some 6) (.list 3 (l.map ratL))).put (some 7) (nI64 l.length)).put (some 8) (nI64 i))) (fun i=>i≤l.length∧∀ j,j<i→pr (l.getD j default)=false) (fun i=>l.length-i) 0 ⟨Nat.zero_le _,fun j hj=>absurd hj (Nat.not_lt_zero j)⟩ ?_
 rintro i L1 ⟨hi,h0⟩
 refine zg6 ?_
 refine wl_if rfl (fun h9r h9=>?_) (fun h9r h9=>?_)
 ·have hi2:i<l.length:=by omega
  have hc:=hf _ (getD_mem hi2)
  refine zg17 ?_
  refine st_opc [] rfl rfl (.clo (f:=f) (cap:=cap) (args:=[ratL (l.getD i 0)]) rfl (.cons im0 .nil) ⟨hcp,hcs⟩ hc.1 (by decide) (fun _ h=>by cases h)) (hc.2 _) ?_
  refine zg2 ?_
  refine wl_if rfl (fun h16r h16=>?_) (fun h16r h16=>?_)
  ·have hV:fIdx pr l=(i:Int):=fIdx_hit hi2 h0 (by first | exact h16r | exact h16)
   refine zg12 ?_
   rw [hV]
   exact ret1 rfl (.pure rfl)
  ·have hn:∀ j,j<i+1→pr (l.getD j default)=false:=fun j hj=>by
    rcases Nat.lt_succ_iff_lt_or_eq.1 hj with e | rfl
    ·exact h0 j e
    ·first | exact h16r | (simpa using h16)
   refine zg4 ?_
   refine st_pure rfl (.bin rfl rfl (add1N (by omega))) ?_
   refine zg3 ?_
   exact nx1 (i+1) ⟨by omega,hn⟩
 ·obtain rfl:i=l.length:=by omega
  refine zg11 ?_
  rw [fIdx_none h0]
  exact ret1 rfl (.pure rfl)
namespace H_c_SpCut1
theorem zSm {p q:Prop} (k:q) (e:p=q:=by simp only [e1,e2,e3,e4,p1,p2,p3,q1,q2,q3,l1,t0,t1,r1,r2,r3,r4,Nat.zero_add,Nat.reduceMul,Nat.reduceAdd,b1,b2,b3,b4,b5,b6,i1,i2,i3,i4,i5,i6,Nat.reduceBEq,List.set_cons_zero,List.set_cons_succ,Nat.reduceEqDiff,reduceIte,if_true,if_false,ptL_kill,poL_kill,kills_map ptE,kills_map poE,kills_map ratE,ratL_kill,spL_kill,LV.kill,kills];exact rfl):p:=e.mpr k
end H_c_SpCut1
open H_c_SpCut1 in
theorem c_SpCut1 (a x:Rat) (h:rl a+rl x≤100000):CallP Tryz.prog 150 [ratL x,.boxp (ratL a)] (bL (decide (cmpR x a > 0))):=by
 refine fnP Tryz.func150 ?_
 refine zg10 ?_
 refine cp am2 (c_RCmp x a (by omega)) ?_
 refine zg5 ?_
 exact ret1 rfl (.pure rfl)
namespace H_c_SpCut2
theorem zSm {p q:Prop} (k:q) (e:p=q:=by simp only [e1,e2,e3,e4,p1,p2,p3,q1,q2,q3,l1,t0,t1,r1,r2,r3,r4,Nat.zero_add,Nat.reduceMul,Nat.reduceAdd,b1,b2,b3,b4,b5,b6,i1,i2,i3,i4,i5,i6,Nat.reduceBEq,List.set_cons_zero,List.set_cons_succ,Nat.reduceEqDiff,reduceIte,if_true,if_false,ptL_kill,poL_kill,kills_map ptE,kills_map poE,kills_map ratE,ratL_kill,spL_kill,LV.kill,kills];exact rfl):p:=e.mpr k
end H_c_SpCut2
open H_c_SpCut2 in
theorem c_SpCut2 (a x:Rat) (h:rl a+rl x≤100000):CallP Tryz.prog 151 [ratL x,.boxp (ratL a)] (bL (decide (cmpR x a≥0))):=by
 refine fnP Tryz.func151 ?_
 refine zg10 ?_
 refine cp am2 (c_RCmp x a (by omega)) ?_
 refine zg5 ?_
 exact ret1 rfl (.pure rfl)
namespace H_c_SpCut
theorem zSm {p q:Prop} (k:q) (e:p=q:=by simp only [e1,e2,e3,e4,p1,p2,p3,q1,q2,q3,l1,t0,t1,r1,r2,r3,r4,Nat.zero_add,Nat.reduceMul,Nat.reduceAdd,b1,b2,b3,b4,b5,b6,i1,i2,i3,i4,i5,i6,Nat.reduceBEq,hkl,hlo,hhi,hix,eal,ebl,eap,ebp,hC,hsub,hdz,dfq,List.getD_cons_zero,List.getD_cons_succ,List.length_map,List.length_replicate,Nat.sub_self,List.drop_zero,List.replicate_zero,take_map_len,map_snoc,len_snoc,List.length_cons,List.length_nil,List.nil_append,List.map_nil,List.take_nil,List.append_nil,q4L_kill,kills_map q4E,List.set_cons_zero,List.set_cons_succ,Nat.reduceEqDiff,reduceIte,if_true,if_false,ptL_kill,poL_kill,kills_map ptE,kills_map poE,kills_map ratE,ratL_kill,spL_kill,LV.kill,kills];exact rfl):p:=e.mpr k
end H_c_SpCut
open H_c_SpCut in
theorem c_SpCut (d:Nat) (a b:Rat) (C:List Q4) (R:Nat) (h9:d≤6) (hab:a<b) (ha:rl a≤100) (hb:rl b≤100) (hC:C.length=d+1) (hR1:1≤R) (hR:R≤10000000) (hcR:∀ q∈C,bd4 R q):CallP Tryz.prog 84 [.agg [nI64 d,.list 3 ((kn2 d a b).map ratL),.list 12 (C.map q4L)],ratL a,ratL b] (.agg [nI64 d,.list 3 ((kn2 d a b).map ratL),.list 12 (C.map q4L)]):=by
 have hkl:=kn2_len d a b
 have hlo:=kn2_lo d a b
 have hhi:=kn2_hi d a b
 have hpS:LV.pure (.agg [nI64 d,.list 3 ((kn2 d a b).map ratL),.list 12 (C.map q4L)])=true:=by simp [LV.pure,pures,pures_map ratE,pures_map q4E]
 have hpk:=pure_lst ratE 3 (kn2 d a b)
 have hix:(((2*(d+1):Nat):Int)-1).toNat=2*(d+1)-1:=by omega
 have hsub:d+1-(d+1)=0:=Nat.sub_self _
 have hdz:((kn2 d a b).take (d+1)).drop (d+1)=[]:=List.drop_of_length_le (by rw [List.length_take,hkl];omega)
 have hS1:CallP Tryz.prog 133 [ratL a,ratL a] (bL true):=by
  have:=c_RSame a a (by omega)
  rwa [decide_eq_true rfl] at this
 have hS2:CallP Tryz.prog 133 [ratL b,ratL a] (bL false):=by
  have:=c_RSame b a (by omega)
  rwa [decide_eq_false (by grind)] at this
 have hS3:CallP Tryz.prog 133 [ratL b,ratL b] (bL true):=by
  have:=c_RSame b b (by omega)
  rwa [decide_eq_true rfl] at this
 have hO:=c_Over d a b C R h9 hab ha hb hC hR1 hR hcR
 have hkr:=kn2_rl (d:=d) ha hb
 have hI1:CallP Tryz.prog 149 [.list 3 ((kn2 d a b).map ratL),.clo 150 [.boxp (ratL a)]] (nI64 (d+1)):=by
  have:=c_IdxRc 150 [.boxp (ratL a)] (by simp [pures,LV.pure,ratE.pure]) (fun x hx=>by rw [List.mem_singleton.1 hx];exact⟨rfl,rfl⟩) (fun x=>decide (cmpR x a > 0)) (kn2 d a b) (by omega) (fun x hx=>c_SpCut1 a x (by have:=hkr x hx;omega))
  rwa [fIdx_kn2 (decide_eq_false (fun e=>by have:=cmpR_pos.1 e;grind)) (decide_eq_true (cmpR_pos.2 hab))] at this
 have hI2:CallP Tryz.prog 149 [.list 3 ((kn2 d a b).map ratL),.clo 151 [.boxp (ratL b)]] (nI64 (d+1)):=by
  have:=c_IdxRc 151 [.boxp (ratL b)] (by simp [pures,LV.pure,ratE.pure]) (fun x hx=>by rw [List.mem_singleton.1 hx];exact⟨rfl,rfl⟩) (fun x=>decide (cmpR x b≥0)) (kn2 d a b) (by omega) (fun x hx=>c_SpCut2 b x (by have:=hkr x hx;omega))
  rwa [fIdx_kn2 (decide_eq_false (fun e=>by have:=cmpR_ge.1 e;grind)) (decide_eq_true (cmpR_ge.2 (by grind)))] at this
 refine fnP Tryz.func84 (ht:=(fun g=>LV.ren_pure g _ (by simp [LV.pure,pures,pures_map ratE,pures_map q4E]))) ?_
 have eal:True:=trivial
 have ebl:True:=trivial
 have eap:True:=trivial
 have ebp:True:=trivial
 refine zg25 ?_
 refine wl_unroll ?_
 refine zg6 ?_
 refine wl_condX (b:=_) rfl (by decide) ?_
 refine zg12 ?_
 refine wl_regD 16 (by decide +kernel) ?_
 refine zg4 ?_
 refine zSm ?_
 refine cp am2 (hS1) ?_
 refine zg1 ?_
 refine st_skip (guardX (v:=true) rfl rfl ((rfl)) rfl) ?_
 refine st_skip (guardX (v:=true) rfl rfl ((rfl)) rfl) ?_
 refine st_skip (guardX (v:=true) rfl rfl ((rfl)) rfl) ?_
 refine st_skip (guardX (v:=true) rfl rfl ((rfl)) rfl) ?_
 refine st_skip (guardX (v:=true) rfl rfl ((rfl)) rfl) ?_
 refine st_skip (guardX (v:=true) rfl rfl ((rfl)) rfl) ?_
 refine st_skip (guardX (v:=true) rfl rfl ((rfl)) rfl) ?_
 refine zSm ?_
 refine st_skip (guardX (v:=true) rfl rfl ((rfl)) rfl) ?_
 refine st_pure rfl (.pickT rfl ((rfl))) ?_
 refine zg4 ?_
 refine wl_unroll ?_
 refine zg2 ?_
 refine wl_regD 10 (by decide +kernel) ?_
 refine zg3 ?_
 refine st_skip (guardX (v:=false) rfl rfl ((rfl)) rfl) ?_
 refine st_skip (guardX (v:=false) rfl rfl ((rfl)) rfl) ?_
 refine st_skip (guardX (v:=false) rfl rfl ((rfl)) rfl) ?_
 refine st_skip (guardX (v:=false) rfl rfl ((rfl)) rfl) ?_
 refine st_skip (guardX (v:=false) rfl rfl ((rfl)) rfl) ?_
 refine st_skip (guardX (v:=false) rfl rfl ((rfl)) rfl) ?_
 refine st_pure rfl (.pickF rfl ((rfl))) ?_
 refine zg2 ?_
 refine wl_condY (b:=_) rfl (rfl) ?_
 refine zg6 ?_
 refine wl_regW (Weak.kill _ 9) ?_
 refine zg4 ?_
 refine wl_unroll ?_
 refine zg6 ?_
 refine wl_condX (b:=_) rfl (by decide) ?_
 refine zg12 ?_
 refine wl_regD 16 (by decide +kernel) ?_
 refine zg4 ?_
 refine zSm ?_
 refine cp am2 (hS2) ?_
 refine zg1 ?_
 refine st_pure (guardX (v:=false) rfl rfl ((rfl)) rfl) ldA ?_
 refine st_pure (guardX (v:=false) rfl rfl ((rfl)) rfl) (.move _) ?_
 refine st_pure (guardX (v:=false) rfl rfl ((rfl)) rfl) (.move _) ?_
 refine st_pure (guardX (v:=false) rfl rfl ((rfl)) rfl) lnA ?_
 refine st_pure (guardX (v:=false) rfl rfl ((rfl)) rfl) (.bin rfl rfl (sub1N (by omega) (by omega))) ?_
 refine st_pure (guardX (v:=false) rfl rfl ((rfl)) rfl) ixA ?_
 refine st_pure (guardX (v:=false) rfl rfl ((rfl)) rfl) ldA ?_
 refine zSm ?_
 refine st_callP (guardX (v:=false) rfl rfl ((rfl)) rfl) (.cons im0 (.cons im0 .nil)) (hS3) ?_
 refine st_pure rfl (.pickF rfl ((rfl))) ?_
 refine zg4 ?_
 refine wl_unroll ?_
 refine zg2 ?_
 refine wl_regD 10 (by decide +kernel) ?_
 refine zg3 ?_
 refine st_skip (guardX (v:=false) rfl rfl ((rfl)) rfl) ?_
 refine st_skip (guardX (v:=false) rfl rfl ((rfl)) rfl) ?_
 refine st_skip (guardX (v:=false) rfl rfl ((rfl)) rfl) ?_
 refine st_skip (guardX (v:=false) rfl rfl ((rfl)) rfl) ?_
 refine st_skip (guardX (v:=false) rfl rfl ((rfl)) rfl) ?_
 refine st_skip (guardX (v:=false) rfl rfl ((rfl)) rfl) ?_
 refine st_pure rfl (.pickF rfl ((rfl))) ?_
 refine zg2 ?_
 refine wl_condY (b:=_) rfl (rfl) ?_
 refine zg6 ?_
 refine wl_regW (Weak.kill _ 9) ?_
 refine zg4 ?_
 refine wl_unroll ?_
 refine zg6 ?_
 refine wl_condY (b:=_) rfl (by decide) ?_
 refine zg9 ?_
 refine cp am2 (hO) ?_
 refine zg20 ?_
 refine st_opc [4] rfl rfl (.mk (caps:=[.boxp (ratL a)]) (.cons (.eptr rfl rfl rfl (ratE.csize _) (ratL_all _) (ratE.pure _) rfl) .nil) (fun x hx=>by rw [List.mem_singleton.1 hx];exact⟨rfl,rfl⟩)) rfl ?_
 refine st_callP rfl (.cons (.pure hpk) (.cons (.pure (show LV.pure (.clo 150 [.boxp (ratL a)])=true by simp [LV.pure,pures,ratE.pure])) .nil)) (hI1) ?_
 refine st_pure rfl (.bin rfl rfl (sub1N (by omega) (by omega))) ?_
 refine zg6 ?_
 refine st_opc [5] rfl rfl (.mk (caps:=[.boxp (ratL b)]) (.cons (.eptr rfl rfl rfl (ratE.csize _) (ratL_all _) (ratE.pure _) rfl) .nil) (fun x hx=>by rw [List.mem_singleton.1 hx];exact⟨rfl,rfl⟩)) rfl ?_
 refine st_callP rfl (.cons (.pure hpk) (.cons (.pure (show LV.pure (.clo 151 [.boxp (ratL b)])=true by simp [LV.pure,pures,ratE.pure])) .nil)) (hI2) ?_
 refine zg8 ?_
 refine st_pure rfl (.bin rfl rfl (add1N (by omega))) ?_
 refine zg4 ?_
 refine wl_weak ((Weak.cell 12 rfl (fun Z μ w cs h=>rep_crv2 74 3 _ _ Z μ w cs h)).trans (Weak.newB _ 74 3 rfl)) ?_
 refine lp1 (fun(m:Nat) L=>((((((((((((St.mk L.slot (hp [(3,⟨3,[.agg [nI64 d,.list 3 ((kn2 d a b).map ratL),.list 12 (C.map q4L)]],true⟩),(4,⟨3,[ratL a],false⟩),(5,⟨3,[ratL b],false⟩),(6,⟨3,[.agg [.v (.int .i64 0),.v (.slice none 0 0),.v (.slice none 0 0)]],true⟩),(11,⟨3,[.agg [nI64 d,.list 3 ((kn2 d a b).map ratL),.list 12 (C.map q4L)]],true⟩),(12,⟨3,[.agg [nI64 d,.ref 74 3 0 m,.v (.slice none 0 0)]],true⟩),(74,⟨3,(List.replicate m a).map ratL,true⟩)])).put (some 3) (.eptr 3 3 0 0)).put (some 4) (.eptr 4 3 0 0)).put (some 5) (.eptr 5 3 0 0)).put (some 6) (.eptr 6 3 0 0)).put (some 7) (.list 3 ((kn2 d a b).map ratL))).put (some 11) (.eptr 11 3 0 0)).put (some 12) (.eptr 12 3 0 0)).put (some 13) (nI64 d)).put (some 14) (nI64 (d+1))).put (some 67) (nI64 (d+1))).put (some 68) (nI64 m))) (fun m=>m≤d+1) (fun m=>d+1-m) 0 (Nat.zero_le _) ?_
 rintro m L3 hm
 refine zg6 ?_
 refine wl_if rfl (fun h69r h69=>?_) (fun h69r h69=>?_)
 ·have hm2:m<d+1:=by omega
  have eal:(List.replicate m a++[a])=List.replicate (m+1) a:=by rw [List.replicate_succ']
  have eap:((List.replicate m a).map ratL).take m=(List.replicate m a).map ratL:=List.take_of_length_le (by simp)
  refine zg9 ?_
  refine st_store rfl (.appX (d:=74) (news:=[ratL a]) rfl rfl rfl rfl (by first | (simp;done) | (simp;omega) | omega) (.inl rfl) (by decide) Tryz.underlying26 Tryz.underlying26 Z32a T32 rfl B32 (.inl ⟨73,0,_,rfl,by decide,rfl,rfl,by simp,rfl,by simp [pures,ratE.pure]⟩) (by first | (simp;done) | (simp;omega) | omega) (by first | (simp;done) | (simp;omega) | omega) (by decide)) ?_
  refine zg5 ?_
  refine wl_regW (Weak.kill _ 73) ?_
  refine st_pure rfl (.bin rfl rfl (add1N (by omega))) ?_
  refine zg3 ?_
  exact nx1 (m+1) (by omega)
 ·obtain rfl:m=d+1:=by omega
  have eal:True:=trivial
  have eap:((List.replicate (d+1) a).map ratL).take (d+1)=(List.replicate (d+1) a).map ratL:=List.take_of_length_le (by simp)
  refine zg6 ?_
  refine wl_regD 7 (by decide +kernel) ?_
  refine zg4 ?_
  refine st_pure rfl (.bin rfl rfl (add1N (by omega))) ?_
  refine zg1 ?_
  refine st_pure rfl (.sliceLb (a:=d+1) (h:=d+1) ratE rfl Tryz.underlying26 T32 rfl rfl om om) ?_
  refine zSm ?_
  refine st_store rfl (.appX (d:=74) (news:=[]) rfl rfl rfl rfl (by simp) (.inl rfl) (by decide) Tryz.underlying26 Tryz.underlying26 Z32a T32 rfl B32 (.inr (.inl rfl)) (by first | (simp;done) | (simp;omega) | omega) (by first | (simp;done) | (simp;omega) | omega) (by decide)) ?_
  refine zg9 ?_
  refine st_pure rfl (.bin rfl rfl (add1N (by omega))) ?_
  refine zg4 ?_
  refine lp1 (fun(m:Nat) L=>((((((((((((St.mk L.slot (hp [(3,⟨3,[.agg [nI64 d,.list 3 ((kn2 d a b).map ratL),.list 12 (C.map q4L)]],true⟩),(4,⟨3,[ratL a],false⟩),(5,⟨3,[ratL b],false⟩),(6,⟨3,[.agg [.v (.int .i64 0),.v (.slice none 0 0),.v (.slice none 0 0)]],true⟩),(11,⟨3,[.agg [nI64 d,.list 3 ((kn2 d a b).map ratL),.list 12 (C.map q4L)]],true⟩),(12,⟨3,[.agg [nI64 d,.ref 74 3 0 (d+1+m),.v (.slice none 0 0)]],true⟩),(74,⟨3,(List.replicate (d+1) a++List.replicate m b).map ratL,true⟩)])).put (some 3) (.eptr 3 3 0 0)).put (some 4) (.eptr 4 3 0 0)).put (some 5) (.eptr 5 3 0 0)).put (some 6) (.eptr 6 3 0 0)).put (some 7) (.list 3 ((kn2 d a b).map ratL))).put (some 11) (.eptr 11 3 0 0)).put (some 12) (.eptr 12 3 0 0)).put (some 13) (nI64 d)).put (some 14) (nI64 (d+1))).put (some 88) (nI64 (d+1))).put (some 89) (nI64 m))) (fun m=>m≤d+1) (fun m=>d+1-m) 0 (Nat.zero_le _) ?_
  rintro m L4 hm
  refine zg6 ?_
  refine wl_if rfl (fun h90r h90=>?_) (fun h90r h90=>?_)
  ·have hm2:m<d+1:=by omega
   have ebl:(List.replicate (d+1) a++List.replicate m b)++[b]=List.replicate (d+1) a++List.replicate (m+1) b:=by rw [List.append_assoc,←List.replicate_succ']
   have ebp:((List.replicate (d+1) a++List.replicate m b).map ratL).take (d+1+m)=(List.replicate (d+1) a++List.replicate m b).map ratL:=List.take_of_length_le (by simp)
   refine zg9 ?_
   refine st_store rfl (.appX (d:=74) (news:=[ratL b]) rfl rfl rfl rfl (by first | (simp;done) | (simp;omega) | omega) (.inl rfl) (by decide) Tryz.underlying26 Tryz.underlying26 Z32a T32 rfl B32 (.inl ⟨94,0,_,rfl,by decide,rfl,rfl,by simp,rfl,by simp [pures,ratE.pure]⟩) (by first | (simp;done) | (simp;omega) | omega) (by first | (simp;done) | (simp;omega) | omega) (by decide)) ?_
   refine zg5 ?_
   refine wl_regW (Weak.kill _ 94) ?_
   refine st_pure rfl (.bin rfl rfl (add1N (by omega))) ?_
   refine zg3 ?_
   exact nx1 (m+1) (by omega)
  ·obtain rfl:m=d+1:=by omega
   have hkE:List.replicate (d+1) a++List.replicate (d+1) b=kn2 d a b:=rfl
   have hTC:C.take (d+1)=C:=List.take_of_length_le (by omega)
   have hkE2:d+1+(d+1)=2*(d+1):=by omega
   refine zg12 ?_
   refine st_pure rfl (.bin rfl rfl (subNN (a:=d) (b:=d) (c:=0) (by omega) (by omega))) ?_
   refine zg1 ?_
   refine st_pure rfl (.sliceLb (a:=0) (h:=d+1) q4E rfl Tryz.underlying152 T198 rfl rfl om om) ?_
   refine zg11 ?_
   try simp only [hTC,hkE,hkE2]
   exact retC [74] rfl rfl rfl cs (at_all cs rfl) T154 (.agg (.cons (.pure rfl) (.cons (imm_refm (l:=kn2 d a b) ratE rfl rfl (by rw [hkl])) (.cons (.pure (pure_lst q4E 12 _)) .nil))))
structure inOK (d:Nat) (T:Rat) (inn:List Rat) (E:Rat):Prop where
 btw:∀ x∈inn,T<x∧x<E
 srt:∀ i,i+1<inn.length→inn.getD i 0≤inn.getD (i+1) 0
 tms:∀ x∈inn,tmN inn x inn.length≤d
 len:inn.length≤2
 sz:∀ x∈inn,rl x≤64
end Go.Proofs.YthpfpgfehmhpdaaGreat
end
section
set_option linter.unusedVariables false
set_option linter.unusedSimpArgs false
namespace Go.Lg
def plainOp:Op→Bool
 | .move _=>true
 | .pick ..=>true
 | .binOp ..=>true
 | .load ..=>true
 | .fieldAddr ..=>true
 | .indexAddr ..=>true
 | .call ⟨.builtin .len,_,_⟩=>true
 | _=>false
section
variable {P:Program} {H:Heap} {ρ ρ':Operand→LV}
theorem OpP.cong {op:Op} {r:LV} (h:OpP P H ρ op r) (hp:plainOp op=true) (hr:∀ x∈op.operands,ρ' x=ρ x):OpP P H ρ' op r:=by
 cases h with
 | move x=>rw [←hr x (by simp [Op.operands])];exact .move x
 | pick hc =>
  rename_i c x y t
  have e1:=hr x (by simp [Op.operands])
  have e2:=hr y (by simp [Op.operands])
  have:=OpP.pick (P:=P) (H:=H) (ρ:=ρ') (x:=x) (y:=y) ((hr _ (by simp [Op.operands])).trans hc)
  rw [e1,e2] at this
  exact this
 | bin hx hy h=>exact .bin ((hr _ (by simp [Op.operands])).trans hx) ((hr _ (by simp [Op.operands])).trans hy) h
 | sh hx hy h=>exact .sh ((hr _ (by simp [Op.operands])).trans hx) ((hr _ (by simp [Op.operands])).trans hy) h
 | beq hx hy hT=>exact .beq ((hr _ (by simp [Op.operands])).trans hx) ((hr _ (by simp [Op.operands])).trans hy) hT
 | bne hx hy hT=>exact .bne ((hr _ (by simp [Op.operands])).trans hx) ((hr _ (by simp [Op.operands])).trans hy) hT
 | addS hx hy h=>exact .addS ((hr _ (by simp [Op.operands])).trans hx) ((hr _ (by simp [Op.operands])).trans hy) h
 | eqS hx hy=>exact .eqS ((hr _ (by simp [Op.operands])).trans hx) ((hr _ (by simp [Op.operands])).trans hy)
 | eqN hx hy hT=>exact .eqN ((hr _ (by simp [Op.operands])).trans hx) ((hr _ (by simp [Op.operands])).trans hy) hT
 | eqNL hx hy hT=>exact .eqNL ((hr _ (by simp [Op.operands])).trans hx) ((hr _ (by simp [Op.operands])).trans hy) hT
 | fieldAddrB hq hT hr'=>exact .fieldAddrB ((hr _ (by simp [Op.operands])).trans hq) hT hr'
 | fieldAddrE hq hT hk=>exact .fieldAddrE ((hr _ (by simp [Op.operands])).trans hq) hT hk
 | loadB hq hT hc=>exact .loadB ((hr _ (by simp [Op.operands])).trans hq) hT hc
 | loadE hq hb hs hi hx hr' hT=>exact .loadE ((hr _ (by simp [Op.operands])).trans hq) hb hs hi hx hr' hT
 | idxAE hx hT hE hi h0 hm=>exact .idxAE ((hr _ (by simp [Op.operands])).trans hx) hT hE ((hr _ (by simp [Op.operands])).trans hi) h0 hm
 | idxAB hx hT hE hf hi h0 hr'=>exact .idxAB ((hr _ (by simp [Op.operands])).trans hx) hT hE hf ((hr _ (by simp [Op.operands])).trans hi) h0 hr'
 | idxL hx hT hE hi h0 hr' hc=>exact .idxL ((hr _ (by simp [Op.operands])).trans hx) hT hE ((hr _ (by simp [Op.operands])).trans hi) h0 hr' hc
 | idxR hx hT hE hi h0 hn=>exact .idxR ((hr _ (by simp [Op.operands])).trans hx) hT hE ((hr _ (by simp [Op.operands])).trans hi) h0 hn
 | lenL hx has hT=>exact .lenL ((hr _ (by simp [Op.operands,Call.operands])).trans hx) has hT
 | lenR hx has hT=>exact .lenR ((hr _ (by simp [Op.operands,Call.operands])).trans hx) has hT
 | lenN hx has hT=>exact .lenN ((hr _ (by simp [Op.operands,Call.operands])).trans hx) has hT
 | _=>first | (cases hp;done) | (simp [plainOp] at hp;done)
end
section
variable {P:Program} {ops:Array Oper}
end
theorem put_comm (L:St) {d e:Nat} (h:d≠e) (v r:LV):(L.put (some d) v).put (some e) r=(L.put (some e) r).put (some d) v:=by
 have:∀ t,((L.put (some d) v).put (some e) r).slot t=((L.put (some e) r).put (some d) v).slot t:=fun t=>by
  rw [put_slot,put_slot,put_slot,put_slot]
  by_cases h1:t=e
  ·rw [if_pos h1,if_neg (by omega),if_pos h1]
  ·rw [if_neg h1,if_neg h1]
 exact congrArg (fun f=>St.mk f L.heap) (funext this)
theorem put_commO (L:St) {d:Nat} {e:Option Nat} (h:e≠some d) (v r:LV):(L.put (some d) v).put e r=(L.put e r).put (some d) v:=by
 cases e with
 | none=>rfl
 | some e=>exact put_comm L (fun q=>h (by rw [q])) v r
section
variable {P:Program} {ops:Array Oper}
theorem ev_put {L:St} {d:Nat} {v:LV} {o:Oper} (h:d∉o.looksAt ops):∀ x∈o.op.operands,(L.put (some d) v).ev x=L.ev x:=fun x hx=>by
 cases x with
 | tmp t =>
  have ht:t∈o.looksAt ops:=by
   unfold Oper.looksAt
   simp only [List.mem_append,List.mem_filterMap]
   exact .inl ⟨.tmp t,by simpa using hx,rfl⟩
  show (L.put (some d) v).slot t=L.slot t
  rw [put_slot,if_neg (fun q=>h (by rw [←q];exact ht))]
 | const v=>rfl
 | func f=>rfl
 | global f=>rfl
theorem guard_put {L:St} {d:Nat} {v:LV} {o:Oper} {res:Bool} (h:d∉o.looksAt ops) (hg:GuardIs ops (L.put (some d) v) o res):GuardIs ops L o res:=by
 unfold GuardIs at hg ⊢
 cases hh:o.guard with
 | none=>rw [hh] at hg;exact hg
 | some pr =>
  obtain⟨j,want⟩:=pr
  rw [hh] at hg
  obtain⟨t,q1',q'⟩:=hg
  have hne:t≠d:=fun q=>h (by rw [←q];unfold Oper.looksAt;rw [hh];simp [q1'])
  have e1:(L.put (some d) v).slot t=L.slot t:=by rw [put_slot,if_neg hne]
  refine⟨t,q1',?_⟩
  show (∃ b,L.slot t=_∧_)∨(L.slot t=_∧_)
  rw [←e1]
  exact q'
theorem mem_args {f:Operand} {xs:Array Operand} {ats:Array TypeId} {x:Operand} (h:x∈xs.toList):x∈(Op.call ⟨.value f,xs,ats⟩).operands:=by
 have:=Array.mem_toList_iff.1 h
 simp [Op.operands,Call.operands,this]
end
end Go.Lg
end
section
set_option linter.unusedVariables false
set_option linter.unusedSimpArgs false
set_option maxHeartbeats 8000000
set_option maxRecDepth 100000
attribute [local irreducible] Go.Lg.opsL Go.Lg.wpL Go.Lg.thenL Go.Lg.blockL
namespace Go.Proofs.YthpfpgfehmhpdaaGreat
open Go.Lg
def ksF (l:List Int) (j:Nat):Rat:=((1+nxV l j 3:Int):Rat)/((1+nxV l (nxK l j) 2:Int):Rat)
def ksJ (l:List Int) (d:Nat) (k:List Rat) (j:Nat):Nat:=if k.length=d+1 then j else nxK l j
def ksB (l:List Int) (d:Nat) (k:List Rat) (t:Rat) (j:Nat):Prop:=k.length=d+1∨0<nxV l j 3∨t=k.getD (k.length-d) 0
instance (l:List Int) (d:Nat) (k:List Rat) (t:Rat) (j:Nat):Decidable (ksB l d k t j):=by unfold ksB;infer_instance
def kiV (l:List Int) (d:Nat):Nat→List Rat→Rat→Nat→List Rat × Rat × Nat
 | 0,k,t,j=>(k,t,j)
 | n+1,k,t,j=>if ksB l d k t j then kiV l d n (k++[t+ksF l (ksJ l d k j)]) (t+ksF l (ksJ l d k j)) (nxK l (nxK l (ksJ l d k j))) else kiV l d n (k++[t]) t (ksJ l d k j)
def kiN (l:List Int) (k n:Nat):Nat:=(nxV l (nxK l k) ((n+1:Nat):Int)).toNat
def kiR (l:List Int) (d k n:Nat):List Rat × Rat × Nat:=kiV l d (kiN l k n) (List.replicate (d+1) (dtV l k)) (dtV l k) (nxK l (nxK l k))
def knX (l:List Int) (d k n:Nat):List Rat:=(kiR l d k n).1++List.replicate (d+1) ((kiR l d k n).2.1+1)
structure kiI (l:List Int) (d N c:Nat) (K:List Rat) (t:Rat) (j:Nat) (R:List Rat × Rat × Nat):Prop where
 hj:j≤500
 hl:K.length+c=d+1+N
 ht:rl t+3*c≤1+3*N
 hK:∀ x∈K,rl x≤7
 hR:kiV l d c K t j=R
theorem mem_snoc {K:List Rat} {t:Rat} {R:Nat} (h:∀ x∈K,rl x≤R) (ht:rl t≤R):∀ x∈K++[t],rl x≤R:=fun x hx=>by
 rcases List.mem_append.1 hx with h1 | h1
 ·exact h x h1
 ·rw [List.mem_singleton.1 h1];exact ht
theorem ksJ_le {l:List Int} {d j:Nat} {K:List Rat} (hl:l.length≤500) (hj:j≤500):ksJ l d K j≤500:=by
 unfold ksJ;split
 ·exact hj
 ·exact nxK_le hl hj
theorem kiI.no {l:List Int} {d N c:Nat} {K:List Rat} {t:Rat} {j:Nat} {R:List Rat × Rat × Nat} (hl:l.length≤500) (hN:N≤2) (h:kiI l d N (c+1) K t j R) (hb:¬ksB l d K t j) :
  kiI l d N c (K++[t]) t (ksJ l d K j) R:=by
 have h2:=h.ht
 have h3:=h.hl
 have h4:=h.hR
 rw [kiV,if_neg hb] at h4
 exact⟨ksJ_le hl h.hj,by simp;omega,by omega,mem_snoc h.hK (by omega),h4⟩
end Go.Proofs.YthpfpgfehmhpdaaGreat
end
section
set_option linter.unusedVariables false
set_option linter.unusedSimpArgs false
namespace Go.Lg
theorem Weak.frz {L:St} {t:Nat} {x y:LV} (bs:List Nat) (h0:bs.contains 0=false) (h:L.slot t=x) (hi:Imm (L.frz bs).heap x y):Weak L ((L.frz bs).put (some t) y):=by
 rintro n W X Z0 a w ⟨hdf,hsz,μ,Z,hc,hr⟩
 obtain⟨Z',hc',hz⟩:=hc.widen (frz_le bs h0)
 refine⟨hdf,hsz,μ,Z',by rw [put_heap];exact hc',fun s=>?_⟩
 have hm:=RepV.mono hz (fun _ _ h=>h) (Frame.refl Z μ w) (hr s)
 rw [put_slot]
 split
 ·rename_i hst
  subst hst
  rw [h] at hm
  exact RepV.of1 (LV.pure_ne_tup hi.lay.2.2) (Imm.soundV (μ':=μ) hc' hi hm)
 ·exact hm
theorem Weak.hand {L:St} {t:Nat} {α:Type} {e:α→LV} {ag:Bool} {b sz len:Nat} {l:List α} {m:Bool} (he:EncOK e sz ag) (h:L.slot t=.ref b sz 0 len) (hb:L.heap b=some ⟨sz,l.map e,m⟩) (hl:len=l.length) (h0:b≠0:=by decide) :
  Weak L ((L.put (some t) (.list sz (l.map e))).kill b):=by
 have h0':([b]:List Nat).contains 0=false:=by simp;omega
 have e1:=(Weak.frz [b] h0' h (imm_refm (bs:=[b]) he hb (by simp) hl)).trans (Weak.kill _ b h0)
 have e2:((L.frz [b]).put (some t) (.list sz (l.map e))).kill b=(L.put (some t) (.list sz (l.map e))).kill b:=by
  unfold St.kill
  congr 1
  funext c
  rw [put_heap,put_heap]
  by_cases hcb:c=b
  ·simp [hcb]
  ·simp only [St.frz,if_neg hcb]
   cases L.heap c with
   | none=>rfl
   | some blk=>simp [hcb]
 rw [←e2]
 exact e1
end Go.Lg
end
section
set_option linter.unusedVariables false
set_option linter.unusedSimpArgs false
set_option maxHeartbeats 8000000
set_option maxRecDepth 100000
attribute [local irreducible] Go.Lg.opsL Go.Lg.wpL Go.Lg.thenL Go.Lg.blockL
namespace Go.Proofs.YthpfpgfehmhpdaaGreat
open Go.Lg
def prL (r:List PoR):LV:=.list 12 (r.map poL)
theorem prE:EncOK prL 1 false:=⟨fun _=>rfl,fun _=>rfl,fun p=>pure_lst poE 12 p⟩
theorem prZ:ZeroOK Tryz.prog 111 (prL []):=⟨Tryz.t111,_,by kernel_rfl,rfl,rfl,fun _ _ _=>repNil0 12⟩
theorem prL_kill (r:List PoR) (b:Nat):(prL r).kill b=prL r:=LV.kill_pure b _ (prE.pure r)
instance:EC Tryz.prog 111 prL 1 false []:=⟨prE,prZ,T111⟩
theorem rep_srf (d sz:Nat) (x y z u:LV) (Z:Nat→Prop) (μ:Nat→Option Nat) (w:World) (cs:List Value) (h:Rep Z μ w (.agg [x,y,z,u,.v (.slice none 0 0)]) cs):Rep Z μ w (.agg [x,y,z,u,.ref d sz 0 0]) cs:=by
 simp only [Rep,RepFs] at h ⊢
 obtain⟨c1,c2,e1,e2,e3,c3,c4,e4,e5,e6,c5,c6,e7,e8,e9,c7,c8,g1,g2,g3,c9,c10,g4,g5,g6,g7⟩:=h
 exact⟨c1,c2,e1,e2,e3,c3,c4,e4,e5,e6,c5,c6,e7,e8,e9,c7,c8,g1,g2,g3,c9,c10,g4,g5,.inl ⟨g6.1,trivial⟩,g7⟩
def gpV (w:Bool) (i j:Nat) (q:PoR):PoR :=
 bif w then q else⟨⟨((2*(i:Int):Int):Rat)+q.p.x*(((1:Int):Rat)/((8:Int):Rat)),((2*(j:Int):Int):Rat)+q.p.y*(((1:Int):Rat)/((8:Int):Rat)),q.p.z*(((1:Int):Rat)/((4:Int):Rat))⟩,q.w⟩
def srV (l:List Int) (w:Bool) (i:Nat):Nat→Nat→Nat→List PoR
 | _,0,_=>[]
 | j,c+1,k=>gpV w i j (dpV l k) :: srV l w i (j+1) c (dpK l k)
def ssV (l:List Int) (w:Bool) (b:Nat):Nat→Nat→Nat→List (List PoR)
 | _,0,_=>[]
 | i,c+1,k=>srV l w i 0 b k :: ssV l w b (i+1) c (dqK l k b)
def sU (l:List Int) (k n:Nat):Nat:=cD l k n
def sV (l:List Int) (k n:Nat):Nat:=cD l (nxK l k) n
def sJ2 (l:List Int) (k:Nat):Nat:=nxK l (nxK l k)
def sJ3 (l:List Int) (k n m:Nat):Nat:=(kiR l (sU l k n) (sJ2 l k) m).2.2
def sJ4 (l:List Int) (k n m:Nat):Nat:=(kiR l (sV l k n) (sJ3 l k n m) m).2.2
def sKU (l:List Int) (k n m:Nat):List Rat:=knX l (sU l k n) (sJ2 l k) m
def sKV (l:List Int) (k n m:Nat):List Rat:=knX l (sV l k n) (sJ3 l k n m) m
def sWd (l:List Int) (k n m:Nat):Bool:=decide (nxV l (sJ4 l k n m) 3=2)
def sA (l:List Int) (k n m:Nat):Nat:=sU l k n+1+kiN l (sJ2 l k) m
def sB (l:List Int) (k n m:Nat):Nat:=sV l k n+1+kiN l (sJ3 l k n m) m
def sR (l:List Int) (k n m:Nat):List (List PoR):=ssV l (sWd l k n m) (sB l k n m) 0 (sA l k n m) (nxK l (sJ4 l k n m))
structure sIn (l:List Int) (k n m:Nat):Prop where
 u1:1≤sU l k n
 un:sU l k n≤n
 ue:(sU l k n:Int)=1+nxV l k (n:Int)
 v1:1≤sV l k n
 vn:sV l k n≤n
 ve:(sV l k n:Int)=1+nxV l (nxK l k) (n:Int)
 j1:nxK l k≤500
 j2:sJ2 l k≤500
 j3:sJ3 l k n m≤500
 j4:sJ4 l k n m≤500
 j5:nxK l (sJ4 l k n m)≤500
 ku:kOK (sKU l k n m) (sU l k n)
 kv:kOK (sKV l k n m) (sV l k n)
 lu:(sKU l k n m).length=sU l k n+1+sA l k n m
 lv:(sKV l k n m).length=sV l k n+1+sB l k n m
 a8:sA l k n m≤9
 b8:sB l k n m≤9
 rl:(sR l k n m).length=sA l k n m
 rk:∀ r∈sR l k n m,r.length=sB l k n m∧∀ q∈r,okP 4 q
theorem net_pure (u v:Int) (c:List Rat):LV.pure (.agg [iL u,iL v,.list 3 (c.map ratL)])=true:=by simp [LV.pure,pures,pures_map ratE]
theorem net_pureN (u v:Nat) (c:List Rat):LV.pure (.agg [nI64 u,nI64 v,.list 3 (c.map ratL)])=true:=net_pure u v c
theorem mulE {a b n:Nat} (h:a*b=n) (hn:n≤9223372036854775807):binI .mul .i64 (a:Nat) (b:Nat)=some (.int .i64 (n:Nat)):=by
 rw [mul64 (by rw [←Int.natCast_mul,h];omega) (by rw [←Int.natCast_mul,h];omega),←Int.natCast_mul,h]
def gL (n:Nat) (W:Nat→Rat):List Rat:=(List.range n).map W
theorem gL_len (n:Nat) (W:Nat→Rat):(gL n W).length=n:=by simp [gL]
theorem gL_succ (n:Nat) (W:Nat→Rat):gL (n+1) W=gL n W++[W n]:=by simp [gL,List.range_succ]
theorem gL_get {n:Nat} {W:Nat→Rat} {x:Nat} (h:x<n):(gL n W).getD x 0=W x:=by
 rw [List.getD_eq_getElem?_getD,List.getElem?_eq_getElem (by rw [gL_len];exact h)];simp [gL]
theorem take_gL (n:Nat) (W:Nat→Rat) (f:Rat→LV):((gL n W).map f).take n=(gL n W).map f:=by rw [List.take_of_length_le (by simp [gL_len])]
theorem ix_div {V i j:Nat} (h:j≤V):(i*(V+1)+j)/(V+1)=i:=by
 rw [Nat.add_comm,Nat.add_mul_div_right _ _ (Nat.succ_pos V),Nat.div_eq_of_lt (by omega),Nat.zero_add]
theorem ix_mod {V i j:Nat} (h:j≤V):(i*(V+1)+j) % (V+1)=j:=by
 rw [Nat.add_comm,Nat.add_mul_mod_self_right,Nat.mod_eq_of_lt (by omega)]
theorem ix_lt {U V i j:Nat} (hi:i≤U) (hj:j≤V):i*(V+1)+j<(U+1)*(V+1):=by
 have:=Nat.mul_le_mul_right (V+1) (show i+1≤U+1 by omega)
 rw [Nat.succ_mul] at this
 omega
theorem chsR_rl {n:Nat} (k:Nat) (hn:n≤40):rl (((chs n k:Nat):Int):Rat)≤2:=by
 rcases Nat.lt_or_ge n k with h | h
 ·rw [chs_gt h];decide
 ·have h1:=chR_rl hn _ (getD_mem (i:=k) (by rw [chR_len];omega))
  rw [chR_get h] at h1;exact h1
def wtV (U V:Nat) (c:List Rat) (x:Nat):Rat:=((chs U (x/(V+1)):Nat):Int)*((chs V (x % (V+1)):Nat):Int)*c.getD x 0
def swV (U V:Nat) (c:List Rat) (x:Nat):Rat:=c.getD (x % (U+1)*(V+1)+x/(U+1)) 0
def wtL (U V:Nat) (c:List Rat):List Rat:=gL ((U+1)*(V+1)) (wtV U V c)
def swL (U V:Nat) (c:List Rat):List Rat:=gL ((V+1)*(U+1)) (swV U V c)
theorem wt_rl {U V:Nat} {c:List Rat} {R:Nat} (hU:U≤40) (hV:V≤40) (hR:1≤R) (h:∀ x∈c,rl x≤R):∀ x∈wtL U V c,rl x≤R+6:=by
 intro x hx
 obtain⟨i,_,rfl⟩:=List.mem_map.1 hx
 have h1:=chsR_rl (n:=U) (i/(V+1)) hU
 have h2:=chsR_rl (n:=V) (i % (V+1)) hV
 have h3:=getD_rl hR h i
 have h4:=rl_mul (((chs U (i/(V+1)):Nat):Int):Rat) (((chs V (i % (V+1)):Nat):Int):Rat)
 have h5:=rl_mul ((((chs U (i/(V+1)):Nat):Int):Rat)*(((chs V (i % (V+1)):Nat):Int):Rat)) (c.getD i 0)
 show rl (wtV U V c i)≤_
 unfold wtV
 omega
theorem set_gd {W:Nat→Rat} {o:List Rat} {m:Nat} {v:Rat} (h:m<o.length) (hv:v=W m):(gL m W++o.drop m).set m v=gL (m+1) W++o.drop (m+1):=by
 subst hv
 rw [List.drop_eq_getElem_cons h,set_mid _ _ _ _ (gL_len m W).symm,gL_succ,List.append_assoc];rfl
theorem get_gd {W:Nat→Rat} {o:List Rat} {m:Nat}:(gL m W++o.drop m).getD m 0=o.getD m 0:=by
 rw [getD_app2 _ _ _ (by rw [gL_len];exact Nat.le_refl _),gL_len,Nat.sub_self,getD_dropR,Nat.add_zero]
section
variable (V1 V2 W U2:Nat) (x y:List Rat) (i j k:Nat)
def mL:Nat→List Rat→List Rat
 | 0,o=>o
 | l+1,o=>(mL l o).set ((i+k)*(W+1)+j+l) ((mL l o).getD ((i+k)*(W+1)+j+l) 0+x.getD (i*(V1+1)+j) 0*y.getD (k*(V2+1)+l) 0)
def mK:Nat→List Rat→List Rat
 | 0,o=>o
 | k+1,o=>mL V1 V2 W x y i j k (V2+1) (mK k o)
def mJ:Nat→List Rat→List Rat
 | 0,o=>o
 | j+1,o=>mK V1 V2 W x y i j (U2+1) (mJ j o)
def mI:Nat→List Rat→List Rat
 | 0,o=>o
 | i+1,o=>mJ V1 V2 W U2 x y i (V1+1) (mI i o)
end
def mTop (U1 V1 U2 V2:Nat) (a b:List Rat):List Rat:=mI V1 V2 (V1+V2) U2 (wtL U1 V1 a) (wtL U2 V2 b) (U1+1) (List.replicate ((U1+U2+1)*(V1+V2+1)) 0)
def dvV (U V:Nat) (o:List Rat) (x:Nat):Rat:=o.getD x 0/((((chs U (x/(V+1)):Nat):Int):Rat)*(((chs V (x % (V+1)):Nat):Int):Rat))
def tmL (U1 V1 U2 V2:Nat) (a b:List Rat):List Rat:=gL ((U1+U2+1)*(V1+V2+1)) (dvV (U1+U2) (V1+V2) (mTop U1 V1 U2 V2 a b))
namespace H_c_choose7
theorem zSm {p q:Prop} (k:q) (e:p=q:=by simp only [e1,e2,e3,e4,p1,p2,p3,q1,q2,q3,l1,t0,t1,r1,r2,r3,r4,Nat.zero_add,Nat.reduceMul,Nat.reduceAdd,b1,b2,b3,b4,b5,b6,i1,i2,i3,i4,i5,i6,Nat.reduceBEq,dfi,rtake,List.append_nil,rowI_len,ek1,ek2,egr,take_map_len,map_snoc,len_snoc,List.length_cons,List.length_nil,kills_map i64E,kills_map ratE,LV.kill,kills];exact rfl):p:=e.mpr k
end H_c_choose7
open H_c_choose7 in
theorem c_choose7 (n:Nat) (hn:n≤40):CallP Tryz.prog 288 [nI64 n] (.list 1 ((rowI n).map i64L)):=by
 refine fnP Tryz.func288 (ht:=(fun g=>LV.ren_pure g _ (pure_lst i64E _ _))) ?_
 have ek1:True:=trivial
 have ek2:True:=trivial
 have egr:True:=trivial
 refine zg19 ?_
 refine wl_weak (Weak.mv (t:=3) (b:=5) 11 (by decide) (by decide) (by decide) rfl rfl rfl) ?_
 refine lp1 (fun(k:Nat) L=>((((St.mk L.slot (hp [(11,⟨1,(rowI k).map i64L,true⟩)])).put (some 3) (.ref 11 1 0 (k+1))).put (some 6) (nI64 n)).put (some 7) (nI64 k))) (fun k=>k≤n) (fun k=>n-k) 0 (Nat.zero_le _) ?_
 rintro k L1 hk
 refine zg6 ?_
 refine wl_if rfl (fun h8r h8=>?_) (fun h8r h8=>?_)
 ·have hkn:k<n:=by omega
  have ek2:((((k+1+1:Nat)):Int)-2)=(k:Int):=by omega
  refine zg8 ?_
  refine st_store rfl (.app (news:=[i64L 1]) rfl rfl rfl rfl rfl (by simp [rowI_len]) (.inl rfl) (by decide) Tryz.underlying120 Tryz.underlying120 Z2 T2 rfl B2 (.inl ⟨10,0,_,rfl,by decide,rfl,rfl,by simp,rfl,rfl⟩) (by simp;omega) (by simp;omega) (by decide)) ?_
  refine zg4 ?_
  refine wl_regW (Weak.kill _ 10) ?_
  refine zg7 ?_
  refine lp2 (fun(i:Nat) (o:List Int) L=>(((((St.mk L.slot (hp [(11,⟨1,o.map i64L,true⟩)])).put (some 3) (.ref 11 1 0 (k+1+1))).put (some 4) (nI64 i)).put (some 6) (nI64 n)).put (some 7) (nI64 k))) (fun i o=>i≤k∧PasC k i o) (fun i o=>i) k (rowI k++[1]) ⟨Nat.le_refl _,pas_init k⟩ ?_
  rintro i o L2 ⟨hi,hP⟩
  refine zg7 ?_
  refine wl_if rfl (fun h16r h16=>?_) (fun h16r h16=>?_)
  ·obtain⟨j,rfl⟩:∃ j,i=j+1:=⟨i-1,by omega⟩
   have ek1:(((j+1:Nat):Int)-1)=(j:Int):=by omega
   have hol:=hP.1
   have hb1:=pas_bd hP (by omega) (x:=j+1) (by omega)
   have hb2:=pas_bd hP (by omega) (x:=j) (by omega)
   refine zg4 ?_
   refine wl_regD 11 (by decide +kernel) ?_
   refine zg21 ?_
   exact nx2 j (o.set (j+1) (o.getD (j+1) 0+o.getD j 0)) ⟨by omega,pas_step hP hi⟩
  ·obtain rfl:i=0:=by omega
   have hE:=pas_end hP
   subst hE
   refine zg11 ?_
   exact nx1 (k+1) (by omega)
 ·obtain rfl:n=k:=by omega
  refine zg12 ?_
  exact ret1f [11] rfl rfl (imm_refm i64E rfl rfl (by rw [rowI_len]))
open H0 in
theorem c_shaped (U V:Nat) (c:List Rat) (hc:c.length=(U+1)*(V+1)) (hl:c.length≤1048576):CallP Tryz.prog 265 [.agg [nI64 U,nI64 V,.list 3 (c.map ratL)]] (bL true):=by
 have hU:U+1≤c.length:=by rw [hc];exact Nat.le_mul_of_pos_right _ (Nat.succ_pos V)
 have hV:V+1≤c.length:=by rw [hc];exact Nat.le_mul_of_pos_left _ (Nat.succ_pos U)
 have hnp:=net_pureN U V c
 refine fnP Tryz.func265 ?_
 refine zg12 ?_
 refine st_pure (guardX (v:=true) rfl rfl ((decide_eq_true (by omega))) rfl) faA ?_
 refine st_pure (guardX (v:=true) rfl rfl ((decide_eq_true (by omega))) rfl) ldA ?_
 refine st_pure (guardX (v:=true) rfl rfl ((decide_eq_true (by omega))) rfl) (.bin rfl rfl rfl) ?_
 refine st_pure rfl (.pickT rfl ((decide_eq_true (by omega)))) ?_
 refine zg1 ?_
 refine st_pure (guardX (v:=true) rfl rfl ((decide_eq_true (by omega))) rfl) faA ?_
 refine st_pure (guardX (v:=true) rfl rfl ((decide_eq_true (by omega))) rfl) ldA ?_
 refine st_pure (guardX (v:=true) rfl rfl ((decide_eq_true (by omega))) rfl) faA ?_
 refine st_pure (guardX (v:=true) rfl rfl ((decide_eq_true (by omega))) rfl) ldA ?_
 refine st_pure (guardX (v:=true) rfl rfl ((decide_eq_true (by omega))) rfl) lnA ?_
 refine st_pure (guardX (v:=true) rfl rfl ((decide_eq_true (by omega))) rfl) (.bin rfl rfl rfl) ?_
 refine st_pure rfl (.pickT rfl ((decide_eq_true (by omega)))) ?_
 refine zg1 ?_
 refine st_pure (guardX (v:=true) rfl rfl ((decide_eq_true (by omega))) rfl) faA ?_
 refine st_pure (guardX (v:=true) rfl rfl ((decide_eq_true (by omega))) rfl) ldA ?_
 refine st_pure (guardX (v:=true) rfl rfl ((decide_eq_true (by omega))) rfl) faA ?_
 refine st_pure (guardX (v:=true) rfl rfl ((decide_eq_true (by omega))) rfl) ldA ?_
 refine st_pure (guardX (v:=true) rfl rfl ((decide_eq_true (by omega))) rfl) lnA ?_
 refine st_pure (guardX (v:=true) rfl rfl ((decide_eq_true (by omega))) rfl) (.bin rfl rfl rfl) ?_
 refine st_pure rfl (.pickT rfl ((decide_eq_true (by omega)))) ?_
 refine zg1 ?_
 refine st_pure (guardX (v:=true) rfl rfl ((decide_eq_true (by omega))) rfl) faA ?_
 refine st_pure (guardX (v:=true) rfl rfl ((decide_eq_true (by omega))) rfl) ldA ?_
 refine st_pure (guardX (v:=true) rfl rfl ((decide_eq_true (by omega))) rfl) lnA ?_
 refine st_pure (guardX (v:=true) rfl rfl ((decide_eq_true (by omega))) rfl) faA ?_
 refine st_pure (guardX (v:=true) rfl rfl ((decide_eq_true (by omega))) rfl) ldA ?_
 refine st_pure (guardX (v:=true) rfl rfl ((decide_eq_true (by omega))) rfl) (.bin rfl rfl (add1N (by omega))) ?_
 refine st_pure (guardX (v:=true) rfl rfl ((decide_eq_true (by omega))) rfl) faA ?_
 refine st_pure (guardX (v:=true) rfl rfl ((decide_eq_true (by omega))) rfl) ldA ?_
 refine st_pure (guardX (v:=true) rfl rfl ((decide_eq_true (by omega))) rfl) (.bin rfl rfl (add1N (by omega))) ?_
 refine st_pure (guardX (v:=true) rfl rfl ((decide_eq_true (by omega))) rfl) (.bin rfl rfl (mulE hc.symm (by omega))) ?_
 refine st_pure (guardX (v:=true) rfl rfl ((decide_eq_true (by omega))) rfl) (.bin rfl rfl rfl) ?_
 refine st_pure rfl (.pickT rfl ((decide_eq_true (by omega)))) ?_
 refine zg4 ?_
 refine ret1 (x:=.v (.bool (((c.length:Nat):Int)==((c.length:Nat):Int)))) rfl ?_
 rw [beq_self_eq_true]
 exact .pure rfl
namespace H_c_weighted
theorem zSm {p q:Prop} (k:q) (e:p=q:=by simp only [e1,e2,e3,e4,p1,p2,p3,q1,q2,q3,l1,t0,t1,r1,r2,r3,r4,Nat.zero_add,Nat.reduceMul,Nat.reduceAdd,b1,b2,b3,b4,b5,b6,i1,i2,i3,i4,i5,i6,Nat.reduceBEq,dfq,dfi,rowI_len,egu,egv,ewn,Nat.add_zero,take_gL,take_map_len,map_snoc,len_snoc,List.length_cons,List.length_nil,kills_map i64E,kills_map ratE,ratL_kill,spL_kill,LV.kill,kills];exact rfl):p:=e.mpr k
end H_c_weighted
open H_c_weighted in
theorem c_weighted (U V:Nat) (c:List Rat) (hc:c.length=(U+1)*(V+1)) (hl:c.length≤1048576) (hU4:U≤40) (hV4:V≤40) (R:Nat) (hR1:1≤R) (hR:R≤1073741824) (hcR:∀ x∈c,rl x≤R):CallP Tryz.prog 287 [.agg [nI64 U,nI64 V,.list 3 (c.map ratL)]] (.list 3 ((wtL U V c).map ratL)):=by
 have hU:U+1≤c.length:=by rw [hc];exact Nat.le_mul_of_pos_right _ (Nat.succ_pos V)
 have hV:V+1≤c.length:=by rw [hc];exact Nat.le_mul_of_pos_left _ (Nat.succ_pos U)
 have hnp:=net_pureN U V c
 refine fnP Tryz.func287 ?_
 have egu:True:=trivial
 have egv:True:=trivial
 have ewn:True:=trivial
 refine zg15 ?_
 refine cp am1 (c_choose7 V hV4) ?_
 refine zg8 ?_
 refine cp am1 (c_choose7 U hU4) ?_
 refine zg5 ?_
 refine wl_weak (Weak.own (t:=3) 47 3 rfl rfl) ?_
 refine lp2 (fun(i m:Nat) L=>(((((((St.mk L.slot (hp [(1,⟨3,[.agg [nI64 U,nI64 V,.list 3 (c.map ratL)]],true⟩),(47,⟨3,(gL m (wtV U V c)).map ratL,true⟩)])).put (some 1) (.eptr 1 3 0 0)).put (some 4) (.list 1 ((rowI V).map i64L))).put (some 14) (.list 1 ((rowI U).map i64L))).put (some 15) (nI64 (U+1))).put (some 16) (nI64 i)).put (some 3) (.ref 47 3 0 m))) (fun i m=>i≤U+1∧i*(V+1)=m) (fun i m=>U+1-i) 0 0 ⟨Nat.zero_le _,Nat.zero_mul _⟩ ?_
 rintro i m L1 ⟨hi,hm⟩
 refine zg6 ?_
 refine wl_if rfl (fun h17r h17=>?_) (fun h17r h17=>?_)
 ·have hi2:i≤U:=by omega
  have egu:=rowI_get hi2
  have hcu:=chs_40 i hU4
  refine zg21 ?_
  refine lp1 (fun(j:Nat) L=>((((((((((((St.mk L.slot (hp [(1,⟨3,[.agg [nI64 U,nI64 V,.list 3 (c.map ratL)]],true⟩),(47,⟨3,(gL (m+j) (wtV U V c)).map ratL,true⟩)])).put (some 1) (.eptr 1 3 0 0)).put (some 4) (.list 1 ((rowI V).map i64L))).put (some 14) (.list 1 ((rowI U).map i64L))).put (some 15) (nI64 (U+1))).put (some 16) (nI64 i)).put (some 3) (.ref 47 3 0 (m+j))).put (some 5) (nI64 i)).put (some 6) (nI64 (chs U i))).put (some 21) (.list 1 ((rowI V).map i64L))).put (some 22) (nI64 (V+1))).put (some 23) (nI64 j))) (fun j=>j≤V+1) (fun j=>V+1-j) 0 (Nat.zero_le _) ?_
  rintro j L2 hj
  refine zg6 ?_
  refine wl_if rfl (fun h24r h24=>?_) (fun h24r h24=>?_)
  ·have hj2:j≤V:=by omega
   have egv:=rowI_get hj2
   have hcv:=chs_40 j hV4
   have hix:=ix_lt hi2 hj2
   rw [hm,←hc] at hix
   have hgl:=gL_len (m+j) (wtV U V c)
   have ewn:gL (m+(j+1)) (wtV U V c)=gL (m+j) (wtV U V c)++[(((chs U i:Nat):Int):Rat)*(((chs V j:Nat):Int):Rat)*c.getD (m+j) 0]:=by rw [←Nat.add_assoc,gL_succ,wtV,←hm,ix_div hj2,ix_mod hj2]
   have hr1:=chsR_rl i hU4
   have hr2:=chsR_rl j hV4
   have hr3:=getD_rl hR1 hcR (m+j)
   have hr4:=rl_mul (((chs U i:Nat):Int):Rat) (((chs V j:Nat):Int):Rat)
   refine zg13 ?_
   refine wl_regD 19 (by decide +kernel) ?_
   refine zg2 ?_
   refine cp am1 (c_RInt ((chs U i:Nat):Int) (by omega) (by omega)) ?_
   refine zg1 ?_
   refine cp am1 (c_RInt ((chs V j:Nat):Int) (by omega) (by omega)) ?_
   refine cp am2 (c_RMul (((chs U i:Nat):Int):Rat) (((chs V j:Nat):Int):Rat) (by omega)) ?_
   refine zg5 ?_
   refine st_pure rfl (.bin rfl rfl (add1N (by omega))) ?_
   refine st_pure rfl (.bin rfl rfl (mulE hm (by omega))) ?_
   refine zg1 ?_
   refine st_pure rfl (.bin rfl rfl (add64N (by omega))) ?_
   refine zg2 ?_
   refine cp am2 (c_RMul ((((chs U i:Nat):Int):Rat)*(((chs V j:Nat):Int):Rat)) (c.getD (m+j) 0) (by omega)) ?_
   refine zg1 ?_
   refine st_store rfl (.app (news:=[ratL ((((chs U i:Nat):Int):Rat)*(((chs V j:Nat):Int):Rat)*c.getD (m+j) 0)]) rfl rfl rfl rfl rfl (by simp [gL_len]) (.inl rfl) (by decide) Tryz.underlying26 Tryz.underlying26 Z32a T32 rfl B32 (.inl ⟨46,0,_,rfl,by decide,rfl,rfl,by simp,rfl,by simp [pures,ratE.pure]⟩) (by simp;omega) (by simp;omega) (by decide)) ?_
   refine zg4 ?_
   refine wl_regW (Weak.kill _ 46) ?_
   refine zg4 ?_
   exact nx1 (j+1) (by omega)
  ·obtain rfl:j=V+1:=by omega
   refine zg11 ?_
   exact nx2 (i+1) (m+(V+1)) ⟨by omega,by rw [Nat.succ_mul];omega⟩
 ·obtain rfl:i=U+1:=by omega
  have hE:gL m (wtV U V c)=wtL U V c:=by rw [←hm];rfl
  refine zg12 ?_
  rw [←hE]
  exact ret1f [47] rfl rfl (imm_refm ratE rfl rfl (by rw [gL_len]))
namespace H_c_Swap
theorem zSm {p q:Prop} (k:q) (e:p=q:=by simp only [e1,e2,e3,e4,p1,p2,p3,q1,q2,q3,l1,t0,t1,r1,r2,r3,r4,Nat.zero_add,Nat.reduceMul,Nat.reduceAdd,b1,b2,b3,b4,b5,b6,i1,i2,i3,i4,i5,i6,Nat.reduceBEq,dfq,esw,Rat.add_zero,Nat.add_zero,take_gL,take_map_len,map_snoc,len_snoc,List.length_cons,List.length_nil,kills_map i64E,kills_map ratE,ratL_kill,spL_kill,LV.kill,kills];exact rfl):p:=e.mpr k
end H_c_Swap
open H_c_Swap in
theorem c_Swap (U V:Nat) (c:List Rat) (hc:c.length=(U+1)*(V+1)) (hl:c.length≤1048576) (hcR:∀ x∈c,rl x≤274877906944):CallP Tryz.prog 264 [.agg [nI64 U,nI64 V,.list 3 (c.map ratL)]] (.agg [nI64 V,nI64 U,.list 3 ((swL U V c).map ratL)]):=by
 have hU:U+1≤c.length:=by rw [hc];exact Nat.le_mul_of_pos_right _ (Nat.succ_pos V)
 have hV:V+1≤c.length:=by rw [hc];exact Nat.le_mul_of_pos_left _ (Nat.succ_pos U)
 have hnp:=net_pureN U V c
 refine fnP Tryz.func264 (ht:=(fun g=>LV.ren_pure g _ (net_pureN _ _ _))) ?_
 have esw:True:=trivial
 refine zg21 ?_
 refine cp am1 (c_shaped U V c hc hl) ?_
 refine zg11 ?_
 refine st_pure rfl (.bin rfl rfl (add1N (by omega))) ?_
 refine zg4 ?_
 refine wl_weak ((Weak.cell 3 rfl (fun Z μ w cs h=>rep_net 43 3 _ _ Z μ w cs h)).trans (Weak.newB _ 43 3 rfl)) ?_
 refine lp2 (fun(j m:Nat) L=>((((((St.mk L.slot (hp [(1,⟨3,[.agg [nI64 U,nI64 V,.list 3 (c.map ratL)]],true⟩),(2,⟨3,[.agg [.v (.int .i64 0),.v (.int .i64 0),.v (.slice none 0 0)]],true⟩),(3,⟨3,[.agg [nI64 V,nI64 U,.ref 43 3 0 m]],true⟩),(43,⟨3,(gL m (swV U V c)).map ratL,true⟩)])).put (some 1) (.eptr 1 3 0 0)).put (some 2) (.eptr 2 3 0 0)).put (some 3) (.eptr 3 3 0 0)).put (some 17) (nI64 (V+1))).put (some 18) (nI64 j))) (fun j m=>j≤V+1∧j*(U+1)=m) (fun j m=>V+1-j) 0 0 ⟨Nat.zero_le _,Nat.zero_mul _⟩ ?_
 rintro j m L1 ⟨hj,hm⟩
 refine zg6 ?_
 refine wl_if rfl (fun h19r h19=>?_) (fun h19r h19=>?_)
 ·have hj2:j≤V:=by omega
  refine zg14 ?_
  refine st_pure rfl (.bin rfl rfl (add1N (by omega))) ?_
  refine zg4 ?_
  refine lp1 (fun(i:Nat) L=>(((((((((St.mk L.slot (hp [(1,⟨3,[.agg [nI64 U,nI64 V,.list 3 (c.map ratL)]],true⟩),(2,⟨3,[.agg [.v (.int .i64 0),.v (.int .i64 0),.v (.slice none 0 0)]],true⟩),(3,⟨3,[.agg [nI64 V,nI64 U,.ref 43 3 0 (m+i)]],true⟩),(43,⟨3,(gL (m+i) (swV U V c)).map ratL,true⟩)])).put (some 1) (.eptr 1 3 0 0)).put (some 2) (.eptr 2 3 0 0)).put (some 3) (.eptr 3 3 0 0)).put (some 17) (nI64 (V+1))).put (some 18) (nI64 j)).put (some 4) (nI64 j)).put (some 23) (nI64 (U+1))).put (some 24) (nI64 i))) (fun i=>i≤U+1) (fun i=>U+1-i) 0 (Nat.zero_le _) ?_
  rintro i L2 hi
  refine zg6 ?_
  refine wl_if rfl (fun h25r h25=>?_) (fun h25r h25=>?_)
  ·have hi2:i≤U:=by omega
   have hmi:=ix_lt (U:=V) (V:=U) hj2 hi2
   rw [hm,Nat.mul_comm,←hc] at hmi
   have hix:=ix_lt hi2 hj2
   rw [←hc] at hix
   have hgl:=gL_len (m+i) (swV U V c)
   have esw:gL (m+(i+1)) (swV U V c)=gL (m+i) (swV U V c)++[c.getD (i*(V+1)+j) 0]:=by rw [←Nat.add_assoc,gL_succ,swV,←hm,ix_div hi2,ix_mod hi2]
   have hr1:=hcR _ (getD_mem (i:=i*(V+1)+j) hix)
   refine zg10 ?_
   refine wl_regD 16 (by decide +kernel) ?_
   refine zg7 ?_
   refine st_pure rfl (.bin rfl rfl (add1N (by omega))) ?_
   refine st_pure rfl (.bin rfl rfl (mulE rfl (by omega))) ?_
   refine zg1 ?_
   refine st_pure rfl (.bin rfl rfl (add64N (by omega))) ?_
   refine zg2 ?_
   refine st_pure rfl (.build0 SL32 Z32a) ?_
   refine cp am2 (c_RAdd (c.getD (i*(V+1)+j) 0) 0 (by rw [show rl 0=1 from rfl];omega)) ?_
   refine zg1 ?_
   refine st_store rfl (.app (news:=[ratL (c.getD (i*(V+1)+j) 0+0)]) rfl rfl rfl rfl rfl (by simp [gL_len]) (.inl rfl) (by decide) Tryz.underlying26 Tryz.underlying26 Z32a T32 rfl B32 (.inl ⟨42,0,_,rfl,by decide,rfl,rfl,by simp,rfl,by simp [pures,ratE.pure]⟩) (by simp;omega) (by simp;omega) (by decide)) ?_
   refine zg5 ?_
   refine wl_regW (Weak.kill _ 42) ?_
   refine zg4 ?_
   exact nx1 (i+1) (by omega)
  ·obtain rfl:i=U+1:=by omega
   refine zg11 ?_
   exact nx2 (j+1) (m+(U+1)) ⟨by omega,by rw [Nat.succ_mul];omega⟩
 ·obtain rfl:j=V+1:=by omega
  have hE:gL m (swV U V c)=swL U V c:=by rw [←hm];rfl
  refine zg12 ?_
  rw [←hE]
  exact retC [43] rfl rfl rfl rfl rfl T215 (.agg (.cons (.pure rfl) (.cons (.pure rfl) (.cons (imm_refm ratE rfl rfl (by rw [gL_len])) .nil))))
theorem gL_zero (W:Nat→Rat):gL 0 W=[]:=rfl
namespace H_c_TMulK
theorem zSm {p q:Prop} (k:q) (e:p=q:=by simp only [e1,e2,e3,e4,p1,p2,p3,q1,q2,q3,l1,t0,t1,r1,r2,r3,r4,Nat.zero_add,Nat.reduceMul,Nat.reduceAdd,b1,b2,b3,b4,b5,b6,i1,i2,i3,i4,i5,i6,Nat.reduceBEq,frz_nil,dfq,dfi,rowI_len,egu,egv,Nat.add_zero,egd,esd,List.length_set,kills_map i64E,kills_map ratE,ratL_kill,spL_kill,LV.kill,kills];exact rfl):p:=e.mpr k
theorem zSm1 {p q:Prop} (k:q) (e:p=q:=by simp only [e1,e2,e3,e4,p1,p2,p3,q1,q2,q3,l1,t0,t1,r1,r2,r3,r4,Nat.zero_add,Nat.reduceMul,Nat.reduceAdd,b1,b2,b3,b4,b5,b6,i1,i2,i3,i4,i5,i6,Nat.reduceBEq,frz_nil,dfq,dfi,rowI_len,egu,egv,Nat.add_zero,egd,esd,List.length_set,kills_map i64E,kills_map ratE,ratL_kill,spL_kill,LV.kill,kills,gL_zero,List.nil_append,List.drop_zero];exact rfl):p:=e.mpr k
theorem cl1 {p:Prop} (h:p:=by first | rfl | (refine zSm1 ?_;first | exact trivial | rfl | (congr 3<;>omega) | (congr 2<;>omega))):p:=h
end H_c_TMulK
open H_c_TMulK in
theorem c_TMulK (U1 V1 U2 V2:Nat) (a b:List Rat) (ha:a.length=(U1+1)*(V1+1)) (hb:b.length=(U2+1)*(V2+1)) (hal:a.length≤1048576) (hbl:b.length≤1048576) (hu:U1+U2≤40) (hv:V1+V2≤40) (R:Nat) (hR1:1≤R) (hR:R≤1000000) (hK:(U1+1)*((V1+1)*((U2+1)*((V2+1)*(2*R+14))))≤10000000000) (haR:∀ x∈a,rl x≤R) (hbR:∀ x∈b,rl x≤R):CallP Tryz.prog 263 [.agg [nI64 U1,nI64 V1,.list 3 (a.map ratL)],.agg [nI64 U2,nI64 V2,.list 3 (b.map ratL)]] (.tup [.agg [nI64 (U1+U2),nI64 (V1+V2),.list 3 ((tmL U1 V1 U2 V2 a b).map ratL)],iL 0]):=by
 have hA1:U1+1≤a.length:=by rw [ha];exact Nat.le_mul_of_pos_right _ (Nat.succ_pos V1)
 have hA2:V1+1≤a.length:=by rw [ha];exact Nat.le_mul_of_pos_left _ (Nat.succ_pos U1)
 have hB1:U2+1≤b.length:=by rw [hb];exact Nat.le_mul_of_pos_right _ (Nat.succ_pos V2)
 have hB2:V2+1≤b.length:=by rw [hb];exact Nat.le_mul_of_pos_left _ (Nat.succ_pos U2)
 have hnp1:=net_pureN U1 V1 a
 have hnp2:=net_pureN U2 V2 b
 have hT:((U1+U2+1)*(V1+V2+1))≤1681:=Nat.le_trans (Nat.mul_le_mul (show U1+U2+1≤41 by omega) (show V1+V2+1≤41 by omega)) (by decide)
 have hwa:=wt_rl (U:=U1) (V:=V1) (c:=a) (by omega) (by omega) hR1 haR
 have hwb:=wt_rl (U:=U2) (V:=V2) (c:=b) (by omega) (by omega) hR1 hbR
 have hwal:(wtL U1 V1 a).length=a.length:=by rw [wtL,gL_len,ha]
 have hwbl:(wtL U2 V2 b).length=b.length:=by rw [wtL,gL_len,hb]
 obtain⟨z1,hz1⟩:∃ z1,(V2+1)*(2*R+14)=z1:=⟨_,rfl⟩
 obtain⟨z2,hz2⟩:∃ z2,(U2+1)*z1=z2:=⟨_,rfl⟩
 obtain⟨z3,hz3⟩:∃ z3,(V1+1)*z2=z3:=⟨_,rfl⟩
 have hq1:z1≤z2:=by rw [←hz2];exact Nat.le_mul_of_pos_left _ (Nat.succ_pos _)
 have hq2:z2≤z3:=by rw [←hz3];exact Nat.le_mul_of_pos_left _ (Nat.succ_pos _)
 have hq3:z3≤(U1+1)*z3:=Nat.le_mul_of_pos_left _ (Nat.succ_pos _)
 have hq5:(U1+1)*z3≤10000000000:=by rw [←hz3,←hz2,←hz1];exact hK
 refine fnP Tryz.func263 (ht:=(tame2 (net_pureN _ _ _) rfl)) ?_
 have egu:True:=trivial
 have egv:True:=trivial
 have egd:True:=trivial
 have esd:True:=trivial
 refine zg14 ?_
 refine st_pure rfl (.bin rfl rfl (add64N (by omega))) ?_
 refine zg4 ?_
 refine st_pure rfl (.bin rfl rfl (add64N (by omega))) ?_
 refine zg12 ?_
 refine st_pure (guardX (v:=false) rfl rfl ((decide_eq_false (by omega))) rfl) faA ?_
 refine st_pure (guardX (v:=false) rfl rfl ((decide_eq_false (by omega))) rfl) ldA ?_
 refine st_pure (guardX (v:=false) rfl rfl ((decide_eq_false (by omega))) rfl) (.bin rfl rfl rfl) ?_
 refine st_pure rfl (.pickF rfl ((decide_eq_false (by omega)))) ?_
 refine zg2 ?_
 refine wl_condY (b:=_) rfl (decide_eq_false (by omega)) ?_
 refine zg6 ?_
 refine cp am1 (c_shaped U1 V1 a ha hal) ?_
 refine zg3 ?_
 refine cp am1 (c_shaped U2 V2 b hb hbl) ?_
 refine zg11 ?_
 refine st_pure rfl (.bin rfl rfl (add1N (by omega))) ?_
 refine zg2 ?_
 refine st_pure rfl (.bin rfl rfl (add1N (by omega))) ?_
 refine st_pure rfl (.bin rfl rfl (mulE rfl (by omega))) ?_
 refine st_alloc rfl rfl (.mkE (n:=((U1+U2+1)*(V1+V2+1))) (m:=((U1+U2+1)*(V1+V2+1))) ml ml om om om) ?_
 refine zg5 ?_
 refine wl_regD 6 (by decide +kernel) ?_
 refine zg1 ?_
 refine cp am1 (c_weighted U1 V1 a ha hal (by omega) (by omega) R hR1 (by omega) haR) ?_
 refine zg1 ?_
 refine cp am1 (c_weighted U2 V2 b hb hbl (by omega) (by omega) R hR1 (by omega) hbR) ?_
 refine zg9 ?_
 refine st_pure rfl (.bin rfl rfl (add1N (by omega))) ?_
 refine zg4 ?_
 refine lp2 (fun(i:Nat) (oI:List Rat) L=>(((((((((St.mk L.slot (hp [(2,⟨3,[.agg [nI64 U1,nI64 V1,.list 3 (a.map ratL)]],true⟩),(3,⟨3,[.agg [nI64 U2,nI64 V2,.list 3 (b.map ratL)]],true⟩),(4,⟨3,[.agg [.v (.int .i64 0),.v (.int .i64 0),.v (.slice none 0 0)]],true⟩),(6,⟨3,[.agg [nI64 (U1+U2),nI64 (V1+V2),.ref 55 3 0 ((U1+U2+1)*(V1+V2+1))]],true⟩),(55,⟨3,oI.map ratL,true⟩)])).put (some 2) (.eptr 2 3 0 0)).put (some 3) (.eptr 3 3 0 0)).put (some 4) (.eptr 4 3 0 0)).put (some 6) (.eptr 6 3 0 0)).put (some 7) (.list 3 ((wtL U1 V1 a).map ratL))).put (some 8) (.list 3 ((wtL U2 V2 b).map ratL))).put (some 63) (nI64 (U1+1))).put (some 64) (nI64 i))) (fun i oI=>i≤U1+1∧oI=mI V1 V2 (V1+V2) U2 (wtL U1 V1 a) (wtL U2 V2 b) i (List.replicate ((U1+U2+1)*(V1+V2+1)) 0)∧oI.length=((U1+U2+1)*(V1+V2+1))∧∀ x∈oI,rl x≤1+i*z3) (fun i oI=>U1+1-i) 0 (List.replicate ((U1+U2+1)*(V1+V2+1)) 0) ⟨Nat.zero_le _,rfl,by simp,fun x hx=>by rw [(List.mem_replicate.1 hx).2];exact Nat.le_add_right 1 _⟩ ?_
 rintro i oI L1 ⟨hi,hoI,hlI,hrI⟩
 refine zg6 ?_
 refine wl_if rfl (fun h65r h65=>?_) (fun h65r h65=>?_)
 ·have hi2:i≤U1:=by omega
  have hi3:i*z3+z3≤(U1+1)*z3:=by rw [←Nat.succ_mul];exact Nat.mul_le_mul_right _ (by omega)
  refine zg14 ?_
  refine st_pure rfl (.bin rfl rfl (add1N (by omega))) ?_
  refine zg4 ?_
  refine lp2 (fun(j:Nat) (oJ:List Rat) L=>((((((((((((St.mk L.slot (hp [(2,⟨3,[.agg [nI64 U1,nI64 V1,.list 3 (a.map ratL)]],true⟩),(3,⟨3,[.agg [nI64 U2,nI64 V2,.list 3 (b.map ratL)]],true⟩),(4,⟨3,[.agg [.v (.int .i64 0),.v (.int .i64 0),.v (.slice none 0 0)]],true⟩),(6,⟨3,[.agg [nI64 (U1+U2),nI64 (V1+V2),.ref 55 3 0 ((U1+U2+1)*(V1+V2+1))]],true⟩),(55,⟨3,oJ.map ratL,true⟩)])).put (some 2) (.eptr 2 3 0 0)).put (some 3) (.eptr 3 3 0 0)).put (some 4) (.eptr 4 3 0 0)).put (some 6) (.eptr 6 3 0 0)).put (some 7) (.list 3 ((wtL U1 V1 a).map ratL))).put (some 8) (.list 3 ((wtL U2 V2 b).map ratL))).put (some 63) (nI64 (U1+1))).put (some 64) (nI64 i)).put (some 9) (nI64 i)).put (some 69) (nI64 (V1+1))).put (some 70) (nI64 j))) (fun j oJ=>j≤V1+1∧oJ=mJ V1 V2 (V1+V2) U2 (wtL U1 V1 a) (wtL U2 V2 b) i j oI∧oJ.length=((U1+U2+1)*(V1+V2+1))∧∀ x∈oJ,rl x≤1+i*z3+j*z2) (fun j oJ=>V1+1-j) 0 oI ⟨Nat.zero_le _,rfl,hlI,fun x hx=>by rw [Nat.zero_mul];exact hrI x hx⟩ ?_
  rintro j oJ L2 ⟨hj,hoJ,hlJ,hrJ⟩
  refine zg6 ?_
  refine wl_if rfl (fun h71r h71=>?_) (fun h71r h71=>?_)
  ·have hj2:j≤V1:=by omega
   have hj3:j*z2+z2≤z3:=by rw [←Nat.succ_mul,←hz3];exact Nat.mul_le_mul_right _ (by omega)
   refine zg14 ?_
   refine st_pure rfl (.bin rfl rfl (add1N (by omega))) ?_
   refine zg4 ?_
   refine lp2 (fun(k:Nat) (oK:List Rat) L=>(((((((((((((((St.mk L.slot (hp [(2,⟨3,[.agg [nI64 U1,nI64 V1,.list 3 (a.map ratL)]],true⟩),(3,⟨3,[.agg [nI64 U2,nI64 V2,.list 3 (b.map ratL)]],true⟩),(4,⟨3,[.agg [.v (.int .i64 0),.v (.int .i64 0),.v (.slice none 0 0)]],true⟩),(6,⟨3,[.agg [nI64 (U1+U2),nI64 (V1+V2),.ref 55 3 0 ((U1+U2+1)*(V1+V2+1))]],true⟩),(55,⟨3,oK.map ratL,true⟩)])).put (some 2) (.eptr 2 3 0 0)).put (some 3) (.eptr 3 3 0 0)).put (some 4) (.eptr 4 3 0 0)).put (some 6) (.eptr 6 3 0 0)).put (some 7) (.list 3 ((wtL U1 V1 a).map ratL))).put (some 8) (.list 3 ((wtL U2 V2 b).map ratL))).put (some 63) (nI64 (U1+1))).put (some 64) (nI64 i)).put (some 9) (nI64 i)).put (some 69) (nI64 (V1+1))).put (some 70) (nI64 j)).put (some 10) (nI64 j)).put (some 75) (nI64 (U2+1))).put (some 76) (nI64 k))) (fun k oK=>k≤U2+1∧oK=mK V1 V2 (V1+V2) (wtL U1 V1 a) (wtL U2 V2 b) i j k oJ∧oK.length=((U1+U2+1)*(V1+V2+1))∧∀ x∈oK,rl x≤1+i*z3+j*z2+k*z1) (fun k oK=>U2+1-k) 0 oJ ⟨Nat.zero_le _,rfl,hlJ,fun x hx=>by rw [Nat.zero_mul];exact hrJ x hx⟩ ?_
   rintro k oK L3 ⟨hk,hoK,hlK,hrK⟩
   refine zg6 ?_
   refine wl_if rfl (fun h77r h77=>?_) (fun h77r h77=>?_)
   ·have hk2:k≤U2:=by omega
    have hk3:k*z1+z1≤z2:=by rw [←Nat.succ_mul,←hz2];exact Nat.mul_le_mul_right _ (by omega)
    refine zg14 ?_
    refine st_pure rfl (.bin rfl rfl (add1N (by omega))) ?_
    refine zg4 ?_
    refine lp2 (fun(l:Nat) (o:List Rat) L=>((((((((((((((((((St.mk L.slot (hp [(2,⟨3,[.agg [nI64 U1,nI64 V1,.list 3 (a.map ratL)]],true⟩),(3,⟨3,[.agg [nI64 U2,nI64 V2,.list 3 (b.map ratL)]],true⟩),(4,⟨3,[.agg [.v (.int .i64 0),.v (.int .i64 0),.v (.slice none 0 0)]],true⟩),(6,⟨3,[.agg [nI64 (U1+U2),nI64 (V1+V2),.ref 55 3 0 ((U1+U2+1)*(V1+V2+1))]],true⟩),(55,⟨3,o.map ratL,true⟩)])).put (some 2) (.eptr 2 3 0 0)).put (some 3) (.eptr 3 3 0 0)).put (some 4) (.eptr 4 3 0 0)).put (some 6) (.eptr 6 3 0 0)).put (some 7) (.list 3 ((wtL U1 V1 a).map ratL))).put (some 8) (.list 3 ((wtL U2 V2 b).map ratL))).put (some 63) (nI64 (U1+1))).put (some 64) (nI64 i)).put (some 9) (nI64 i)).put (some 69) (nI64 (V1+1))).put (some 70) (nI64 j)).put (some 10) (nI64 j)).put (some 75) (nI64 (U2+1))).put (some 76) (nI64 k)).put (some 11) (nI64 k)).put (some 81) (nI64 (V2+1))).put (some 82) (nI64 l))) (fun l o=>l≤V2+1∧o=mL V1 V2 (V1+V2) (wtL U1 V1 a) (wtL U2 V2 b) i j k l oK∧o.length=((U1+U2+1)*(V1+V2+1))∧∀ x∈o,rl x≤1+i*z3+j*z2+k*z1+l*(2*R+14)) (fun l o=>V2+1-l) 0 oK ⟨Nat.zero_le _,rfl,hlK,fun x hx=>by rw [Nat.zero_mul];exact hrK x hx⟩ ?_
    rintro l o L4 ⟨hl,ho,hlL,hrL⟩
    refine zg6 ?_
    refine wl_if rfl (fun h83r h83=>?_) (fun h83r h83=>?_)
    ·have hl2:l≤V2:=by omega
     have hl3:l*(2*R+14)+(2*R+14)≤z1:=by rw [←Nat.succ_mul,←hz1];exact Nat.mul_le_mul_right _ (by omega)
     have hx1:=ix_lt (U:=U1+U2) (V:=V1+V2) (i:=i+k) (j:=j+l) (by omega) (by omega)
     have hx2:=ix_lt hi2 hj2
     have hx3:=ix_lt hk2 hl2
     rw [←ha] at hx2
     rw [←hb] at hx3
     have hr1:=getD_rl (S:=R+6) (by omega) hwa (i*(V1+1)+j)
     have hr2:=getD_rl (S:=R+6) (by omega) hwb (k*(V2+1)+l)
     have hr3:=getD_rl (by omega) hrL ((i+k)*(V1+V2+1)+j+l)
     have hr4:=rl_mul ((wtL U1 V1 a).getD (i*(V1+1)+j) 0) ((wtL U2 V2 b).getD (k*(V2+1)+l) 0)
     have hr5:=rl_add (o.getD ((i+k)*(V1+V2+1)+j+l) 0) ((wtL U1 V1 a).getD (i*(V1+1)+j) 0*(wtL U2 V2 b).getD (k*(V2+1)+l) 0)
     refine zg14 ?_
     refine st_pure rfl (.bin rfl rfl (add64N (by omega))) ?_
     refine zg2 ?_
     refine st_pure rfl (.bin rfl rfl (add1N (by omega))) ?_
     refine st_pure rfl (.bin rfl rfl (mulE rfl (by omega))) ?_
     refine zg1 ?_
     refine st_pure rfl (.bin rfl rfl (add64N (by omega))) ?_
     refine zg1 ?_
     refine st_pure rfl (.bin rfl rfl (add64N (by omega))) ?_
     refine zg3 ?_
     refine wl_regD 31 (by decide +kernel) ?_
     refine zg8 ?_
     try simp only [t1,dfq,Nat.zero_add]
     refine zg4 ?_
     refine st_pure rfl (.bin rfl rfl (add1N (by omega))) ?_
     refine st_pure rfl (.bin rfl rfl (mulE rfl (by omega))) ?_
     refine zg1 ?_
     refine st_pure rfl (.bin rfl rfl (add64N (by omega))) ?_
     refine zg6 ?_
     refine st_pure rfl (.bin rfl rfl (add1N (by omega))) ?_
     refine st_pure rfl (.bin rfl rfl (mulE rfl (by omega))) ?_
     refine zg1 ?_
     refine st_pure rfl (.bin rfl rfl (add64N (by omega))) ?_
     refine zg2 ?_
     refine cp am2 (c_RMul ((wtL U1 V1 a).getD (i*(V1+1)+j) 0) ((wtL U2 V2 b).getD (k*(V2+1)+l) 0) (by omega)) ?_
     refine cp am2 (c_RAdd (o.getD ((i+k)*(V1+V2+1)+j+l) 0) ((wtL U1 V1 a).getD (i*(V1+1)+j) 0*(wtL U2 V2 b).getD (k*(V2+1)+l) 0) (by omega)) ?_
     refine zg10 ?_
     exact nx2 (l+1) (o.set ((i+k)*(V1+V2+1)+j+l) (o.getD ((i+k)*(V1+V2+1)+j+l) 0+(wtL U1 V1 a).getD (i*(V1+1)+j) 0*(wtL U2 V2 b).getD (k*(V2+1)+l) 0)) ⟨by omega,by rw [ho];rfl,by rw [List.length_set];exact hlL,set_rl (fun x hx=>by have:=hrL x hx;rw [Nat.succ_mul];omega) (by rw [Nat.succ_mul];omega)⟩
    ·obtain rfl:l=V2+1:=by omega
     refine zg11 ?_
     exact nx2 (k+1) o ⟨by omega,by rw [ho,hoK];rfl,hlL,fun x hx=>by have:=hrL x hx;rw [hz1] at this;rw [Nat.succ_mul];omega⟩
   ·obtain rfl:k=U2+1:=by omega
    rw [hz2] at hrK
    refine zg11 ?_
    exact nx2 (j+1) oK ⟨by omega,by rw [hoK,hoJ];rfl,hlK,fun x hx=>by have:=hrK x hx;rw [Nat.succ_mul];omega⟩
  ·obtain rfl:j=V1+1:=by omega
   rw [hz3] at hrJ
   refine zg11 ?_
   exact nx2 (i+1) oJ ⟨by omega,by rw [hoJ,hoI];rfl,hlJ,fun x hx=>by have:=hrJ x hx;rw [Nat.succ_mul];omega⟩
 ·obtain rfl:i=U1+1:=by omega
  have hOF:oI=(mTop U1 V1 U2 V2 a b):=hoI
  clear hoI
  subst hOF
  refine zg6 ?_
  refine wl_regD 8 (by decide +kernel) ?_
  refine zg2 ?_
  refine cp am1 (c_choose7 (U1+U2) hu) ?_
  refine zg2 ?_
  refine cp am1 (c_choose7 (V1+V2) hv) ?_
  refine zg13 ?_
  refine lp2 (fun(i m:Nat) L=>(((((((((St.mk L.slot (hp [(2,⟨3,[.agg [nI64 U1,nI64 V1,.list 3 (a.map ratL)]],true⟩),(3,⟨3,[.agg [nI64 U2,nI64 V2,.list 3 (b.map ratL)]],true⟩),(4,⟨3,[.agg [.v (.int .i64 0),.v (.int .i64 0),.v (.slice none 0 0)]],true⟩),(6,⟨3,[.agg [nI64 (U1+U2),nI64 (V1+V2),.ref 55 3 0 ((U1+U2+1)*(V1+V2+1))]],true⟩),(55,⟨3,(gL m (dvV (U1+U2) (V1+V2) (mTop U1 V1 U2 V2 a b))++(mTop U1 V1 U2 V2 a b).drop m).map ratL,true⟩)])).put (some 2) (.eptr 2 3 0 0)).put (some 3) (.eptr 3 3 0 0)).put (some 4) (.eptr 4 3 0 0)).put (some 6) (.eptr 6 3 0 0)).put (some 14) (.list 1 ((rowI (U1+U2)).map i64L))).put (some 15) (.list 1 ((rowI (V1+V2)).map i64L))).put (some 138) (nI64 (U1+U2+1))).put (some 139) (nI64 i))) (fun i m=>i≤U1+U2+1∧i*(V1+V2+1)=m) (fun i m=>U1+U2+1-i) 0 0 ⟨Nat.zero_le _,Nat.zero_mul _⟩ (h0:=⟨_,Weak.of_eq (put_id' (put_id' (put_id' (put_id' (put_id' (put_id' (put_id' (put_id' (mk_id' cl1) cl1) cl1) cl1) cl1) cl1) cl1) cl1) cl1)⟩) ?_
  rintro i m L5 ⟨hi,hm⟩
  refine zg6 ?_
  refine wl_if rfl (fun h140r h140=>?_) (fun h140r h140=>?_)
  ·have hi2:i≤U1+U2:=by omega
   have egu:=rowI_get hi2
   have hcu:=chs_40 i hu
   refine zg18 ?_
   refine lp1 (fun(j:Nat) L=>((((((((((((St.mk L.slot (hp [(2,⟨3,[.agg [nI64 U1,nI64 V1,.list 3 (a.map ratL)]],true⟩),(3,⟨3,[.agg [nI64 U2,nI64 V2,.list 3 (b.map ratL)]],true⟩),(4,⟨3,[.agg [.v (.int .i64 0),.v (.int .i64 0),.v (.slice none 0 0)]],true⟩),(6,⟨3,[.agg [nI64 (U1+U2),nI64 (V1+V2),.ref 55 3 0 ((U1+U2+1)*(V1+V2+1))]],true⟩),(55,⟨3,(gL (m+j) (dvV (U1+U2) (V1+V2) (mTop U1 V1 U2 V2 a b))++(mTop U1 V1 U2 V2 a b).drop (m+j)).map ratL,true⟩)])).put (some 2) (.eptr 2 3 0 0)).put (some 3) (.eptr 3 3 0 0)).put (some 4) (.eptr 4 3 0 0)).put (some 6) (.eptr 6 3 0 0)).put (some 14) (.list 1 ((rowI (U1+U2)).map i64L))).put (some 15) (.list 1 ((rowI (V1+V2)).map i64L))).put (some 138) (nI64 (U1+U2+1))).put (some 139) (nI64 i)).put (some 16) (nI64 i)).put (some 143) (nI64 (V1+V2+1))).put (some 144) (nI64 j))) (fun j=>j≤V1+V2+1) (fun j=>V1+V2+1-j) 0 (Nat.zero_le _) ?_
   rintro j L6 hj
   refine zg6 ?_
   refine wl_if rfl (fun h145r h145=>?_) (fun h145r h145=>?_)
   ·have hj2:j≤V1+V2:=by omega
    have egv:=rowI_get hj2
    have hcv:=chs_40 j hv
    have hix:=ix_lt hi2 hj2
    rw [hm] at hix
    have egd:=get_gd (W:=(dvV (U1+U2) (V1+V2) (mTop U1 V1 U2 V2 a b))) (o:=(mTop U1 V1 U2 V2 a b)) (m:=m+j)
    have hdv:(dvV (U1+U2) (V1+V2) (mTop U1 V1 U2 V2 a b)) (m+j)=(mTop U1 V1 U2 V2 a b).getD (m+j) 0/((((chs (U1+U2) i:Nat):Int):Rat)*(((chs (V1+V2) j:Nat):Int):Rat)):=by rw [dvV,←hm,ix_div hj2,ix_mod hj2]
    have esd:=set_gd (W:=(dvV (U1+U2) (V1+V2) (mTop U1 V1 U2 V2 a b))) (o:=(mTop U1 V1 U2 V2 a b)) (m:=m+j) (by omega) hdv.symm
    have hgl:(gL (m+j) (dvV (U1+U2) (V1+V2) (mTop U1 V1 U2 V2 a b))++(mTop U1 V1 U2 V2 a b).drop (m+j)).length=((U1+U2+1)*(V1+V2+1)):=by rw [List.length_append,gL_len,List.length_drop];omega
    have hr1:=chsR_rl i hu
    have hr2:=chsR_rl j hv
    have hr3:=getD_rl (by omega) hrI (m+j)
    have hr4:=rl_mul ((((chs (U1+U2) i:Nat):Int):Rat)) ((((chs (V1+V2) j:Nat):Int):Rat))
    refine zg15 ?_
    refine st_pure rfl (.bin rfl rfl (add1N (by omega))) ?_
    refine st_pure rfl (.bin rfl rfl (mulE hm (by omega))) ?_
    refine zg1 ?_
    refine st_pure rfl (.bin rfl rfl (add64N (by omega))) ?_
    refine zg3 ?_
    refine wl_regF 24 [22] (by decide +kernel) ?_
    refine zg8 ?_
    try simp only [t1,dfq,Nat.zero_add,egd]
    refine zg4 ?_
    try simp only [t1,dfi,Nat.zero_add,egu]
    refine cp am1 (c_RInt ((chs (U1+U2) i:Nat):Int) (by omega) (by omega)) ?_
    refine zg4 ?_
    try simp only [t1,dfi,Nat.zero_add,egv]
    refine cp am1 (c_RInt ((chs (V1+V2) j:Nat):Int) (by omega) (by omega)) ?_
    refine cp am2 (c_RMul ((((chs (U1+U2) i:Nat):Int):Rat)) ((((chs (V1+V2) j:Nat):Int):Rat)) (by omega)) ?_
    refine cp am2 (c_RQuo ((mTop U1 V1 U2 V2 a b).getD (m+j) 0) ((((chs (U1+U2) i:Nat):Int):Rat)*(((chs (V1+V2) j:Nat):Int):Rat)) (by omega)) ?_
    refine zg13 ?_
    exact nx1 (j+1) (by omega)
   ·obtain rfl:j=V1+V2+1:=by omega
    refine zg11 ?_
    exact nx2 (i+1) (m+(V1+V2+1)) ⟨by omega,by rw [Nat.succ_mul];omega⟩ (he:=Weak.of_eq (put_id' (put_id' (put_id' (put_id' (put_id' (put_id' (put_id' (put_id' (mk_id' cl1) cl1) cl1) cl1) cl1) cl1) cl1) cl1) cl1))
  ·obtain rfl:i=U1+U2+1:=by omega
   have hE:(gL m (dvV (U1+U2) (V1+V2) (mTop U1 V1 U2 V2 a b))++(mTop U1 V1 U2 V2 a b).drop m)=tmL U1 V1 U2 V2 a b:=by rw [←hm,List.drop_of_length_le (by omega),List.append_nil];rfl
   refine zg13 ?_
   rw [←hE]
   exact retCT [55] rfl rfl rfl rfl rfl T215 (.agg (.cons (.pure rfl) (.cons (.pure rfl) (.cons (imm_refm ratE rfl rfl (by rw [List.length_append,gL_len,List.length_drop];omega)) .nil)))) rfl (.pure rfl)
end Go.Proofs.YthpfpgfehmhpdaaGreat
namespace Go.Lg
theorem clo_kill (b:Nat) (f:FuncId) (caps:List LV) (h:pures caps=true):(LV.clo f caps).kill b=.clo f caps:=LV.kill_pure b _ (by simpa [LV.pure] using h)
end Go.Lg
namespace Go.Proofs.YthpfpgfehmhpdaaGreat
open Go.Lg
def rwL (V:Nat) (c:List Rat) (i:Nat):List Rat:=(c.take ((i+1)*(V+1))).drop (i*(V+1))
theorem rw_le {U V i:Nat} {c:List Rat} (hc:c.length=(U+1)*(V+1)) (hi:i≤U):i*(V+1)+(V+1)≤c.length:=by
 rw [hc,←Nat.succ_mul];exact Nat.mul_le_mul_right _ (by omega)
theorem rwL_len {U V i:Nat} {c:List Rat} (hc:c.length=(U+1)*(V+1)) (hi:i≤U):(rwL V c i).length=V+1:=by
 have:=rw_le hc hi
 unfold rwL
 rw [List.length_drop,List.length_take,Nat.succ_mul];omega
theorem rwL_mem {V i:Nat} {c:List Rat} {x:Rat} (h:x∈rwL V c i):x∈c:=List.mem_of_mem_take (List.mem_of_mem_drop h)
theorem rwL_get {U V i j:Nat} {c:List Rat} (hc:c.length=(U+1)*(V+1)) (hi:i≤U) (hj:j≤V):(rwL V c i).getD j 0=c.getD (i*(V+1)+j) 0:=by
 have:=rw_le hc hi
 unfold rwL
 rw [getD_dropR,List.getD_eq_getElem?_getD,List.getElem?_take_of_lt (by rw [Nat.succ_mul];omega),←List.getD_eq_getElem?_getD]
def rsL (g:List Rat→List Rat) (V:Nat) (c:List Rat):Nat→List Rat
 | 0=>[]
 | i+1=>rsL g V c i++g (rwL V c i)
theorem rsL_len {g:List Rat→List Rat} {V W U:Nat} {c:List Rat} (hg:∀ i,i≤U→(g (rwL V c i)).length=W+1):∀ n,n≤U+1→(rsL g V c n).length=n*(W+1)
 | 0,_=>by rw [Nat.zero_mul];rfl
 | n+1,h=>by rw [rsL,List.length_append,rsL_len hg n (by omega),hg n (by omega),Nat.succ_mul]
theorem swL_len (U V:Nat) (c:List Rat):(swL U V c).length=(V+1)*(U+1):=gL_len _ _
theorem sw_rl {U V R:Nat} {c:List Rat} (hR:1≤R) (h:∀ x∈c,rl x≤R):∀ x∈swL U V c,rl x≤R:=by
 intro x hx
 obtain⟨i,_,rfl⟩:=List.mem_map.1 hx
 exact getD_rl hR h _
def colT (U V:Nat) (c:List Rat) (v:Rat):List Rat:=rsL (fun p=>[evP p v]) V c (U+1)
def rowT (U V:Nat) (c:List Rat) (u:Rat):List Rat:=rsL (fun p=>[evP p u]) U (swL U V c) (V+1)
theorem colT_len (U V:Nat) (c:List Rat) (v:Rat):(colT U V c v).length=U+1:=by
 have:=rsL_len (g:=fun p=>[evP p v]) (V:=V) (W:=0) (U:=U) (c:=c) (fun i _=>rfl) (U+1) (Nat.le_refl _)
 rw [colT,this];omega
theorem rowT_len (U V:Nat) (c:List Rat) (u:Rat):(rowT U V c u).length=V+1:=by
 have:=rsL_len (g:=fun p=>[evP p u]) (V:=U) (W:=0) (U:=V) (c:=swL U V c) (fun i _=>rfl) (V+1) (Nat.le_refl _)
 rw [rowT,this];omega
def evT (U V:Nat) (c:List Rat) (u v:Rat):Rat:=evP (rowT U V c u) v
def dfU (U V:Nat) (c:List Rat):List Rat:=swL V (U-1) (rsL difP U (swL U V c) (V+1))
def dfV (U V:Nat) (c:List Rat):List Rat:=rsL difP V c (U+1)
theorem dif_W {p:List Rat} {U:Nat} (h:p.length=U+1):(difP p).length=U-1+1:=by rw [difP_len];split<;>omega
theorem rs_rl {g:List Rat→List Rat} {V U R:Nat} {c:List Rat} (h:∀ i,i≤U→∀ x∈g (rwL V c i),rl x≤R):∀ {n:Nat},n≤U+1→∀ x∈rsL g V c n,rl x≤R
 | 0,_,x,hx=>by cases hx
 | n+1,hn,x,hx=>by
  rcases List.mem_append.1 (show x∈rsL g V c n++g (rwL V c n) from hx) with h1 | h1
  ·exact rs_rl h (by omega) x h1
  ·exact h n (by omega) x h1
open H0 in
theorem c_row7 (U V:Nat) (c:List Rat) (hc:c.length=(U+1)*(V+1)) (hl:c.length≤1048576) (i:Nat) (hi:i≤U):CallP Tryz.prog 266 [.agg [nI64 U,nI64 V,.list 3 (c.map ratL)],nI64 i] (.list 3 ((rwL V c i).map ratL)):=by
 have hU:U+1≤c.length:=by rw [hc];exact Nat.le_mul_of_pos_right _ (Nat.succ_pos V)
 have hV:V+1≤c.length:=by rw [hc];exact Nat.le_mul_of_pos_left _ (Nat.succ_pos U)
 have hnp:=net_pureN U V c
 have hri:=rw_le hc hi
 have hrs:(i+1)*(V+1)=i*(V+1)+(V+1):=Nat.succ_mul i (V+1)
 refine fnP Tryz.func266 ?_
 refine zg13 ?_
 refine st_pure rfl (.bin rfl rfl (add1N (by omega))) ?_
 refine st_pure rfl (.bin rfl rfl (mulE rfl (by omega))) ?_
 refine zg1 ?_
 refine st_pure rfl (.bin rfl rfl (add1N (by omega))) ?_
 refine zg2 ?_
 refine st_pure rfl (.bin rfl rfl (add1N (by omega))) ?_
 refine st_pure rfl (.bin rfl rfl (mulE rfl (by omega))) ?_
 refine st_pure rfl (.sliceLb (a:=_) (h:=_) ratE rfl Tryz.underlying26 T32 rfl rfl (by omega) (by omega)) ?_
 refine zg4 ?_
 exact ret1 rfl (by first | exact .pure rfl | exact .pure (limL_pure _) | exact .pure (magL_pure _) | exact .pure (ratE.pure _) | exact .pure (pure_lst u32E _ _) | exact .pure (pure_lst ratE _ _))
namespace H_c_rows
theorem zSm {p q:Prop} (k:q) (e:p=q:=by simp only [e1,e2,e3,e4,p1,p2,p3,q1,q2,q3,l1,t0,t1,r1,r2,r3,r4,Nat.zero_add,Nat.reduceMul,Nat.reduceAdd,b1,b2,b3,b4,b5,b6,i1,i2,i3,i4,i5,i6,Nat.reduceBEq,frz_nil,dfq,clo_kill _ _ _ hcp,ers,etk,elen,Nat.add_sub_cancel,List.length_map,kills_map ratE,ratL_kill,spL_kill,LV.kill,kills];exact rfl):p:=e.mpr k
theorem zSm1 {p q:Prop} (k:q) (e:p=q:=by simp only [e1,e2,e3,e4,p1,p2,p3,q1,q2,q3,l1,t0,t1,r1,r2,r3,r4,Nat.zero_add,Nat.reduceMul,Nat.reduceAdd,b1,b2,b3,b4,b5,b6,i1,i2,i3,i4,i5,i6,Nat.reduceBEq,frz_nil,dfq,clo_kill _ _ _ hcp,ers,etk,elen,Nat.add_sub_cancel,List.length_map,kills_map ratE,ratL_kill,spL_kill,LV.kill,kills,elen];exact rfl):p:=e.mpr k
theorem nf1 {p:Prop} (h:p:=by first | (refine zSm1 ?_;exact rfl) | exact rfl):p:=h
end H_c_rows
open H_c_rows in
theorem c_rows (U V:Nat) (c:List Rat) (hc:c.length=(U+1)*(V+1)) (hl:c.length≤1048576) (f:Nat) (caps:List LV) (hcp:pures caps=true) (hcs:∀ x∈caps,x.csize=1∧x.isAgg=false) (g:List Rat→List Rat) (W:Nat) (hf:∀ i,i≤U→CallP Tryz.prog f ([.list 3 ((rwL V c i).map ratL)]++caps) (.list 3 ((g (rwL V c i)).map ratL))) (hg:∀ i,i≤U→(g (rwL V c i)).length=W+1) (hW:(U+1)*(W+1)≤1048576):CallP Tryz.prog 229 [.agg [nI64 U,nI64 V,.list 3 (c.map ratL)],.clo f caps] (.agg [nI64 U,nI64 W,.list 3 ((rsL g V c (U+1)).map ratL)]):=by
 have hU:U+1≤c.length:=by rw [hc];exact Nat.le_mul_of_pos_right _ (Nat.succ_pos V)
 have hV:V+1≤c.length:=by rw [hc];exact Nat.le_mul_of_pos_left _ (Nat.succ_pos U)
 have hnp:=net_pureN U V c
 have hW2:W+1≤(U+1)*(W+1):=Nat.le_mul_of_pos_left _ (Nat.succ_pos U)
 refine fnP Tryz.func229 (ht:=(fun g=>LV.ren_pure g _ (net_pureN _ _ _))) ?_
 have ers:True:=trivial
 have etk:True:=trivial
 have elen:True:=trivial
 refine zg19 ?_
 refine cp am1 (c_shaped U V c hc hl) ?_
 refine zg11 ?_
 refine st_pure rfl (.bin rfl rfl (add1N (by omega))) ?_
 refine zg4 ?_
 refine wl_weak ((Weak.cell 5 rfl (fun Z μ w cs h=>rep_net 35 3 _ _ Z μ w cs h)).trans (Weak.newB _ 35 3 rfl)) ?_
 refine lp3 (fun(i m v:Nat) L=>(((((((St.mk L.slot (hp [(2,⟨3,[.agg [nI64 U,nI64 V,.list 3 (c.map ratL)]],true⟩),(4,⟨3,[.agg [.v (.int .i64 0),.v (.int .i64 0),.v (.slice none 0 0)]],true⟩),(5,⟨3,[.agg [nI64 U,nI64 v,.ref 35 3 0 m]],true⟩),(35,⟨3,(rsL g V c i).map ratL,true⟩)])).put (some 1) (.clo f caps)).put (some 2) (.eptr 2 3 0 0)).put (some 4) (.eptr 4 3 0 0)).put (some 5) (.eptr 5 3 0 0)).put (some 19) (nI64 (U+1))).put (some 20) (nI64 i))) (fun i m v=>i≤U+1∧i*(W+1)=m∧(i=0∨v=W)) (fun i m v=>U+1-i) 0 0 0 ⟨Nat.zero_le _,Nat.zero_mul _,.inl rfl⟩ ?_
 rintro i m v L1 ⟨hi,hm,hv⟩
 refine zg6 ?_
 refine wl_if rfl (fun h21r h21=>?_) (fun h21r h21=>?_)
 ·have hi2:i≤U:=by omega
  have hfi:=hf i hi2
  have elen:=hg i hi2
  have hrl:=rsL_len hg i hi
  rw [hm] at hrl
  have hmu:m+(W+1)≤(U+1)*(W+1):=by rw [←hm,←Nat.succ_mul];exact Nat.mul_le_mul_right _ (by omega)
  have ers:(rsL g V c i).map ratL++(g (rwL V c i)).map ratL=(rsL g V c (i+1)).map ratL:=by rw [rsL,List.map_append]
  have etk:((rsL g V c i).map ratL).take m=(rsL g V c i).map ratL:=List.take_of_length_le (by rw [List.length_map];omega)
  refine zg15 ?_
  refine cp am2 (c_row7 U V c hc hl i hi2) ?_
  refine st_opc [] rfl rfl (.clo (f:=f) (cap:=caps) (args:=[.list 3 ((rwL V c i).map ratL)]) rfl (.cons im0 .nil) ⟨hcp,hcs⟩ hfi.1 (by decide) (fun _ h=>by cases h)) (hfi.2 _) ?_
  refine zg7 ?_
  refine st_pure rfl (.bin rfl rfl (sub1N (by omega) (by omega))) ?_
  refine zg1 ?_
  refine st_store rfl (.store rfl rfl rfl rfl rfl rfl rfl T3 ne0) ?_
  refine st_end nf1 ?_
  refine zg5 ?_
  refine st_store rfl (.app (news:=(g (rwL V c i)).map ratL) rfl rfl rfl rfl rfl (by rw [List.length_map];omega) (.inl rfl) (by decide) Tryz.underlying26 Tryz.underlying278 Z32a T32 rfl B32 (.inr (.inl rfl)) (by rw [List.length_map,elen];omega) (by rw [List.length_map,elen];omega) (by decide)) ?_
  refine zg10 ?_
  exact nx3 (i+1) (m+(W+1)) W ⟨by omega,by rw [Nat.succ_mul];omega,.inr rfl⟩
 ·obtain rfl:i=U+1:=by omega
  obtain rfl:v=W:=by omega
  have hrl:=rsL_len hg (U+1) (Nat.le_refl _)
  refine zg12 ?_
  exact retC [35] rfl rfl rfl rfl rfl T215 (.agg (.cons (.pure rfl) (.cons (.pure rfl) (.cons (imm_refm ratE rfl rfl (by omega)) .nil))))
open H0 in
theorem c_columns (U V:Nat) (c:List Rat) (hc:c.length=(U+1)*(V+1)) (hl:c.length≤1048576) (hcR:∀ x∈c,rl x≤274877906944) (f:Nat) (caps:List LV) (hcp:pures caps=true) (hcs:∀ x∈caps,x.csize=1∧x.isAgg=false) (g:List Rat→List Rat) (W:Nat) (hf:∀ j,j≤V→CallP Tryz.prog f ([.list 3 ((rwL U (swL U V c) j).map ratL)]++caps) (.list 3 ((g (rwL U (swL U V c) j)).map ratL))) (hg:∀ j,j≤V→(g (rwL U (swL U V c) j)).length=W+1) (hW:(V+1)*(W+1)≤1048576) (hgR:∀ x∈(rsL g U (swL U V c) (V+1)),rl x≤274877906944):CallP Tryz.prog 227 [.agg [nI64 U,nI64 V,.list 3 (c.map ratL)],.clo f caps] (.agg [nI64 W,nI64 V,.list 3 ((swL V W (rsL g U (swL U V c) (V+1))).map ratL)]):=by
 have hU:U+1≤c.length:=by rw [hc];exact Nat.le_mul_of_pos_right _ (Nat.succ_pos V)
 have hV:V+1≤c.length:=by rw [hc];exact Nat.le_mul_of_pos_left _ (Nat.succ_pos U)
 have hnp:=net_pureN U V c
 have hsl:=swL_len U V c
 have hsw:(swL U V c).length≤1048576:=by rw [hsl,Nat.mul_comm,←hc];exact hl
 have hnp2:=net_pureN V U (swL U V c)
 have hrl:=rsL_len hg (V+1) (Nat.le_refl _)
 have hnp3:=net_pureN V W (rsL g U (swL U V c) (V+1))
 have hcl:LV.pure (.clo f caps)=true:=by simpa [LV.pure] using hcp
 refine fnP Tryz.func227 (ht:=(fun g=>LV.ren_pure g _ (net_pureN _ _ _))) ?_
 refine zg9 ?_
 refine cp am1 (c_Swap U V c hc hl hcR) ?_
 refine zg1 ?_
 refine cp am2 (c_rows V U (swL U V c) hsl hsw f caps hcp hcs g W hf hg hW) ?_
 refine cp am1 (c_Swap V W (rsL g U (swL U V c) (V+1)) hrl (by omega) hgR) ?_
 refine zg4 ?_
 exact retC [] rfl rfl rfl rfl rfl T215 (.pure (net_pureN _ _ _))
open H0 in
theorem c_DiffU (U V:Nat) (c:List Rat) (hc:c.length=(U+1)*(V+1)) (hl:c.length≤1048576) (hcR:∀ x∈c,rl x≤1073741824) (hU1:U≤900):CallP Tryz.prog 164 [.agg [nI64 U,nI64 V,.list 3 (c.map ratL)]] (.agg [nI64 (U-1),nI64 V,.list 3 ((dfU U V c).map ratL)]):=by
 have hU:U+1≤c.length:=by rw [hc];exact Nat.le_mul_of_pos_right _ (Nat.succ_pos V)
 have hV:V+1≤c.length:=by rw [hc];exact Nat.le_mul_of_pos_left _ (Nat.succ_pos U)
 have hnp:=net_pureN U V c
 have hsl:=swL_len U V c
 have hsw:(swL U V c).length≤1048576:=by rw [hsl,Nat.mul_comm,←hc];exact hl
 have hnp2:=net_pureN (U-1) V (dfU U V c)
 have hsR:=sw_rl (U:=U) (V:=V) (R:=1073741824) (by decide) hcR
 refine fnP Tryz.func164 (ht:=(fun g=>LV.ren_pure g _ (net_pureN _ _ _))) ?_
 refine zg9 ?_
 refine cp am2 (c_columns U V c hc hl (fun x hx=>Nat.le_trans (hcR x hx) (by decide)) 228 [] rfl (fun x hx=>by cases hx) difP (U-1) (fun j hj=>c_Diff _ (by rw [rwL_len hsl hj];omega) (fun x hx=>hsR x (rwL_mem hx))) (fun j hj=>dif_W (rwL_len hsl hj)) (by have:=Nat.mul_le_mul_left (V+1) (show U-1+1≤U+1 by omega);omega) (rs_rl (U:=V) (fun j hj x hx=>Nat.le_trans (difP_rl (R:=1073741824) (by decide) (by rw [rwL_len hsl hj];omega) (fun x hx=>hsR x (rwL_mem hx)) x hx) (by decide)) (Nat.le_refl _))) ?_
 refine zg4 ?_
 exact retC [] rfl rfl rfl rfl rfl T215 (.pure (net_pureN _ _ _))
end Go.Proofs.YthpfpgfehmhpdaaGreat
end
