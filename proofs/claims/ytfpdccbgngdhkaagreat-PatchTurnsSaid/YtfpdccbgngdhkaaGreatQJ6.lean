/- Texts T2, T3, T6, T7, T8, T9, T15, T16, Y2, Y3, Y0, Y4, Y5, Y6, Y7, Y8, Y9, Y10, LgU, Y11, Y12 of this proof, joined. -/
import Derived.Test.YtfpdccbgngdhkaaGreatQJ5
set_option linter.unusedVariables false
set_option linter.unusedSimpArgs false
section
set_option linter.unusedVariables false
set_option linter.unusedSimpArgs false
set_option maxHeartbeats 8000000
set_option maxRecDepth 100000
attribute [local irreducible] Go.Lg.opsL Go.Lg.wpL Go.Lg.thenL Go.Lg.blockL
namespace Go.Proofs.YtfpdccbgngdhkaaGreat
open Go.Lg
theorem gL_zero (W:Nat→Rat):gL 0 W=[]:=rfl
namespace H_c_TMulK
theorem zSm {p q:Prop} (k:q) (e:p=q:=by simp only [e1,e2,e3,e4,p1,p2,p3,q1,q2,q3,l1,t0,t1,r1,r2,r3,r4,Nat.zero_add,Nat.reduceMul,Nat.reduceAdd,b1,b2,b3,b4,b5,b6,i1,i2,i3,i4,i5,i6,Nat.reduceBEq,frz_nil,dfq,dfi,rowI_len,egu,egv,Nat.add_zero,egd,esd,List.length_set,kills_map i64E,kills_map ratE,ratL_kill,spL_kill,LV.kill,kills];exact rfl):p:=e.mpr k
theorem zSm1 {p q:Prop} (k:q) (e:p=q:=by simp only [e1,e2,e3,e4,p1,p2,p3,q1,q2,q3,l1,t0,t1,r1,r2,r3,r4,Nat.zero_add,Nat.reduceMul,Nat.reduceAdd,b1,b2,b3,b4,b5,b6,i1,i2,i3,i4,i5,i6,Nat.reduceBEq,frz_nil,dfq,dfi,rowI_len,egu,egv,Nat.add_zero,egd,esd,List.length_set,kills_map i64E,kills_map ratE,ratL_kill,spL_kill,LV.kill,kills,gL_zero,List.nil_append,List.drop_zero];exact rfl):p:=e.mpr k
theorem cl1 {p:Prop} (h:p:=by first | rfl | (refine zSm1 ?_;first | exact trivial | rfl | (congr 3<;>omega) | (congr 2<;>omega))):p:=h
end H_c_TMulK
open H_c_TMulK in
theorem c_TMulK (U1 V1 U2 V2:Nat) (a b:List Rat) (ha:a.length=(U1+1)*(V1+1)) (hb:b.length=(U2+1)*(V2+1)) (hal:a.length≤1048576) (hbl:b.length≤1048576) (hu:U1+U2≤40) (hv:V1+V2≤40) (R:Nat) (hR1:1≤R) (hR:R≤1000000) (hK:(U1+1)*((V1+1)*((U2+1)*((V2+1)*(2*R+14))))≤10000000000) (haR:∀ x∈a,rl x≤R) (hbR:∀ x∈b,rl x≤R):CallP Tryz.prog 211 [.agg [nI64 U1,nI64 V1,.list 3 (a.map ratL)],.agg [nI64 U2,nI64 V2,.list 3 (b.map ratL)]] (.tup [.agg [nI64 (U1+U2),nI64 (V1+V2),.list 3 ((tmL U1 V1 U2 V2 a b).map ratL)],iL 0]):=by
 have hA1:U1+1≤a.length:=by rw [ha];exact Nat.le_mul_of_pos_right _ (Nat.succ_pos V1)
 have hA2:V1+1≤a.length:=by rw [ha];exact Nat.le_mul_of_pos_left _ (Nat.succ_pos U1)
 have hB1:U2+1≤b.length:=by rw [hb];exact Nat.le_mul_of_pos_right _ (Nat.succ_pos V2)
 have hB2:V2+1≤b.length:=by rw [hb];exact Nat.le_mul_of_pos_left _ (Nat.succ_pos U2)
 have hnp1:=net_pureN U1 V1 a
 have hnp2:=net_pureN U2 V2 b
 have hT:((U1+U2+1)*(V1+V2+1))≤1681:=Nat.le_trans (Nat.mul_le_mul (show U1+U2+1≤41 by omega) (show V1+V2+1≤41 by omega)) (by decide)
 have hwa:=wt_rl (U:=U1) (V:=V1) (c:=a) (by omega) (by omega) hR1 haR
 have hwb:=wt_rl (U:=U2) (V:=V2) (c:=b) (by omega) (by omega) hR1 hbR
 have hwal:(wtL U1 V1 a).length=a.length:=by rw [wtL,gL_len,ha]
 have hwbl:(wtL U2 V2 b).length=b.length:=by rw [wtL,gL_len,hb]
 obtain⟨z1,hz1⟩:∃ z1,(V2+1)*(2*R+14)=z1:=⟨_,rfl⟩
 obtain⟨z2,hz2⟩:∃ z2,(U2+1)*z1=z2:=⟨_,rfl⟩
 obtain⟨z3,hz3⟩:∃ z3,(V1+1)*z2=z3:=⟨_,rfl⟩
 have hq1:z1≤z2:=by rw [←hz2];exact Nat.le_mul_of_pos_left _ (Nat.succ_pos _)
 have hq2:z2≤z3:=by rw [←hz3];exact Nat.le_mul_of_pos_left _ (Nat.succ_pos _)
 have hq3:z3≤(U1+1)*z3:=Nat.le_mul_of_pos_left _ (Nat.succ_pos _)
 have hq5:(U1+1)*z3≤10000000000:=by rw [←hz3,←hz2,←hz1];exact hK
 refine fnP Tryz.func211 (ht:=(tame2 (net_pureN _ _ _) rfl)) ?_
 have egu:True:=trivial
 have egv:True:=trivial
 have egd:True:=trivial
 have esd:True:=trivial
 refine zg14 ?_
 refine st_pure rfl (.bin rfl rfl (add64N (by omega))) ?_
 refine zg4 ?_
 refine st_pure rfl (.bin rfl rfl (add64N (by omega))) ?_
 refine zg12 ?_
 refine st_pure (guardX (v:=false) rfl rfl ((decide_eq_false (by omega))) rfl) faA ?_
 refine st_pure (guardX (v:=false) rfl rfl ((decide_eq_false (by omega))) rfl) ldA ?_
 refine st_pure (guardX (v:=false) rfl rfl ((decide_eq_false (by omega))) rfl) (.bin rfl rfl rfl) ?_
 refine st_pure rfl (.pickF rfl ((decide_eq_false (by omega)))) ?_
 refine zg2 ?_
 refine wl_condY (b:=_) rfl (decide_eq_false (by omega)) ?_
 refine zg6 ?_
 refine cp am1 (c_shaped U1 V1 a ha hal) ?_
 refine zg3 ?_
 refine cp am1 (c_shaped U2 V2 b hb hbl) ?_
 refine zg11 ?_
 refine st_pure rfl (.bin rfl rfl (add1N (by omega))) ?_
 refine zg2 ?_
 refine st_pure rfl (.bin rfl rfl (add1N (by omega))) ?_
 refine st_pure rfl (.bin rfl rfl (mulE rfl (by omega))) ?_
 refine st_alloc rfl rfl (.mkE (n:=((U1+U2+1)*(V1+V2+1))) (m:=((U1+U2+1)*(V1+V2+1))) ml ml om om om) ?_
 refine zg5 ?_
 refine wl_regD 6 (by decide +kernel) ?_
 refine zg1 ?_
 refine cp am1 (c_weighted U1 V1 a ha hal (by omega) (by omega) R hR1 (by omega) haR) ?_
 refine zg1 ?_
 refine cp am1 (c_weighted U2 V2 b hb hbl (by omega) (by omega) R hR1 (by omega) hbR) ?_
 refine zg9 ?_
 refine st_pure rfl (.bin rfl rfl (add1N (by omega))) ?_
 refine zg4 ?_
 refine lp2 (fun(i:Nat) (oI:List Rat) L=>(((((((((St.mk L.slot (hp [(2,⟨3,[.agg [nI64 U1,nI64 V1,.list 3 (a.map ratL)]],true⟩),(3,⟨3,[.agg [nI64 U2,nI64 V2,.list 3 (b.map ratL)]],true⟩),(4,⟨3,[.agg [.v (.int .i64 0),.v (.int .i64 0),.v (.slice none 0 0)]],true⟩),(6,⟨3,[.agg [nI64 (U1+U2),nI64 (V1+V2),.ref 55 3 0 ((U1+U2+1)*(V1+V2+1))]],true⟩),(55,⟨3,oI.map ratL,true⟩)])).put (some 2) (.eptr 2 3 0 0)).put (some 3) (.eptr 3 3 0 0)).put (some 4) (.eptr 4 3 0 0)).put (some 6) (.eptr 6 3 0 0)).put (some 7) (.list 3 ((wtL U1 V1 a).map ratL))).put (some 8) (.list 3 ((wtL U2 V2 b).map ratL))).put (some 63) (nI64 (U1+1))).put (some 64) (nI64 i))) (fun i oI=>i≤U1+1∧oI=mI V1 V2 (V1+V2) U2 (wtL U1 V1 a) (wtL U2 V2 b) i (List.replicate ((U1+U2+1)*(V1+V2+1)) 0)∧oI.length=((U1+U2+1)*(V1+V2+1))∧∀ x∈oI,rl x≤1+i*z3) (fun i oI=>U1+1-i) 0 (List.replicate ((U1+U2+1)*(V1+V2+1)) 0) ⟨Nat.zero_le _,rfl,by simp,fun x hx=>by rw [(List.mem_replicate.1 hx).2];exact Nat.le_add_right 1 _⟩ ?_
 rintro i oI L1 ⟨hi,hoI,hlI,hrI⟩
 refine zg6 ?_
 refine wl_if rfl (fun h65r h65=>?_) (fun h65r h65=>?_)
 ·have hi2:i≤U1:=by omega
  have hi3:i*z3+z3≤(U1+1)*z3:=by rw [←Nat.succ_mul];exact Nat.mul_le_mul_right _ (by omega)
  refine zg14 ?_
  refine st_pure rfl (.bin rfl rfl (add1N (by omega))) ?_
  refine zg4 ?_
  refine lp2 (fun(j:Nat) (oJ:List Rat) L=>((((((((((((St.mk L.slot (hp [(2,⟨3,[.agg [nI64 U1,nI64 V1,.list 3 (a.map ratL)]],true⟩),(3,⟨3,[.agg [nI64 U2,nI64 V2,.list 3 (b.map ratL)]],true⟩),(4,⟨3,[.agg [.v (.int .i64 0),.v (.int .i64 0),.v (.slice none 0 0)]],true⟩),(6,⟨3,[.agg [nI64 (U1+U2),nI64 (V1+V2),.ref 55 3 0 ((U1+U2+1)*(V1+V2+1))]],true⟩),(55,⟨3,oJ.map ratL,true⟩)])).put (some 2) (.eptr 2 3 0 0)).put (some 3) (.eptr 3 3 0 0)).put (some 4) (.eptr 4 3 0 0)).put (some 6) (.eptr 6 3 0 0)).put (some 7) (.list 3 ((wtL U1 V1 a).map ratL))).put (some 8) (.list 3 ((wtL U2 V2 b).map ratL))).put (some 63) (nI64 (U1+1))).put (some 64) (nI64 i)).put (some 9) (nI64 i)).put (some 69) (nI64 (V1+1))).put (some 70) (nI64 j))) (fun j oJ=>j≤V1+1∧oJ=mJ V1 V2 (V1+V2) U2 (wtL U1 V1 a) (wtL U2 V2 b) i j oI∧oJ.length=((U1+U2+1)*(V1+V2+1))∧∀ x∈oJ,rl x≤1+i*z3+j*z2) (fun j oJ=>V1+1-j) 0 oI ⟨Nat.zero_le _,rfl,hlI,fun x hx=>by rw [Nat.zero_mul];exact hrI x hx⟩ ?_
  rintro j oJ L2 ⟨hj,hoJ,hlJ,hrJ⟩
  refine zg6 ?_
  refine wl_if rfl (fun h71r h71=>?_) (fun h71r h71=>?_)
  ·have hj2:j≤V1:=by omega
   have hj3:j*z2+z2≤z3:=by rw [←Nat.succ_mul,←hz3];exact Nat.mul_le_mul_right _ (by omega)
   refine zg14 ?_
   refine st_pure rfl (.bin rfl rfl (add1N (by omega))) ?_
   refine zg4 ?_
   refine lp2 (fun(k:Nat) (oK:List Rat) L=>(((((((((((((((St.mk L.slot (hp [(2,⟨3,[.agg [nI64 U1,nI64 V1,.list 3 (a.map ratL)]],true⟩),(3,⟨3,[.agg [nI64 U2,nI64 V2,.list 3 (b.map ratL)]],true⟩),(4,⟨3,[.agg [.v (.int .i64 0),.v (.int .i64 0),.v (.slice none 0 0)]],true⟩),(6,⟨3,[.agg [nI64 (U1+U2),nI64 (V1+V2),.ref 55 3 0 ((U1+U2+1)*(V1+V2+1))]],true⟩),(55,⟨3,oK.map ratL,true⟩)])).put (some 2) (.eptr 2 3 0 0)).put (some 3) (.eptr 3 3 0 0)).put (some 4) (.eptr 4 3 0 0)).put (some 6) (.eptr 6 3 0 0)).put (some 7) (.list 3 ((wtL U1 V1 a).map ratL))).put (some 8) (.list 3 ((wtL U2 V2 b).map ratL))).put (some 63) (nI64 (U1+1))).put (some 64) (nI64 i)).put (some 9) (nI64 i)).put (some 69) (nI64 (V1+1))).put (some 70) (nI64 j)).put (some 10) (nI64 j)).put (some 75) (nI64 (U2+1))).put (some 76) (nI64 k))) (fun k oK=>k≤U2+1∧oK=mK V1 V2 (V1+V2) (wtL U1 V1 a) (wtL U2 V2 b) i j k oJ∧oK.length=((U1+U2+1)*(V1+V2+1))∧∀ x∈oK,rl x≤1+i*z3+j*z2+k*z1) (fun k oK=>U2+1-k) 0 oJ ⟨Nat.zero_le _,rfl,hlJ,fun x hx=>by rw [Nat.zero_mul];exact hrJ x hx⟩ ?_
   rintro k oK L3 ⟨hk,hoK,hlK,hrK⟩
   refine zg6 ?_
   refine wl_if rfl (fun h77r h77=>?_) (fun h77r h77=>?_)
   ·have hk2:k≤U2:=by omega
    have hk3:k*z1+z1≤z2:=by rw [←Nat.succ_mul,←hz2];exact Nat.mul_le_mul_right _ (by omega)
    refine zg14 ?_
    refine st_pure rfl (.bin rfl rfl (add1N (by omega))) ?_
    refine zg4 ?_
    refine lp2 (fun(l:Nat) (o:List Rat) L=>((((((((((((((((((St.mk L.slot (hp [(2,⟨3,[.agg [nI64 U1,nI64 V1,.list 3 (a.map ratL)]],true⟩),(3,⟨3,[.agg [nI64 U2,nI64 V2,.list 3 (b.map ratL)]],true⟩),(4,⟨3,[.agg [.v (.int .i64 0),.v (.int .i64 0),.v (.slice none 0 0)]],true⟩),(6,⟨3,[.agg [nI64 (U1+U2),nI64 (V1+V2),.ref 55 3 0 ((U1+U2+1)*(V1+V2+1))]],true⟩),(55,⟨3,o.map ratL,true⟩)])).put (some 2) (.eptr 2 3 0 0)).put (some 3) (.eptr 3 3 0 0)).put (some 4) (.eptr 4 3 0 0)).put (some 6) (.eptr 6 3 0 0)).put (some 7) (.list 3 ((wtL U1 V1 a).map ratL))).put (some 8) (.list 3 ((wtL U2 V2 b).map ratL))).put (some 63) (nI64 (U1+1))).put (some 64) (nI64 i)).put (some 9) (nI64 i)).put (some 69) (nI64 (V1+1))).put (some 70) (nI64 j)).put (some 10) (nI64 j)).put (some 75) (nI64 (U2+1))).put (some 76) (nI64 k)).put (some 11) (nI64 k)).put (some 81) (nI64 (V2+1))).put (some 82) (nI64 l))) (fun l o=>l≤V2+1∧o=mL V1 V2 (V1+V2) (wtL U1 V1 a) (wtL U2 V2 b) i j k l oK∧o.length=((U1+U2+1)*(V1+V2+1))∧∀ x∈o,rl x≤1+i*z3+j*z2+k*z1+l*(2*R+14)) (fun l o=>V2+1-l) 0 oK ⟨Nat.zero_le _,rfl,hlK,fun x hx=>by rw [Nat.zero_mul];exact hrK x hx⟩ ?_
    rintro l o L4 ⟨hl,ho,hlL,hrL⟩
    refine zg6 ?_
    refine wl_if rfl (fun h83r h83=>?_) (fun h83r h83=>?_)
    ·have hl2:l≤V2:=by omega
     have hl3:l*(2*R+14)+(2*R+14)≤z1:=by rw [←Nat.succ_mul,←hz1];exact Nat.mul_le_mul_right _ (by omega)
     have hx1:=ix_lt (U:=U1+U2) (V:=V1+V2) (i:=i+k) (j:=j+l) (by omega) (by omega)
     have hx2:=ix_lt hi2 hj2
     have hx3:=ix_lt hk2 hl2
     rw [←ha] at hx2
     rw [←hb] at hx3
     have hr1:=getD_rl (S:=R+6) (by omega) hwa (i*(V1+1)+j)
     have hr2:=getD_rl (S:=R+6) (by omega) hwb (k*(V2+1)+l)
     have hr3:=getD_rl (by omega) hrL ((i+k)*(V1+V2+1)+j+l)
     have hr4:=rl_mul ((wtL U1 V1 a).getD (i*(V1+1)+j) 0) ((wtL U2 V2 b).getD (k*(V2+1)+l) 0)
     have hr5:=rl_add (o.getD ((i+k)*(V1+V2+1)+j+l) 0) ((wtL U1 V1 a).getD (i*(V1+1)+j) 0*(wtL U2 V2 b).getD (k*(V2+1)+l) 0)
     refine zg14 ?_
     refine st_pure rfl (.bin rfl rfl (add64N (by omega))) ?_
     refine zg2 ?_
     refine st_pure rfl (.bin rfl rfl (add1N (by omega))) ?_
     refine st_pure rfl (.bin rfl rfl (mulE rfl (by omega))) ?_
     refine zg1 ?_
     refine st_pure rfl (.bin rfl rfl (add64N (by omega))) ?_
     refine zg1 ?_
     refine st_pure rfl (.bin rfl rfl (add64N (by omega))) ?_
     refine zg3 ?_
     refine wl_regD 31 (by decide +kernel) ?_
     refine zg8 ?_
     try simp only [t1,dfq,Nat.zero_add]
     refine zg4 ?_
     refine st_pure rfl (.bin rfl rfl (add1N (by omega))) ?_
     refine st_pure rfl (.bin rfl rfl (mulE rfl (by omega))) ?_
     refine zg1 ?_
     refine st_pure rfl (.bin rfl rfl (add64N (by omega))) ?_
     refine zg6 ?_
     refine st_pure rfl (.bin rfl rfl (add1N (by omega))) ?_
     refine st_pure rfl (.bin rfl rfl (mulE rfl (by omega))) ?_
     refine zg1 ?_
     refine st_pure rfl (.bin rfl rfl (add64N (by omega))) ?_
     refine zg2 ?_
     refine cp am2 (c_RMul ((wtL U1 V1 a).getD (i*(V1+1)+j) 0) ((wtL U2 V2 b).getD (k*(V2+1)+l) 0) (by omega)) ?_
     refine cp am2 (c_RAdd (o.getD ((i+k)*(V1+V2+1)+j+l) 0) ((wtL U1 V1 a).getD (i*(V1+1)+j) 0*(wtL U2 V2 b).getD (k*(V2+1)+l) 0) (by omega)) ?_
     refine zg10 ?_
     exact nx2 (l+1) (o.set ((i+k)*(V1+V2+1)+j+l) (o.getD ((i+k)*(V1+V2+1)+j+l) 0+(wtL U1 V1 a).getD (i*(V1+1)+j) 0*(wtL U2 V2 b).getD (k*(V2+1)+l) 0)) ⟨by omega,by rw [ho];rfl,by rw [List.length_set];exact hlL,set_rl (fun x hx=>by have:=hrL x hx;rw [Nat.succ_mul];omega) (by rw [Nat.succ_mul];omega)⟩
    ·obtain rfl:l=V2+1:=by omega
     refine zg11 ?_
     exact nx2 (k+1) o ⟨by omega,by rw [ho,hoK];rfl,hlL,fun x hx=>by have:=hrL x hx;rw [hz1] at this;rw [Nat.succ_mul];omega⟩
   ·obtain rfl:k=U2+1:=by omega
    rw [hz2] at hrK
    refine zg11 ?_
    exact nx2 (j+1) oK ⟨by omega,by rw [hoK,hoJ];rfl,hlK,fun x hx=>by have:=hrK x hx;rw [Nat.succ_mul];omega⟩
  ·obtain rfl:j=V1+1:=by omega
   rw [hz3] at hrJ
   refine zg11 ?_
   exact nx2 (i+1) oJ ⟨by omega,by rw [hoJ,hoI];rfl,hlJ,fun x hx=>by have:=hrJ x hx;rw [Nat.succ_mul];omega⟩
 ·obtain rfl:i=U1+1:=by omega
  have hOF:oI=(mTop U1 V1 U2 V2 a b):=hoI
  clear hoI
  subst hOF
  refine zg6 ?_
  refine wl_regD 8 (by decide +kernel) ?_
  refine zg2 ?_
  refine cp am1 (c_choose7 (U1+U2) hu) ?_
  refine zg2 ?_
  refine cp am1 (c_choose7 (V1+V2) hv) ?_
  refine zg13 ?_
  refine lp2 (fun(i m:Nat) L=>(((((((((St.mk L.slot (hp [(2,⟨3,[.agg [nI64 U1,nI64 V1,.list 3 (a.map ratL)]],true⟩),(3,⟨3,[.agg [nI64 U2,nI64 V2,.list 3 (b.map ratL)]],true⟩),(4,⟨3,[.agg [.v (.int .i64 0),.v (.int .i64 0),.v (.slice none 0 0)]],true⟩),(6,⟨3,[.agg [nI64 (U1+U2),nI64 (V1+V2),.ref 55 3 0 ((U1+U2+1)*(V1+V2+1))]],true⟩),(55,⟨3,(gL m (dvV (U1+U2) (V1+V2) (mTop U1 V1 U2 V2 a b))++(mTop U1 V1 U2 V2 a b).drop m).map ratL,true⟩)])).put (some 2) (.eptr 2 3 0 0)).put (some 3) (.eptr 3 3 0 0)).put (some 4) (.eptr 4 3 0 0)).put (some 6) (.eptr 6 3 0 0)).put (some 14) (.list 1 ((rowI (U1+U2)).map i64L))).put (some 15) (.list 1 ((rowI (V1+V2)).map i64L))).put (some 138) (nI64 (U1+U2+1))).put (some 139) (nI64 i))) (fun i m=>i≤U1+U2+1∧i*(V1+V2+1)=m) (fun i m=>U1+U2+1-i) 0 0 ⟨Nat.zero_le _,Nat.zero_mul _⟩ (h0:=⟨_,Weak.of_eq (put_id' (put_id' (put_id' (put_id' (put_id' (put_id' (put_id' (put_id' (mk_id' cl1) cl1) cl1) cl1) cl1) cl1) cl1) cl1) cl1)⟩) ?_
  rintro i m L5 ⟨hi,hm⟩
  refine zg6 ?_
  refine wl_if rfl (fun h140r h140=>?_) (fun h140r h140=>?_)
  ·have hi2:i≤U1+U2:=by omega
   have egu:=rowI_get hi2
   have hcu:=chs_40 i hu
   refine zg18 ?_
   refine lp1 (fun(j:Nat) L=>((((((((((((St.mk L.slot (hp [(2,⟨3,[.agg [nI64 U1,nI64 V1,.list 3 (a.map ratL)]],true⟩),(3,⟨3,[.agg [nI64 U2,nI64 V2,.list 3 (b.map ratL)]],true⟩),(4,⟨3,[.agg [.v (.int .i64 0),.v (.int .i64 0),.v (.slice none 0 0)]],true⟩),(6,⟨3,[.agg [nI64 (U1+U2),nI64 (V1+V2),.ref 55 3 0 ((U1+U2+1)*(V1+V2+1))]],true⟩),(55,⟨3,(gL (m+j) (dvV (U1+U2) (V1+V2) (mTop U1 V1 U2 V2 a b))++(mTop U1 V1 U2 V2 a b).drop (m+j)).map ratL,true⟩)])).put (some 2) (.eptr 2 3 0 0)).put (some 3) (.eptr 3 3 0 0)).put (some 4) (.eptr 4 3 0 0)).put (some 6) (.eptr 6 3 0 0)).put (some 14) (.list 1 ((rowI (U1+U2)).map i64L))).put (some 15) (.list 1 ((rowI (V1+V2)).map i64L))).put (some 138) (nI64 (U1+U2+1))).put (some 139) (nI64 i)).put (some 16) (nI64 i)).put (some 143) (nI64 (V1+V2+1))).put (some 144) (nI64 j))) (fun j=>j≤V1+V2+1) (fun j=>V1+V2+1-j) 0 (Nat.zero_le _) ?_
   rintro j L6 hj
   refine zg6 ?_
   refine wl_if rfl (fun h145r h145=>?_) (fun h145r h145=>?_)
   ·have hj2:j≤V1+V2:=by omega
    have egv:=rowI_get hj2
    have hcv:=chs_40 j hv
    have hix:=ix_lt hi2 hj2
    rw [hm] at hix
    have egd:=get_gd (W:=(dvV (U1+U2) (V1+V2) (mTop U1 V1 U2 V2 a b))) (o:=(mTop U1 V1 U2 V2 a b)) (m:=m+j)
    have hdv:(dvV (U1+U2) (V1+V2) (mTop U1 V1 U2 V2 a b)) (m+j)=(mTop U1 V1 U2 V2 a b).getD (m+j) 0/((((chs (U1+U2) i:Nat):Int):Rat)*(((chs (V1+V2) j:Nat):Int):Rat)):=by rw [dvV,←hm,ix_div hj2,ix_mod hj2]
    have esd:=set_gd (W:=(dvV (U1+U2) (V1+V2) (mTop U1 V1 U2 V2 a b))) (o:=(mTop U1 V1 U2 V2 a b)) (m:=m+j) (by omega) hdv.symm
    have hgl:(gL (m+j) (dvV (U1+U2) (V1+V2) (mTop U1 V1 U2 V2 a b))++(mTop U1 V1 U2 V2 a b).drop (m+j)).length=((U1+U2+1)*(V1+V2+1)):=by rw [List.length_append,gL_len,List.length_drop];omega
    have hr1:=chsR_rl i hu
    have hr2:=chsR_rl j hv
    have hr3:=getD_rl (by omega) hrI (m+j)
    have hr4:=rl_mul ((((chs (U1+U2) i:Nat):Int):Rat)) ((((chs (V1+V2) j:Nat):Int):Rat))
    refine zg15 ?_
    refine st_pure rfl (.bin rfl rfl (add1N (by omega))) ?_
    refine st_pure rfl (.bin rfl rfl (mulE hm (by omega))) ?_
    refine zg1 ?_
    refine st_pure rfl (.bin rfl rfl (add64N (by omega))) ?_
    refine zg3 ?_
    refine wl_regF 24 [22] (by decide +kernel) ?_
    refine zg8 ?_
    try simp only [t1,dfq,Nat.zero_add,egd]
    refine zg4 ?_
    try simp only [t1,dfi,Nat.zero_add,egu]
    refine cp am1 (c_RInt ((chs (U1+U2) i:Nat):Int) (by omega) (by omega)) ?_
    refine zg4 ?_
    try simp only [t1,dfi,Nat.zero_add,egv]
    refine cp am1 (c_RInt ((chs (V1+V2) j:Nat):Int) (by omega) (by omega)) ?_
    refine cp am2 (c_RMul ((((chs (U1+U2) i:Nat):Int):Rat)) ((((chs (V1+V2) j:Nat):Int):Rat)) (by omega)) ?_
    refine cp am2 (c_RQuo ((mTop U1 V1 U2 V2 a b).getD (m+j) 0) ((((chs (U1+U2) i:Nat):Int):Rat)*(((chs (V1+V2) j:Nat):Int):Rat)) (by omega)) ?_
    refine zg13 ?_
    exact nx1 (j+1) (by omega)
   ·obtain rfl:j=V1+V2+1:=by omega
    refine zg11 ?_
    exact nx2 (i+1) (m+(V1+V2+1)) ⟨by omega,by rw [Nat.succ_mul];omega⟩ (he:=Weak.of_eq (put_id' (put_id' (put_id' (put_id' (put_id' (put_id' (put_id' (put_id' (mk_id' cl1) cl1) cl1) cl1) cl1) cl1) cl1) cl1) cl1))
  ·obtain rfl:i=U1+U2+1:=by omega
   have hE:(gL m (dvV (U1+U2) (V1+V2) (mTop U1 V1 U2 V2 a b))++(mTop U1 V1 U2 V2 a b).drop m)=tmL U1 V1 U2 V2 a b:=by rw [←hm,List.drop_of_length_le (by omega),List.append_nil];rfl
   refine zg13 ?_
   rw [←hE]
   exact retCT [55] rfl rfl rfl rfl rfl T64 (.agg (.cons (.pure rfl) (.cons (.pure rfl) (.cons (imm_refm ratE rfl rfl (by rw [List.length_append,gL_len,List.length_drop];omega)) .nil)))) rfl (.pure rfl)
end Go.Proofs.YtfpdccbgngdhkaaGreat
namespace Go.Lg
theorem clo_kill (b:Nat) (f:FuncId) (caps:List LV) (h:pures caps=true):(LV.clo f caps).kill b=.clo f caps:=LV.kill_pure b _ (by simpa [LV.pure] using h)
end Go.Lg
namespace Go.Proofs.YtfpdccbgngdhkaaGreat
open Go.Lg
def rwL (V:Nat) (c:List Rat) (i:Nat):List Rat:=(c.take ((i+1)*(V+1))).drop (i*(V+1))
theorem rw_le {U V i:Nat} {c:List Rat} (hc:c.length=(U+1)*(V+1)) (hi:i≤U):i*(V+1)+(V+1)≤c.length:=by
 rw [hc,←Nat.succ_mul];exact Nat.mul_le_mul_right _ (by omega)
theorem rwL_len {U V i:Nat} {c:List Rat} (hc:c.length=(U+1)*(V+1)) (hi:i≤U):(rwL V c i).length=V+1:=by
 have:=rw_le hc hi
 unfold rwL
 rw [List.length_drop,List.length_take,Nat.succ_mul];omega
theorem rwL_mem {V i:Nat} {c:List Rat} {x:Rat} (h:x∈rwL V c i):x∈c:=List.mem_of_mem_take (List.mem_of_mem_drop h)
theorem rwL_get {U V i j:Nat} {c:List Rat} (hc:c.length=(U+1)*(V+1)) (hi:i≤U) (hj:j≤V):(rwL V c i).getD j 0=c.getD (i*(V+1)+j) 0:=by
 have:=rw_le hc hi
 unfold rwL
 rw [getD_dropR,List.getD_eq_getElem?_getD,List.getElem?_take_of_lt (by rw [Nat.succ_mul];omega),←List.getD_eq_getElem?_getD]
def rsL (g:List Rat→List Rat) (V:Nat) (c:List Rat):Nat→List Rat
 | 0=>[]
 | i+1=>rsL g V c i++g (rwL V c i)
theorem rsL_len {g:List Rat→List Rat} {V W U:Nat} {c:List Rat} (hg:∀ i,i≤U→(g (rwL V c i)).length=W+1):∀ n,n≤U+1→(rsL g V c n).length=n*(W+1)
 | 0,_=>by rw [Nat.zero_mul];rfl
 | n+1,h=>by rw [rsL,List.length_append,rsL_len hg n (by omega),hg n (by omega),Nat.succ_mul]
theorem swL_len (U V:Nat) (c:List Rat):(swL U V c).length=(V+1)*(U+1):=gL_len _ _
theorem sw_rl {U V R:Nat} {c:List Rat} (hR:1≤R) (h:∀ x∈c,rl x≤R):∀ x∈swL U V c,rl x≤R:=by
 intro x hx
 obtain⟨i,_,rfl⟩:=List.mem_map.1 hx
 exact getD_rl hR h _
def colT (U V:Nat) (c:List Rat) (v:Rat):List Rat:=rsL (fun p=>[evP p v]) V c (U+1)
def rowT (U V:Nat) (c:List Rat) (u:Rat):List Rat:=rsL (fun p=>[evP p u]) U (swL U V c) (V+1)
theorem colT_len (U V:Nat) (c:List Rat) (v:Rat):(colT U V c v).length=U+1:=by
 have:=rsL_len (g:=fun p=>[evP p v]) (V:=V) (W:=0) (U:=U) (c:=c) (fun i _=>rfl) (U+1) (Nat.le_refl _)
 rw [colT,this];omega
theorem rowT_len (U V:Nat) (c:List Rat) (u:Rat):(rowT U V c u).length=V+1:=by
 have:=rsL_len (g:=fun p=>[evP p u]) (V:=U) (W:=0) (U:=V) (c:=swL U V c) (fun i _=>rfl) (V+1) (Nat.le_refl _)
 rw [rowT,this];omega
def evT (U V:Nat) (c:List Rat) (u v:Rat):Rat:=evP (rowT U V c u) v
def dfU (U V:Nat) (c:List Rat):List Rat:=swL V (U-1) (rsL difP U (swL U V c) (V+1))
def dfV (U V:Nat) (c:List Rat):List Rat:=rsL difP V c (U+1)
theorem dif_W {p:List Rat} {U:Nat} (h:p.length=U+1):(difP p).length=U-1+1:=by rw [difP_len];split<;>omega
theorem rs_rl {g:List Rat→List Rat} {V U R:Nat} {c:List Rat} (h:∀ i,i≤U→∀ x∈g (rwL V c i),rl x≤R):∀ {n:Nat},n≤U+1→∀ x∈rsL g V c n,rl x≤R
 | 0,_,x,hx=>by cases hx
 | n+1,hn,x,hx=>by
  rcases List.mem_append.1 (show x∈rsL g V c n++g (rwL V c n) from hx) with h1 | h1
  ·exact rs_rl h (by omega) x h1
  ·exact h n (by omega) x h1
open H0 in
theorem c_row7 (U V:Nat) (c:List Rat) (hc:c.length=(U+1)*(V+1)) (hl:c.length≤1048576) (i:Nat) (hi:i≤U):CallP Tryz.prog 213 [.agg [nI64 U,nI64 V,.list 3 (c.map ratL)],nI64 i] (.list 3 ((rwL V c i).map ratL)):=by
 have hU:U+1≤c.length:=by rw [hc];exact Nat.le_mul_of_pos_right _ (Nat.succ_pos V)
 have hV:V+1≤c.length:=by rw [hc];exact Nat.le_mul_of_pos_left _ (Nat.succ_pos U)
 have hnp:=net_pureN U V c
 have hri:=rw_le hc hi
 have hrs:(i+1)*(V+1)=i*(V+1)+(V+1):=Nat.succ_mul i (V+1)
 refine fnP Tryz.func213 ?_
 refine zg13 ?_
 refine st_pure rfl (.bin rfl rfl (add1N (by omega))) ?_
 refine st_pure rfl (.bin rfl rfl (mulE rfl (by omega))) ?_
 refine zg1 ?_
 refine st_pure rfl (.bin rfl rfl (add1N (by omega))) ?_
 refine zg2 ?_
 refine st_pure rfl (.bin rfl rfl (add1N (by omega))) ?_
 refine st_pure rfl (.bin rfl rfl (mulE rfl (by omega))) ?_
 refine st_pure rfl (.sliceLb (a:=_) (h:=_) ratE rfl Tryz.underlying36 T29 rfl rfl (by omega) (by omega)) ?_
 refine zg4 ?_
 exact ret1 rfl (by first | exact .pure rfl | exact .pure (limL_pure _) | exact .pure (magL_pure _) | exact .pure (ratE.pure _) | exact .pure (pure_lst u32E _ _) | exact .pure (pure_lst ratE _ _))
namespace H_c_rows
theorem zSm {p q:Prop} (k:q) (e:p=q:=by simp only [e1,e2,e3,e4,p1,p2,p3,q1,q2,q3,l1,t0,t1,r1,r2,r3,r4,Nat.zero_add,Nat.reduceMul,Nat.reduceAdd,b1,b2,b3,b4,b5,b6,i1,i2,i3,i4,i5,i6,Nat.reduceBEq,frz_nil,dfq,clo_kill _ _ _ hcp,ers,etk,elen,Nat.add_sub_cancel,List.length_map,kills_map ratE,ratL_kill,spL_kill,LV.kill,kills];exact rfl):p:=e.mpr k
theorem zSm1 {p q:Prop} (k:q) (e:p=q:=by simp only [e1,e2,e3,e4,p1,p2,p3,q1,q2,q3,l1,t0,t1,r1,r2,r3,r4,Nat.zero_add,Nat.reduceMul,Nat.reduceAdd,b1,b2,b3,b4,b5,b6,i1,i2,i3,i4,i5,i6,Nat.reduceBEq,frz_nil,dfq,clo_kill _ _ _ hcp,ers,etk,elen,Nat.add_sub_cancel,List.length_map,kills_map ratE,ratL_kill,spL_kill,LV.kill,kills,elen];exact rfl):p:=e.mpr k
theorem nf1 {p:Prop} (h:p:=by first | (refine zSm1 ?_;exact rfl) | exact rfl):p:=h
end H_c_rows
open H_c_rows in
theorem c_rows (U V:Nat) (c:List Rat) (hc:c.length=(U+1)*(V+1)) (hl:c.length≤1048576) (f:Nat) (caps:List LV) (hcp:pures caps=true) (hcs:∀ x∈caps,x.csize=1∧x.isAgg=false) (g:List Rat→List Rat) (W:Nat) (hf:∀ i,i≤U→CallP Tryz.prog f ([.list 3 ((rwL V c i).map ratL)]++caps) (.list 3 ((g (rwL V c i)).map ratL))) (hg:∀ i,i≤U→(g (rwL V c i)).length=W+1) (hW:(U+1)*(W+1)≤1048576):CallP Tryz.prog 145 [.agg [nI64 U,nI64 V,.list 3 (c.map ratL)],.clo f caps] (.agg [nI64 U,nI64 W,.list 3 ((rsL g V c (U+1)).map ratL)]):=by
 have hU:U+1≤c.length:=by rw [hc];exact Nat.le_mul_of_pos_right _ (Nat.succ_pos V)
 have hV:V+1≤c.length:=by rw [hc];exact Nat.le_mul_of_pos_left _ (Nat.succ_pos U)
 have hnp:=net_pureN U V c
 have hW2:W+1≤(U+1)*(W+1):=Nat.le_mul_of_pos_left _ (Nat.succ_pos U)
 refine fnP Tryz.func145 (ht:=(fun g=>LV.ren_pure g _ (net_pureN _ _ _))) ?_
 have ers:True:=trivial
 have etk:True:=trivial
 have elen:True:=trivial
 refine zg19 ?_
 refine cp am1 (c_shaped U V c hc hl) ?_
 refine zg11 ?_
 refine st_pure rfl (.bin rfl rfl (add1N (by omega))) ?_
 refine zg4 ?_
 refine wl_weak ((Weak.cell 5 rfl (fun Z μ w cs h=>rep_net 35 3 _ _ Z μ w cs h)).trans (Weak.newB _ 35 3 rfl)) ?_
 refine lp3 (fun(i m v:Nat) L=>(((((((St.mk L.slot (hp [(2,⟨3,[.agg [nI64 U,nI64 V,.list 3 (c.map ratL)]],true⟩),(4,⟨3,[.agg [.v (.int .i64 0),.v (.int .i64 0),.v (.slice none 0 0)]],true⟩),(5,⟨3,[.agg [nI64 U,nI64 v,.ref 35 3 0 m]],true⟩),(35,⟨3,(rsL g V c i).map ratL,true⟩)])).put (some 1) (.clo f caps)).put (some 2) (.eptr 2 3 0 0)).put (some 4) (.eptr 4 3 0 0)).put (some 5) (.eptr 5 3 0 0)).put (some 19) (nI64 (U+1))).put (some 20) (nI64 i))) (fun i m v=>i≤U+1∧i*(W+1)=m∧(i=0∨v=W)) (fun i m v=>U+1-i) 0 0 0 ⟨Nat.zero_le _,Nat.zero_mul _,.inl rfl⟩ ?_
 rintro i m v L1 ⟨hi,hm,hv⟩
 refine zg6 ?_
 refine wl_if rfl (fun h21r h21=>?_) (fun h21r h21=>?_)
 ·have hi2:i≤U:=by omega
  have hfi:=hf i hi2
  have elen:=hg i hi2
  have hrl:=rsL_len hg i hi
  rw [hm] at hrl
  have hmu:m+(W+1)≤(U+1)*(W+1):=by rw [←hm,←Nat.succ_mul];exact Nat.mul_le_mul_right _ (by omega)
  have ers:(rsL g V c i).map ratL++(g (rwL V c i)).map ratL=(rsL g V c (i+1)).map ratL:=by rw [rsL,List.map_append]
  have etk:((rsL g V c i).map ratL).take m=(rsL g V c i).map ratL:=List.take_of_length_le (by rw [List.length_map];omega)
  refine zg15 ?_
  refine cp am2 (c_row7 U V c hc hl i hi2) ?_
  refine st_opc [] rfl rfl (.clo (f:=f) (cap:=caps) (args:=[.list 3 ((rwL V c i).map ratL)]) rfl (.cons im0 .nil) ⟨hcp,hcs⟩ hfi.1 (by decide) (fun _ h=>by cases h)) (hfi.2 _) ?_
  refine zg7 ?_
  refine st_pure rfl (.bin rfl rfl (sub1N (by omega) (by omega))) ?_
  refine zg1 ?_
  refine st_store rfl (.store rfl rfl rfl rfl rfl rfl rfl T3 ne0) ?_
  refine st_end nf1 ?_
  refine zg5 ?_
  refine st_store rfl (.app (news:=(g (rwL V c i)).map ratL) rfl rfl rfl rfl rfl (by rw [List.length_map];omega) (.inl rfl) (by decide) Tryz.underlying36 Tryz.underlying159 Z29a T29 rfl B29 (.inr (.inl rfl)) (by rw [List.length_map,elen];omega) (by rw [List.length_map,elen];omega) (by decide)) ?_
  refine zg10 ?_
  exact nx3 (i+1) (m+(W+1)) W ⟨by omega,by rw [Nat.succ_mul];omega,.inr rfl⟩
 ·obtain rfl:i=U+1:=by omega
  obtain rfl:v=W:=by omega
  have hrl:=rsL_len hg (U+1) (Nat.le_refl _)
  refine zg12 ?_
  exact retC [35] rfl rfl rfl rfl rfl T64 (.agg (.cons (.pure rfl) (.cons (.pure rfl) (.cons (imm_refm ratE rfl rfl (by omega)) .nil))))
open H0 in
theorem c_Col1 (p:List Rat) (v:Rat) (h:HS p v) (hp0:0<p.length):CallP Tryz.prog 258 [.list 3 (p.map ratL),.boxp (ratL v)] (.list 3 ([evP p v].map ratL)):=by
 refine fnP Tryz.func258 ?_
 refine zg9 ?_
 refine cp am2 (c_BEval p v h hp0) ?_
 refine zg5 ?_
 exact ret1f [7] rfl rfl (imm_refm ratE rfl rfl rfl)
open H0 in
theorem c_Column (U V:Nat) (c:List Rat) (hc:c.length=(U+1)*(V+1)) (hl:c.length≤1048576) (v:Rat) (hS:∀ i,i≤U→HS (rwL V c i) v):CallP Tryz.prog 199 [.agg [nI64 U,nI64 V,.list 3 (c.map ratL)],ratL v] (.list 3 ((colT U V c v).map ratL)):=by
 have hU:U+1≤c.length:=by rw [hc];exact Nat.le_mul_of_pos_right _ (Nat.succ_pos V)
 have hV:V+1≤c.length:=by rw [hc];exact Nat.le_mul_of_pos_left _ (Nat.succ_pos U)
 have hnp:=net_pureN U V c
 have hbp:pures [LV.boxp (ratL v)]=true:=by simp [pures,LV.pure,ratE.pure]
 refine fnP Tryz.func199 ?_
 refine zg10 ?_
 refine st_opc [3] rfl rfl (.mk (caps:=[.boxp (ratL v)]) (.cons (.eptr rfl rfl rfl (ratE.csize _) (ratL_all _) (ratE.pure _) rfl) .nil) (fun x hx=>by rw [List.mem_singleton.1 hx];exact⟨rfl,rfl⟩)) rfl ?_
 refine st_callP rfl (.cons (.pure hnp) (.cons (.pure (show LV.pure (.clo 258 [.boxp (ratL v)])=true by simpa [LV.pure] using hbp)) .nil)) (c_rows U V c hc hl 258 [.boxp (ratL v)] hbp (fun x hx=>by rw [List.mem_singleton.1 hx];exact⟨rfl,rfl⟩) (fun p=>[evP p v]) 0 (fun i hi=>c_Col1 _ v (hS i hi) (by rw [rwL_len hc hi];exact Nat.succ_pos V)) (fun i hi=>rfl) (by omega)) ?_
 refine st_pure rfl (.field rfl SL64 rfl (pure_lst ratE _ _)) ?_
 refine zg4 ?_
 exact ret1 rfl (by first | exact .pure rfl | exact .pure (limL_pure _) | exact .pure (magL_pure _) | exact .pure (ratE.pure _) | exact .pure (pure_lst u32E _ _) | exact .pure (pure_lst ratE _ _))
open H0 in
theorem c_TRow (U V:Nat) (c:List Rat) (hc:c.length=(U+1)*(V+1)) (hl:c.length≤1048576) (hcR:∀ x∈c,rl x≤274877906944) (u:Rat) (hS:∀ j,j≤V→HS (rwL U (swL U V c) j) u):CallP Tryz.prog 132 [.agg [nI64 U,nI64 V,.list 3 (c.map ratL)],ratL u] (.list 3 ((rowT U V c u).map ratL)):=by
 have hU:U+1≤c.length:=by rw [hc];exact Nat.le_mul_of_pos_right _ (Nat.succ_pos V)
 have hV:V+1≤c.length:=by rw [hc];exact Nat.le_mul_of_pos_left _ (Nat.succ_pos U)
 have hnp:=net_pureN U V c
 have hsl:=swL_len U V c
 have hsw:(swL U V c).length≤1048576:=by rw [hsl,Nat.mul_comm,←hc];exact hl
 have hnp2:=net_pureN V U (swL U V c)
 refine fnP Tryz.func132 ?_
 refine zg8 ?_
 refine wl_regD 5 (by decide +kernel) ?_
 refine zg1 ?_
 refine cp am1 (c_Swap U V c hc hl hcR) ?_
 refine zg1 ?_
 refine cp am2 (c_Column V U (swL U V c) hsl hsw u hS) ?_
 refine zg4 ?_
 exact ret1 rfl (by first | exact .pure rfl | exact .pure (limL_pure _) | exact .pure (magL_pure _) | exact .pure (ratE.pure _) | exact .pure (pure_lst u32E _ _) | exact .pure (pure_lst ratE _ _))
open H0 in
theorem c_TEval (U V:Nat) (c:List Rat) (hc:c.length=(U+1)*(V+1)) (hl:c.length≤1048576) (hcR:∀ x∈c,rl x≤274877906944) (u v:Rat) (hS:∀ j,j≤V→HS (rwL U (swL U V c) j) u) (hS2:HS (rowT U V c u) v):CallP Tryz.prog 66 [.agg [nI64 U,nI64 V,.list 3 (c.map ratL)],ratL u,ratL v] (ratL (evT U V c u v)):=by
 have hU:U+1≤c.length:=by rw [hc];exact Nat.le_mul_of_pos_right _ (Nat.succ_pos V)
 have hV:V+1≤c.length:=by rw [hc];exact Nat.le_mul_of_pos_left _ (Nat.succ_pos U)
 have hnp:=net_pureN U V c
 refine fnP Tryz.func66 ?_
 refine zg9 ?_
 refine wl_regD 5 (by decide +kernel) ?_
 refine zg2 ?_
 refine cp am2 (c_TRow U V c hc hl hcR u hS) ?_
 refine zg1 ?_
 refine cp am2 (c_BEval (rowT U V c u) v hS2 (by rw [rowT_len];exact Nat.succ_pos V)) ?_
 refine zg4 ?_
 exact retC [] rfl rfl rfl (ratE.csize _) (ratL_all _) T29 (.pure (ratE.pure _))
open H0 in
theorem c_columns (U V:Nat) (c:List Rat) (hc:c.length=(U+1)*(V+1)) (hl:c.length≤1048576) (hcR:∀ x∈c,rl x≤274877906944) (f:Nat) (caps:List LV) (hcp:pures caps=true) (hcs:∀ x∈caps,x.csize=1∧x.isAgg=false) (g:List Rat→List Rat) (W:Nat) (hf:∀ j,j≤V→CallP Tryz.prog f ([.list 3 ((rwL U (swL U V c) j).map ratL)]++caps) (.list 3 ((g (rwL U (swL U V c) j)).map ratL))) (hg:∀ j,j≤V→(g (rwL U (swL U V c) j)).length=W+1) (hW:(V+1)*(W+1)≤1048576) (hgR:∀ x∈(rsL g U (swL U V c) (V+1)),rl x≤274877906944):CallP Tryz.prog 143 [.agg [nI64 U,nI64 V,.list 3 (c.map ratL)],.clo f caps] (.agg [nI64 W,nI64 V,.list 3 ((swL V W (rsL g U (swL U V c) (V+1))).map ratL)]):=by
 have hU:U+1≤c.length:=by rw [hc];exact Nat.le_mul_of_pos_right _ (Nat.succ_pos V)
 have hV:V+1≤c.length:=by rw [hc];exact Nat.le_mul_of_pos_left _ (Nat.succ_pos U)
 have hnp:=net_pureN U V c
 have hsl:=swL_len U V c
 have hsw:(swL U V c).length≤1048576:=by rw [hsl,Nat.mul_comm,←hc];exact hl
 have hnp2:=net_pureN V U (swL U V c)
 have hrl:=rsL_len hg (V+1) (Nat.le_refl _)
 have hnp3:=net_pureN V W (rsL g U (swL U V c) (V+1))
 have hcl:LV.pure (.clo f caps)=true:=by simpa [LV.pure] using hcp
 refine fnP Tryz.func143 (ht:=(fun g=>LV.ren_pure g _ (net_pureN _ _ _))) ?_
 refine zg9 ?_
 refine cp am1 (c_Swap U V c hc hl hcR) ?_
 refine zg1 ?_
 refine cp am2 (c_rows V U (swL U V c) hsl hsw f caps hcp hcs g W hf hg hW) ?_
 refine cp am1 (c_Swap V W (rsL g U (swL U V c) (V+1)) hrl (by omega) hgR) ?_
 refine zg4 ?_
 exact retC [] rfl rfl rfl rfl rfl T64 (.pure (net_pureN _ _ _))
open H0 in
theorem c_DiffU (U V:Nat) (c:List Rat) (hc:c.length=(U+1)*(V+1)) (hl:c.length≤1048576) (hcR:∀ x∈c,rl x≤1073741824) (hU1:U≤900):CallP Tryz.prog 72 [.agg [nI64 U,nI64 V,.list 3 (c.map ratL)]] (.agg [nI64 (U-1),nI64 V,.list 3 ((dfU U V c).map ratL)]):=by
 have hU:U+1≤c.length:=by rw [hc];exact Nat.le_mul_of_pos_right _ (Nat.succ_pos V)
 have hV:V+1≤c.length:=by rw [hc];exact Nat.le_mul_of_pos_left _ (Nat.succ_pos U)
 have hnp:=net_pureN U V c
 have hsl:=swL_len U V c
 have hsw:(swL U V c).length≤1048576:=by rw [hsl,Nat.mul_comm,←hc];exact hl
 have hnp2:=net_pureN (U-1) V (dfU U V c)
 have hsR:=sw_rl (U:=U) (V:=V) (R:=1073741824) (by decide) hcR
 refine fnP Tryz.func72 (ht:=(fun g=>LV.ren_pure g _ (net_pureN _ _ _))) ?_
 refine zg9 ?_
 refine cp am2 (c_columns U V c hc hl (fun x hx=>Nat.le_trans (hcR x hx) (by decide)) 144 [] rfl (fun x hx=>by cases hx) difP (U-1) (fun j hj=>c_Diff _ (by rw [rwL_len hsl hj];omega) (fun x hx=>hsR x (rwL_mem hx))) (fun j hj=>dif_W (rwL_len hsl hj)) (by have:=Nat.mul_le_mul_left (V+1) (show U-1+1≤U+1 by omega);omega) (rs_rl (U:=V) (fun j hj x hx=>Nat.le_trans (difP_rl (R:=1073741824) (by decide) (by rw [rwL_len hsl hj];omega) (fun x hx=>hsR x (rwL_mem hx)) x hx) (by decide)) (Nat.le_refl _))) ?_
 refine zg4 ?_
 exact retC [] rfl rfl rfl rfl rfl T64 (.pure (net_pureN _ _ _))
theorem sw_mem {U V:Nat} {c:List Rat} (hc:c.length=(U+1)*(V+1)) {x:Rat} (hx:x∈swL U V c):x∈c:=by
 obtain⟨i,hi,rfl⟩:=List.mem_map.1 hx
 have hi:=List.mem_range.1 hi
 have h1:i/(U+1)<V+1:=Nat.div_lt_of_lt_mul (by rw [Nat.mul_comm];exact hi)
 have h2:=Nat.mod_lt i (show U+1 > 0 by omega)
 exact getD_mem (by rw [hc];exact ix_lt (by omega) (by omega))
theorem rs_mem {g:List Rat→List Rat} {V U:Nat} {c:List Rat} {Q:Rat→Prop} (h:∀ i,i≤U→∀ x∈g (rwL V c i),Q x):∀ {n:Nat},n≤U+1→∀ x∈rsL g V c n,Q x
 | 0,_,x,hx=>by cases hx
 | n+1,hn,x,hx=>by
  rcases List.mem_append.1 (show x∈rsL g V c n++g (rwL V c n) from hx) with h1 | h1
  ·exact rs_mem h (by omega) x h1
  ·exact h n (by omega) x h1
theorem rs_get {g:List Rat→List Rat} {V W U:Nat} {c:List Rat} (hg:∀ i,i≤U→(g (rwL V c i)).length=W+1) {i j:Nat} (hj:j≤W):∀ {n:Nat},n≤U+1→i<n→(rsL g V c n).getD (i*(W+1)+j) 0=(g (rwL V c i)).getD j 0
 | 0,_,hi=>by omega
 | n+1,hn,hi=>by
  have hl:=rsL_len hg n (by omega)
  rw [rsL]
  rcases Nat.lt_or_ge i n with h | h
  ·rw [getD_app1 _ _ _ (by rw [hl];have:=Nat.mul_le_mul_right (W+1) (show i+1≤n from h);rw [Nat.succ_mul] at this;omega)]
   exact rs_get hg hj (by omega) h
  ·obtain rfl:i=n:=by omega
   rw [List.getD_eq_getElem?_getD,List.getElem?_append_right (by rw [hl];omega),hl,Nat.add_sub_cancel_left,←List.getD_eq_getElem?_getD]
theorem sw_get {U V:Nat} {c:List Rat} {i j:Nat} (hi:i≤U) (hj:j≤V):(swL U V c).getD (j*(U+1)+i) 0=c.getD (i*(V+1)+j) 0:=by
 rw [swL,gL_get (ix_lt hj hi),swV,ix_div hi,ix_mod hi]
section
variable {m M a b:Rat} {U V:Nat} {c:List Rat} (hc:c.length=(U+1)*(V+1)) (h0:0≤a) (hab:a≤b) (hb:b≤1) (h:∀ x∈c,m≤x∧x≤M)
end
theorem fE_swap (a b u v:Rat) (m:Nat):∀ (n:Nat) (f:Nat→Nat→Rat),fE a b n (fun i=>fE u v m (f i))=fE u v m (fun j=>fE a b n (fun i=>f i j))
 | 0,f=>rfl
 | n+1,f=>by
  rw [fE_step,fE_swap a b u v m n f,fE_swap a b u v m n (fun i=>f (i+1)),←fE_lin]
  exact fE_congr _ _ _ _ _ fun j _=>(fE_step a b n fun i=>f i j).symm
theorem evT_swap {U V:Nat} {c:List Rat} (hc:c.length=(U+1)*(V+1)) (u v:Rat):evP (colT U V c v) u=evT U V c u v:=by
 have h1:∀ i,i≤U→(colT U V c v).getD i 0=evP (rwL V c i) v:=fun i hi=>by
  have:=rs_get (g:=fun p=>[evP p v]) (V:=V) (W:=0) (U:=U) (c:=c) (fun i hi=>rfl) (i:=i) (j:=0) (Nat.le_refl _) (n:=U+1) (Nat.le_refl _) (by omega)
  rw [show i*(0+1)+0=i by omega] at this
  rw [colT,this];rfl
 have h2:∀ j,j≤V→(rowT U V c u).getD j 0=evP (rwL U (swL U V c) j) u:=fun j hj=>by
  have:=rs_get (g:=fun p=>[evP p u]) (V:=U) (W:=0) (U:=V) (c:=swL U V c) (fun i hi=>rfl) (i:=j) (j:=0) (Nat.le_refl _) (n:=V+1) (Nat.le_refl _) (by omega)
  rw [show j*(0+1)+0=j by omega] at this
  rw [rowT,this];rfl
 rw [evT,ev_fE (by rw [colT_len];omega),ev_fE (by rw [rowT_len];omega),colT_len,rowT_len,Nat.add_sub_cancel,Nat.add_sub_cancel]
 rw [fE_congr _ _ U _ (fun i=>fE (1-v) v V (fun j=>c.getD (i*(V+1)+j) 0)) fun i hi=>?_,fE_swap]
 ·refine fE_congr _ _ _ _ _ fun j hj=>?_
  rw [h2 j hj,ev_fE (by rw [rwL_len (swL_len U V c) hj];omega),rwL_len (swL_len U V c) hj,Nat.add_sub_cancel]
  refine fE_congr _ _ _ _ _ fun i hi=>?_
  rw [rwL_get (swL_len U V c) hj hi,sw_get hi hj]
 ·rw [h1 i hi,ev_fE (by rw [rwL_len hc hi];omega),rwL_len hc hi,Nat.add_sub_cancel]
  refine fE_congr _ _ _ _ _ fun j hj=>?_
  rw [rwL_get hc hi hj]
def plL (p:List Rat):LV:=.list 3 (p.map ratL)
theorem plE:EncOK plL 1 false:=⟨fun _=>rfl,fun _=>rfl,fun p=>pure_lst ratE 3 p⟩
theorem plZ:ZeroOK Tryz.prog 159 (plL []):=⟨Tryz.t159,_,by kernel_rfl,rfl,rfl,fun _ _ _=>repNil0 3⟩
instance:EC Tryz.prog 159 plL 1 false []:=⟨plE,plZ,T159⟩
def upR (V:Nat) (c:List Rat) (v U:Nat):List Rat:=rsL (fun p=>upP p v) V c (U+1)
def upN (U V:Nat) (c:List Rat) (u v:Nat):List Rat:=swL v u (rsL (fun p=>upP p u) U (swL U v (upR V c v U)) (v+1))
theorem upR_len {U V v:Nat} {c:List Rat} (hc:c.length=(U+1)*(V+1)) (hV:V≤v):(upR V c v U).length=(U+1)*(v+1) :=
 rsL_len (W:=v) (U:=U) (fun i hi=>upP_len (by rw [rwL_len hc hi];omega)) _ (Nat.le_refl _)
theorem upN_len (U V:Nat) (c:List Rat) (u v:Nat):(upN U V c u v).length=(u+1)*(v+1):=swL_len v u _
theorem upP_mem {p:List Rat} {n:Nat} (hl:p.length≤n+1) (h:upS p n):∀ x∈upP p n,rl x≤1073741824:=h.2 _ (by omega)
theorem rs_one (V:Nat) (c:List Rat):∀ n,rsL (fun p=>p) V c n=c.take (n*(V+1))
 | 0=>by simp [rsL]
 | n+1=>by
  rw [rsL,rs_one V c n,rwL,Nat.succ_mul]
  have h:=List.take_append_drop (n*(V+1)) (c.take (n*(V+1)+(V+1)))
  rw [List.take_take,Nat.min_eq_left (by omega)] at h
  exact h
theorem sw_sw {U V:Nat} {c:List Rat} (hc:c.length=(U+1)*(V+1)):swL V U (swL U V c)=c:=by
 refine ext0 (by rw [swL_len,hc]) fun k hk=>?_
 rw [swL_len] at hk
 have h1:k/(V+1)<U+1:=Nat.div_lt_of_lt_mul (by rw [Nat.mul_comm];exact hk)
 have h2:=Nat.mod_lt k (show V+1 > 0 by omega)
 have e:k=k/(V+1)*(V+1)+k % (V+1):=by rw [Nat.mul_comm];exact(Nat.div_add_mod k (V+1)).symm
 rw [e,sw_get (U:=V) (V:=U) (i:=k % (V+1)) (j:=k/(V+1)) (by omega) (by omega),sw_get (U:=U) (V:=V) (i:=k/(V+1)) (j:=k % (V+1)) (by omega) (by omega)]
theorem rs_congr {g h:List Rat→List Rat} {V U:Nat} {c:List Rat} (e:∀ i,i≤U→g (rwL V c i)=h (rwL V c i)):∀ {n},n≤U+1→rsL g V c n=rsL h V c n
 | 0,_=>rfl
 | n+1,hn=>by rw [rsL,rsL,rs_congr e (by omega),e n (by omega)]
theorem upN_self {U V:Nat} {c:List Rat} (hc:c.length=(U+1)*(V+1)):upN U V c U V=c:=by
 have h1:upR V c V U=c:=by
  rw [upR,rs_congr (h:=fun p=>p) (fun i hi=>upP_self (by rw [rwL_len hc hi];omega)) (Nat.le_refl _),rs_one,List.take_of_length_le (by omega)]
 rw [upN,h1,rs_congr (h:=fun p=>p) (fun i hi=>upP_self (by rw [rwL_len (swL_len U V c) hi];omega)) (Nat.le_refl _),rs_one,List.take_of_length_le (by rw [swL_len];omega),sw_sw hc]
open H0 in
theorem c_DiffV (U V:Nat) (c:List Rat) (hc:c.length=(U+1)*(V+1)) (hl:c.length≤1048576) (hcR:∀ x∈c,rl x≤1073741824) (hV1:V≤900):CallP Tryz.prog 73 [.agg [nI64 U,nI64 V,.list 3 (c.map ratL)]] (.agg [nI64 U,nI64 (V-1),.list 3 ((dfV U V c).map ratL)]):=by
 have hU:U+1≤c.length:=by rw [hc];exact Nat.le_mul_of_pos_right _ (Nat.succ_pos V)
 have hV:V+1≤c.length:=by rw [hc];exact Nat.le_mul_of_pos_left _ (Nat.succ_pos U)
 have hnp:=net_pureN U V c
 have hnp2:=net_pureN U (V-1) (dfV U V c)
 refine fnP Tryz.func73 (ht:=(fun g=>LV.ren_pure g _ (net_pureN _ _ _))) ?_
 refine zg9 ?_
 refine cp am2 (c_rows U V c hc hl 144 [] rfl (fun x hx=>by cases hx) difP (V-1) (fun i hi=>c_Diff _ (by rw [rwL_len hc hi];omega) (fun x hx=>hcR x (rwL_mem hx))) (fun i hi=>dif_W (rwL_len hc hi)) (by have:=Nat.mul_le_mul_left (U+1) (show V-1+1≤V+1 by omega);omega)) ?_
 refine zg4 ?_
 exact retC [] rfl rfl rfl rfl rfl T64 (.pure (net_pureN _ _ _))
open H0 in
theorem c_up11 (p:List Rat) (d:Nat) (hp0:0<p.length) (hd:d≤40) (hpn:p.length≤d+1) (hps:upS p d):CallP Tryz.prog 276 [.list 3 (p.map ratL),.boxp (nI64 d)] (.list 3 ((upP p d).map ratL)):=by
 refine fnP Tryz.func276 ?_
 refine zg9 ?_
 refine cp am2 (c_Elev p d hp0 hd hpn hps) ?_
 refine zg14 ?_
 exact ret1 rfl (by first | exact .pure rfl | exact .pure (limL_pure _) | exact .pure (magL_pure _) | exact .pure (ratE.pure _) | exact .pure (pure_lst u32E _ _) | exact .pure (pure_lst ratE _ _))
open H0 in
theorem c_up1 (d:Nat):CallP Tryz.prog 275 [nI64 d] (.clo 276 [.boxp (nI64 d)]):=by
 refine fnP Tryz.func275 (ht:=(fun g=>by simp [LV.ren,rens])) ?_
 refine zg8 ?_
 refine st_opc [1] rfl rfl (.mk (caps:=[.boxp (nI64 d)]) (.cons (.eptr rfl rfl rfl rfl (at_self (nI64 d) rfl) rfl rfl) .nil) (fun x hx=>by rw [List.mem_singleton.1 hx];exact⟨rfl,rfl⟩)) rfl ?_
 refine zg4 ?_
 exact ret1 rfl (.pure rfl)
namespace H_c_up7
theorem zSm {p q:Prop} (k:q) (e:p=q:=by simp only [e1,e2,e3,e4,p1,p2,p3,q1,q2,q3,l1,t0,t1,r1,r2,r3,r4,Nat.zero_add,Nat.reduceMul,Nat.reduceAdd,b1,b2,b3,b4,b5,b6,i1,i2,i3,i4,i5,i6,Nat.reduceBEq,frz_nil,dfq,kills_map ratE,ratL_kill,spL_kill,LV.kill,kills];exact rfl):p:=e.mpr k
end H_c_up7
open H_c_up7 in
theorem c_up7 (U V:Nat) (c:List Rat) (hc:c.length=(U+1)*(V+1)) (hl:c.length≤1048576) (hcR:∀ x∈c,rl x≤274877906944) (u v:Nat) (hUu:U≤u) (hVv:V≤v) (hu:u≤40) (hv:v≤40) (h1:∀ i,i≤U→upS (rwL V c i) v) (h2:∀ j,j≤v→upS (rwL U (swL U v (upR V c v U)) j) u):CallP Tryz.prog 264 [.agg [nI64 U,nI64 V,.list 3 (c.map ratL)],nI64 u,nI64 v] (.agg [nI64 u,nI64 v,.list 3 ((upN U V c u v).map ratL)]):=by
 have hU:U+1≤c.length:=by rw [hc];exact Nat.le_mul_of_pos_right _ (Nat.succ_pos V)
 have hV:V+1≤c.length:=by rw [hc];exact Nat.le_mul_of_pos_left _ (Nat.succ_pos U)
 have hnp:=net_pureN U V c
 have hl1:=upR_len hc hVv
 have hl1s:(upR V c v U).length≤1048576:=by rw [hl1];exact Nat.le_trans (Nat.mul_le_mul (show U+1≤41 by omega) (show v+1≤41 by omega)) (by decide)
 have hn1:=net_pureN U v (upR V c v U)
 have hR1:=c_rows U V c hc hl 276 [.boxp (nI64 v)] rfl (fun x hx=>by rw [List.mem_singleton.1 hx];exact⟨rfl,rfl⟩) (fun p=>upP p v) v (fun i hi=>c_up11 _ v (by rw [rwL_len hc hi];omega) hv (by rw [rwL_len hc hi];omega) (h1 i hi)) (fun i hi=>upP_len (by rw [rwL_len hc hi];omega)) (by rw [←hl1];exact hl1s)
 have hm1:∀ x∈(upR V c v U),rl x≤1073741824:=rs_mem (U:=U) (fun i hi=>upP_mem (by rw [rwL_len hc hi];omega) (h1 i hi)) (Nat.le_refl _)
 have hsl:=swL_len U v (upR V c v U)
 have hR2:=c_columns U v (upR V c v U) hl1 hl1s (fun x hx=>Nat.le_trans (hm1 x hx) (by decide)) 276 [.boxp (nI64 u)] rfl (fun x hx=>by rw [List.mem_singleton.1 hx];exact⟨rfl,rfl⟩) (fun p=>upP p u) u (fun j hj=>c_up11 _ u (by rw [rwL_len hsl hj];omega) hu (by rw [rwL_len hsl hj];omega) (h2 j hj)) (fun j hj=>upP_len (by rw [rwL_len hsl hj];omega)) (by exact Nat.le_trans (Nat.mul_le_mul (show v+1≤41 by omega) (show u+1≤41 by omega)) (by decide)) (rs_mem (U:=v) (fun j hj x hx=>Nat.le_trans (upP_mem (by rw [rwL_len hsl hj];omega) (h2 j hj) x hx) (by decide)) (Nat.le_refl _))
 refine fnP Tryz.func264 (ht:=(fun g=>LV.ren_pure g _ (net_pureN _ _ _))) ?_
 refine zg12 ?_
 refine wl_regD 9 (by decide +kernel) ?_
 refine zg3 ?_
 refine st_opc [] rfl rfl (.clo (f:=275) (cap:=[]) (args:=[nI64 v]) rfl (.cons im0 .nil) ⟨rfl,fun _ h=>by cases h⟩ (c_up1 v).1 (by decide) (fun _ h=>by cases h)) ((c_up1 v).2 _) ?_
 refine st_callP rfl (.cons (.pure hnp) (.cons (.pure rfl) .nil)) hR1 ?_
 refine zg2 ?_
 refine st_opc [] rfl rfl (.clo (f:=275) (cap:=[]) (args:=[nI64 u]) rfl (.cons im0 .nil) ⟨rfl,fun _ h=>by cases h⟩ (c_up1 u).1 (by decide) (fun _ h=>by cases h)) ((c_up1 u).2 _) ?_
 refine st_callP rfl (.cons (.pure hn1) (.cons (.pure rfl) .nil)) hR2 ?_
 refine zg4 ?_
 exact retC [] rfl rfl rfl rfl rfl T64 (.pure (net_pureN _ _ _))
theorem mx_u {a b u:Nat} (h1:a≤u) (h2:b≤u) (h:a=u∨b=u):(if ((b:Nat):Int) > ((a:Nat):Int) then((b:Nat):Int) else((a:Nat):Int))=((u:Nat):Int):=by split<;>omega
theorem mnE (a:Int):(if a<a then a else a)=a:=by split<;>rfl
structure upH (U V:Nat) (c:List Rat) (u v:Nat):Prop where
 hc:c.length=(U+1)*(V+1)
 hl:c.length≤1048576
 hR:∀ x∈c,rl x≤274877906944
 hU:U≤u
 hV:V≤v
 hu:u≤40
 hv:v≤40
 h1:∀ i,i≤U→upS (rwL V c i) v
 h2:∀ j,j≤v→upS (rwL U (swL U v (upR V c v U)) j) u
theorem upH.rl {U V u v:Nat} {c:List Rat} (h:upH U V c u v):∀ x∈upN U V c u v,Go.Lg.rl x≤1073741824 :=
 sw_rl (by decide) fun x hx=>rs_mem (U:=v) (V:=U) (c:=swL U v (upR V c v U)) (n:=v+1) (fun j hj y hy=>upP_mem (by rw [rwL_len (swL_len U v _) hj];have:=h.hU;omega) (h.h2 j hj) y hy) (Nat.le_refl _) x hx
theorem upH.g {U V u v:Nat} {c:List Rat} (h:upH U V c u v) (k:Nat):Go.Lg.rl ((upN U V c u v).getD k 0)≤1073741824:=getD_rl (by decide) h.rl k
theorem upH.n {U V u v:Nat} {c:List Rat} (h:upH U V c u v):(u+1)*(v+1)≤1681 :=
 Nat.le_trans (Nat.mul_le_mul (show u+1≤41 by have:=h.hu;omega) (show v+1≤41 by have:=h.hv;omega)) (by decide)
namespace H_c_both7
theorem zSm {p q:Prop} (k:q) (e:p=q:=by simp only [e1,e2,e3,e4,p1,p2,p3,q1,q2,q3,l1,t0,t1,r1,r2,r3,r4,Nat.zero_add,Nat.reduceMul,Nat.reduceAdd,b1,b2,b3,b4,b5,b6,i1,i2,i3,i4,i5,i6,Nat.reduceBEq,frz_nil,dfq,hmu,hmv,mnE,eg,take_gL,elp,elq,take_map_len,map_snoc,len_snoc,List.length_cons,List.length_nil,List.nil_append,List.map_nil,List.take_nil,List.append_nil,kills_map ratE,ratL_kill,spL_kill,LV.kill,kills];exact rfl):p:=e.mpr k
end H_c_both7
open H_c_both7 in
theorem c_both7 (f:Nat) (g:Rat→Rat→Rat) (U1 V1 U2 V2:Nat) (a b:List Rat) (u v:Nat) (ha:upH U1 V1 a u v) (hb:upH U2 V2 b u v) (hu:U1=u∨U2=u) (hv:V1=v∨V2=v) (hf:∀ i,CallP Tryz.prog f [ratL ((upN U1 V1 a u v).getD i 0),ratL ((upN U2 V2 b u v).getD i 0)] (ratL (g ((upN U1 V1 a u v).getD i 0) ((upN U2 V2 b u v).getD i 0)))):CallP Tryz.prog 210 [.agg [nI64 U1,nI64 V1,.list 3 (a.map ratL)],.agg [nI64 U2,nI64 V2,.list 3 (b.map ratL)],.clo f []] (.agg [nI64 u,nI64 v,.list 3 ((zipG g (upN U1 V1 a u v) (upN U2 V2 b u v)).map ratL)]):=by
 have hmu:=mx_u ha.hU hb.hU hu
 have hmv:=mx_u ha.hV hb.hV hv
 have elp:(upN U1 V1 a u v).length=(u+1)*(v+1):=upN_len _ _ _ _ _
 have elq:(upN U2 V2 b u v).length=(u+1)*(v+1):=upN_len _ _ _ _ _
 have hn:=ha.n
 have hn1:=net_pureN U1 V1 a
 have hn2:=net_pureN U2 V2 b
 have hn3:=net_pureN u v (upN U1 V1 a u v)
 have hn4:=net_pureN u v (upN U2 V2 b u v)
 refine fnP Tryz.func210 (ht:=(fun g=>LV.ren_pure g _ (net_pureN _ _ _))) ?_
 have eg:True:=trivial
 have elp:True:=trivial
 have elq:True:=trivial
 refine zg8 ?_
 refine wl_regD 12 (by decide +kernel) ?_
 refine zg15 ?_
 refine wl_regD 8 (by decide +kernel) ?_
 refine zg3 ?_
 refine cp am3 (c_up7 U1 V1 a ha.hc ha.hl ha.hR u v ha.hU ha.hV ha.hu ha.hv ha.h1 ha.h2) ?_
 refine zg3 ?_
 refine cp am3 (c_up7 U2 V2 b hb.hc hb.hl hb.hR u v hb.hU hb.hV hb.hu hb.hv hb.h1 hb.h2) ?_
 refine zg27 ?_
 refine wl_weak ((Weak.cell 9 rfl (fun Z μ w cs h=>rep_net 57 3 _ _ Z μ w cs h)).trans (Weak.newB _ 57 3 rfl)) ?_
 refine lp1 (fun(i:Nat) L=>((((((((St.mk L.slot (hp [(3,⟨3,[.agg [nI64 u,nI64 v,.list 3 ((upN U1 V1 a u v).map ratL)]],true⟩),(4,⟨3,[.agg [nI64 u,nI64 v,.list 3 ((upN U2 V2 b u v).map ratL)]],true⟩),(6,⟨3,[.agg [.v (.int .i64 0),.v (.int .i64 0),.v (.slice none 0 0)]],true⟩),(9,⟨3,[.agg [nI64 u,nI64 v,.ref 57 3 0 i]],true⟩),(57,⟨3,(gL i (fun k=>g ((upN U1 V1 a u v).getD k 0) ((upN U2 V2 b u v).getD k 0))).map ratL,true⟩)])).put (some 2) (.clo f [])).put (some 3) (.eptr 3 3 0 0)).put (some 4) (.eptr 4 3 0 0)).put (some 6) (.eptr 6 3 0 0)).put (some 9) (.eptr 9 3 0 0)).put (some 38) (nI64 ((u+1)*(v+1)))).put (some 39) (nI64 i))) (fun i=>i≤(u+1)*(v+1)) (fun i=>(u+1)*(v+1)-i) 0 (Nat.zero_le _) ?_
 rintro i L1 hi
 refine zg6 ?_
 refine wl_if rfl (fun h40r h40=>?_) (fun h40r h40=>?_)
 ·have hi2:i<(u+1)*(v+1):=by omega
  have hfi:=hf i
  have hgl:=gL_len i (fun k=>g ((upN U1 V1 a u v).getD k 0) ((upN U2 V2 b u v).getD k 0))
  have eg:gL (i+1) (fun k=>g ((upN U1 V1 a u v).getD k 0) ((upN U2 V2 b u v).getD k 0))=gL i (fun k=>g ((upN U1 V1 a u v).getD k 0) ((upN U2 V2 b u v).getD k 0))++[g ((upN U1 V1 a u v).getD i 0) ((upN U2 V2 b u v).getD i 0)]:=gL_succ _ _
  refine zg10 ?_
  refine wl_regD 15 (by decide +kernel) ?_
  refine zg13 ?_
  refine st_opc [] rfl rfl (.clo (f:=f) (cap:=[]) (args:=[ratL ((upN U1 V1 a u v).getD i 0),ratL ((upN U2 V2 b u v).getD i 0)]) rfl (.cons im0 (.cons im0 .nil)) ⟨rfl,fun _ h=>by cases h⟩ hfi.1 (by decide) (fun _ h=>by cases h)) (hfi.2 _) ?_
  refine zg1 ?_
  refine st_store rfl (.app (news:=[ratL (g ((upN U1 V1 a u v).getD i 0) ((upN U2 V2 b u v).getD i 0))]) rfl rfl rfl rfl rfl (by simp [gL_len]) (.inl rfl) (by decide) Tryz.underlying36 Tryz.underlying36 Z29a T29 rfl B29 (.inl ⟨56,0,_,rfl,by decide,rfl,rfl,by simp,rfl,by simp [pures,ratE.pure]⟩) (by simp;omega) (by simp;omega) (by decide)) ?_
  refine zg5 ?_
  refine wl_regW (Weak.kill _ 56) ?_
  refine st_pure rfl (.bin rfl rfl (add1N (by omega))) ?_
  refine zg3 ?_
  exact nx1 (i+1) (by omega)
 ·obtain rfl:i=(u+1)*(v+1):=by omega
  have hE:gL ((u+1)*(v+1)) (fun k=>g ((upN U1 V1 a u v).getD k 0) ((upN U2 V2 b u v).getD k 0))=(zipG g (upN U1 V1 a u v) (upN U2 V2 b u v)):=by rw [zipG,upN_len];rfl
  refine zg12 ?_
  rw [←hE]
  exact retC [57] rfl rfl rfl rfl rfl T64 (.agg (.cons (.pure rfl) (.cons (.pure rfl) (.cons (imm_refm ratE rfl rfl (by rw [gL_len])) .nil))))
open H0 in
theorem c_TSub (U1 V1 U2 V2:Nat) (a b:List Rat) (u v:Nat) (ha:upH U1 V1 a u v) (hb:upH U2 V2 b u v) (hu:U1=u∨U2=u) (hv:V1=v∨V2=v):CallP Tryz.prog 141 [.agg [nI64 U1,nI64 V1,.list 3 (a.map ratL)],.agg [nI64 U2,nI64 V2,.list 3 (b.map ratL)]] (.agg [nI64 u,nI64 v,.list 3 ((zipG (·-·) (upN U1 V1 a u v) (upN U2 V2 b u v)).map ratL)]):=by
 have hn1:=net_pureN U1 V1 a
 have hn2:=net_pureN U2 V2 b
 refine fnP Tryz.func141 (ht:=(fun g=>LV.ren_pure g _ (net_pureN _ _ _))) ?_
 refine zg11 ?_
 refine cp am3 (c_both7 82 (·-·) U1 V1 U2 V2 a b u v ha hb hu hv (fun i=>c_RSub _ _ (by have:=ha.g i;have:=hb.g i;omega))) ?_
 refine zg4 ?_
 exact retC [] rfl rfl rfl rfl rfl T64 (.pure (net_pureN _ _ _))
theorem sm_comm:∀ (n m:Nat) (f:Nat→Nat→Rat),sm n (fun i=>sm m (f i))=sm m (fun j=>sm n (fun i=>f i j))
 | 0,m,f=>(sm_zero m _ (fun _ _=>rfl)).symm
 | n+1,m,f=>by rw [sm,sm_comm n m f,←sm_add];rfl
def sx (U V:Nat) (c:List Rat) (i j:Nat):Rat:=cR U i*sq (rwL V c i) j
theorem wt_sx {U V i j:Nat} {c:List Rat} (hc:c.length=(U+1)*(V+1)) (hi:i≤U) (hj:j≤V):(wtL U V c).getD (i*(V+1)+j) 0=sx U V c i j:=by
 rw [wtL,gL_get (ix_lt hi hj),wtV,ix_div hj,ix_mod hj,sx,sq,rwL_len hc hi,Nat.add_sub_cancel,rwL_get hc hi hj,Rat.mul_assoc];rfl
theorem sx_gt {U V i j:Nat} {c:List Rat} (hc:c.length=(U+1)*(V+1)) (hi:i≤U) (hj:V<j):sx U V c i j=0:=by
 rw [sx,sq_gt (by rw [rwL_len hc hi];omega),Rat.mul_zero]
theorem ix_inj {W i j r s:Nat} (hj:j≤W) (hs:s≤W) (h:i*(W+1)+j=r*(W+1)+s):i=r∧j=s:=by
 have h1:=congrArg (·/(W+1)) h
 have h2:=congrArg (· % (W+1)) h
 simp only [ix_div hj,ix_div hs,ix_mod hj,ix_mod hs] at h1 h2
 exact⟨h1,h2⟩
section
variable {V1 V2 W U U2 r s:Nat} {x y o:List Rat} (i j k:Nat)
theorem mL_len:∀ l (o:List Rat),(mL V1 V2 W x y i j k l o).length=o.length
 | 0,o=>rfl
 | l+1,o=>by rw [mL,List.length_set,mL_len l o]
theorem mK_len:∀ k (o:List Rat),(mK V1 V2 W x y i j k o).length=o.length
 | 0,o=>rfl
 | k+1,o=>by rw [mK,mL_len,mK_len k o]
theorem mJ_len:∀ j (o:List Rat),(mJ V1 V2 W U2 x y i j o).length=o.length
 | 0,o=>rfl
 | j+1,o=>by rw [mJ,mK_len,mJ_len j o]
theorem mI_len:∀ i (o:List Rat),(mI V1 V2 W U2 x y i o).length=o.length
 | 0,o=>rfl
 | i+1,o=>by rw [mI,mJ_len,mI_len i o]
theorem mL_get (hik:i+k≤U) (ho:o.length=(U+1)*(W+1)):∀ l,j+l≤W+1→∀ r s,s≤W→(mL V1 V2 W x y i j k l o).getD (r*(W+1)+s) 0=o.getD (r*(W+1)+s) 0+(if i+k=r∧j≤s∧s<j+l then x.getD (i*(V1+1)+j) 0*y.getD (k*(V2+1)+(s-j)) 0 else 0)
 | 0,_,r,s,hs=>by rw [mL,if_neg (by omega),Rat.add_zero]
 | l+1,h,r,s,hs=>by
  have hix:=ix_lt (U:=U) (V:=W) (i:=i+k) (j:=j+l) (by omega) (by omega)
  have ih:=mL_get hik ho l (by omega)
  rw [mL,set_get0 _ _ _ _ (by rw [mL_len,ho];omega)]
  by_cases h1:(i+k)*(W+1)+j+l=r*(W+1)+s
  ·obtain⟨h2,h3⟩:=ix_inj (W:=W) (i:=i+k) (j:=j+l) (r:=r) (s:=s) (by omega) hs (by omega)
   rw [if_pos h1,h1,ih r s hs,if_neg (by omega),if_pos (by omega),show s-j=l by omega];grind
  ·rw [if_neg h1,ih r s hs]
   have h4:¬ (i+k=r∧j+l=s):=fun⟨e1,e2⟩=>h1 (by rw [←e1,←e2];omega)
   by_cases h2:i+k=r∧j≤s∧s<j+l
   ·rw [if_pos h2,if_pos (by omega)]
   ·rw [if_neg h2,if_neg (by omega)]
theorem mK_get (hs:s≤W) (hj:j+V2≤W) (ho:o.length=(U+1)*(W+1)):∀ k,i+k≤U+1→(mK V1 V2 W x y i j k o).getD (r*(W+1)+s) 0=o.getD (r*(W+1)+s) 0+sm k (fun k=>if i+k=r∧j≤s∧s<j+(V2+1) then x.getD (i*(V1+1)+j) 0*y.getD (k*(V2+1)+(s-j)) 0 else 0)
 | 0,_=>by rw [mK,sm,Rat.add_zero]
 | k+1,h=>by
  rw [mK,mL_get (U:=U) i j k (by omega) (by rw [mK_len];exact ho) _ (by omega) r s hs,mK_get hs hj ho k (by omega),Rat.add_assoc];rfl
theorem mJ_get (hs:s≤W) (hV:V1+V2≤W) (ho:o.length=(U+1)*(W+1)) (hi:i+U2≤U):∀ j,j≤V1+1→(mJ V1 V2 W U2 x y i j o).getD (r*(W+1)+s) 0=o.getD (r*(W+1)+s) 0+sm j (fun j=>sm (U2+1) fun k=>if i+k=r∧j≤s∧s<j+(V2+1) then x.getD (i*(V1+1)+j) 0*y.getD (k*(V2+1)+(s-j)) 0 else 0)
 | 0,_=>by rw [mJ,sm,Rat.add_zero]
 | j+1,h=>by
  rw [mJ,mK_get (U:=U) i j hs (by omega) (by rw [mJ_len];exact ho) _ (by omega),mJ_get hs hV ho hi j (by omega),Rat.add_assoc];rfl
theorem mI_get {U1:Nat} (hs:s≤W) (hV:V1+V2≤W) (ho:o.length=(U+1)*(W+1)) (hU:U1+U2≤U):∀ i,i≤U1+1→(mI V1 V2 W U2 x y i o).getD (r*(W+1)+s) 0=o.getD (r*(W+1)+s) 0+sm i (fun i=>sm (V1+1) fun j=>sm (U2+1) fun k=>if i+k=r∧j≤s∧s<j+(V2+1) then x.getD (i*(V1+1)+j) 0*y.getD (k*(V2+1)+(s-j)) 0 else 0)
 | 0,_=>by rw [mI,sm,Rat.add_zero]
 | i+1,h=>by
  rw [mI,mJ_get (U:=U) i hs hV (by rw [mI_len];exact ho) (by omega) _ (Nat.le_refl _),mI_get hs hV ho hU i (by omega),Rat.add_assoc];rfl
end
def tpS (U1 V1 U2 V2:Nat) (a b:List Rat) (r s:Nat):Rat:=sm (U1+1) fun i=>sm (U2+1) fun k=>if i+k=r then cf (sx U1 V1 a i) (sx U2 V2 b k) s else 0
theorem top_get {U1 V1 U2 V2 r s:Nat} {a b:List Rat} (ha:a.length=(U1+1)*(V1+1)) (hb:b.length=(U2+1)*(V2+1)) (hs:s≤V1+V2):(mTop U1 V1 U2 V2 a b).getD (r*(V1+V2+1)+s) 0=tpS U1 V1 U2 V2 a b r s:=by
 rw [mTop,mI_get (U:=U1+U2) (U1:=U1) hs (Nat.le_refl _) (by simp) (Nat.le_refl _) _ (Nat.le_refl _),repl_get,Rat.zero_add]
 refine sm_congr _ _ _ fun i hi=>?_
 rw [sm_comm]
 refine sm_congr _ _ _ fun k hk=>?_
 by_cases h:i+k=r
 ·rw [if_pos h]
  have hG1:∀ j,V1+1≤j→(fun j=>if j≤s then sx U1 V1 a i j*sx U2 V2 b k (s-j) else 0) j=0:=fun j hj=>by
   show (if j≤s then sx U1 V1 a i j*sx U2 V2 b k (s-j) else 0)=0
   split
   ·rw [sx_gt ha (by omega) (by omega),Rat.zero_mul]
   ·rfl
  have hG2:∀ j,s+1≤j→(fun j=>if j≤s then sx U1 V1 a i j*sx U2 V2 b k (s-j) else 0) j=0:=fun j hj=>if_neg (by omega)
  have e:cf (sx U1 V1 a i) (sx U2 V2 b k) s=sm (V1+1) (fun j=>if j≤s then sx U1 V1 a i j*sx U2 V2 b k (s-j) else 0):=by
   rw [←sm_ext _ _ hG1 (s+1),Nat.add_comm,sm_ext _ _ hG2]
   exact sm_congr _ _ _ fun j hj=>(if_pos (by omega)).symm
  rw [e]
  refine sm_congr _ _ _ fun j hj=>?_
  by_cases h2:j≤s
  ·rw [if_pos h2]
   by_cases h3:s<j+(V2+1)
   ·rw [if_pos ⟨h,h2,h3⟩,wt_sx ha (by omega) (by omega),wt_sx hb (by omega) (by omega)]
   ·rw [if_neg (by omega),sx_gt hb (by omega) (by omega),Rat.mul_zero]
  ·rw [if_neg h2,if_neg (by omega)]
 ·rw [if_neg h]
  exact sm_zero _ _ fun j _=>if_neg (by omega)
theorem tm_len (U1 V1 U2 V2:Nat) (a b:List Rat):(tmL U1 V1 U2 V2 a b).length=(U1+U2+1)*(V1+V2+1):=gL_len _ _
theorem tm_get {U1 V1 U2 V2 r s:Nat} {a b:List Rat} (ha:a.length=(U1+1)*(V1+1)) (hb:b.length=(U2+1)*(V2+1)) (hr:r≤U1+U2) (hs:s≤V1+V2):(tmL U1 V1 U2 V2 a b).getD (r*(V1+V2+1)+s) 0=tpS U1 V1 U2 V2 a b r s/(cR (U1+U2) r*cR (V1+V2) s):=by
 rw [tmL,gL_get (ix_lt hr hs),dvV,ix_div hs,ix_mod hs,top_get ha hb hs];rfl
section
variable {U1 V1 U2 V2 i k:Nat} {a b:List Rat} (ha:a.length=(U1+1)*(V1+1)) (hb:b.length=(U2+1)*(V2+1)) (hi:i≤U1) (hk:k≤U2)
end
def oE:Option (List Rat)→LV
 | none=>.v (.slice none 0 0)
 | some p=>plL p
theorem net_ext {U V:Nat} {c d:List Rat} (hc:c.length=(U+1)*(V+1)) (hd:d.length=(U+1)*(V+1)) (h:∀ i j,i≤U→j≤V→c.getD (i*(V+1)+j) 0=d.getD (i*(V+1)+j) 0):c=d:=by
 refine ext0 (by rw [hc,hd]) fun k hk=>?_
 rw [hc] at hk
 have h1:k/(V+1)<U+1:=Nat.div_lt_of_lt_mul (by rw [Nat.mul_comm];exact hk)
 have h2:=Nat.mod_lt k (show V+1 > 0 by omega)
 have e:k=k/(V+1)*(V+1)+k % (V+1):=by rw [Nat.mul_comm];exact(Nat.div_add_mod k (V+1)).symm
 rw [e];exact h _ _ (by omega) (by omega)
section
variable {U1 V1 U2 V2 R:Nat} {a b:List Rat}
end
theorem oE_ok:EncOK oE 1 false:=⟨fun o=>by cases o<;>rfl,fun o=>by cases o<;>rfl,fun o=>by
 cases o with
 | none=>rfl
 | some p=>exact pure_lst ratE 3 p⟩
theorem oE_z:ZeroOK Tryz.prog 159 (oE none):=⟨Tryz.t159,_,by kernel_rfl,rfl,rfl,fun _ _ _=>⟨rfl,rfl⟩⟩
instance:EC Tryz.prog 159 oE 1 false none:=⟨oE_ok,oE_z,T159⟩
theorem gH_congr (a b:Rat):∀ (n:Nat) (f g:Nat→Rat),(∀ i,i≤n→f i=g i)→gH a b n f=gH a b n g
 | 0,f,g,h=>h 0 (Nat.le_refl _)
 | n+1,f,g,h=>by rw [gH,gH,h 0 (by omega),gH_congr a b n _ _ (fun i hi=>h (i+1) (by omega))]
theorem gH_0 (a b:Rat) (n:Nat):gH a b n (fun _=>0)=0:=by
 have:=gH_mul a b 0 n (fun _=>0)
 simp only [Rat.zero_mul] at this
 exact this
theorem gH_sm (a b:Rat) (n:Nat) (f:Nat→Nat→Rat):∀ m,gH a b n (fun k=>sm m (fun i=>f i k))=sm m (fun i=>gH a b n (f i))
 | 0=>gH_0 a b n
 | m+1=>by
  rw [sm,←gH_sm a b n f m,←gH_add];rfl
theorem gH_ite (a b:Rat) (n:Nat) (p:Prop) [Decidable p] (f:Nat→Rat):gH a b n (fun k=>if p then f k else 0)=if p then gH a b n f else 0:=by
 by_cases h:p
 ·simp only [if_pos h]
 ·simp only [if_neg h];exact gH_0 a b n
theorem rw_ev {U V i:Nat} {c:List Rat} (hc:c.length=(U+1)*(V+1)) (hi:i≤U) (v:Rat):cR U i*evP (rwL V c i) v=gH (1-v) v V (sx U V c i):=by
 rw [ev_gH (by rw [rwL_len hc hi];omega),rwL_len hc hi,Nat.add_sub_cancel,←gH_mul];rfl
theorem col_get {U V i:Nat} {c:List Rat} (hi:i≤U) (v:Rat):(colT U V c v).getD i 0=evP (rwL V c i) v:=by
 have:=rs_get (g:=fun p=>[evP p v]) (V:=V) (W:=0) (U:=U) (c:=c) (fun i hi=>rfl) (i:=i) (j:=0) (Nat.le_refl _) (n:=U+1) (Nat.le_refl _) (by omega)
 rw [show i*(0+1)+0=i by omega] at this
 rw [colT,this];rfl
theorem row_get {U V j:Nat} {c:List Rat} (hj:j≤V) (u:Rat):(rowT U V c u).getD j 0=fE (1-u) u U (fun i=>c.getD (i*(V+1)+j) 0):=by
 have:=rs_get (g:=fun p=>[evP p u]) (V:=U) (W:=0) (U:=V) (c:=swL U V c) (fun i hi=>rfl) (i:=j) (j:=0) (Nat.le_refl _) (n:=V+1) (Nat.le_refl _) (by omega)
 rw [show j*(0+1)+0=j by omega] at this
 rw [rowT,this]
 show evP (rwL U (swL U V c) j) u=_
 rw [ev_fE (by rw [rwL_len (swL_len U V c) hj];omega),rwL_len (swL_len U V c) hj,Nat.add_sub_cancel]
 exact fE_congr _ _ _ _ _ fun i hi=>by rw [rwL_get (swL_len U V c) hj hi,sw_get hi hj]
theorem ev_col {U V:Nat} {c:List Rat} (hc:c.length=(U+1)*(V+1)) (u v:Rat):evP (colT U V c v) u=gH (1-u) u U (fun i=>gH (1-v) v V (sx U V c i)):=by
 rw [ev_gH (by rw [colT_len];omega),colT_len,Nat.add_sub_cancel]
 refine gH_congr _ _ _ _ _ fun i hi=>?_
 rw [sq,colT_len,Nat.add_sub_cancel,col_get hi,rw_ev hc hi]
theorem sx_gtU {U V i:Nat} (c:List Rat) (hi:U<i):sx U V c i=fun _=>0:=by
 funext j
 rw [sx,show cR U i=0 from by unfold cR;rw [chs_gt hi];rfl,Rat.zero_mul]
theorem sum_cf {n m r:Nat} {F G:Nat→Rat} (hF:∀ i,n<i→F i=0) (hG:∀ i,m<i→G i=0):sm (n+1) (fun i=>sm (m+1) fun k=>if i+k=r then F i*G k else 0)=cf F G r:=by
 have h1:∀ i,sm (m+1) (fun k=>if i+k=r then F i*G k else 0)=if i≤r then F i*G (r-i) else 0:=fun i=>by
  by_cases h:i≤r
  ·rw [if_pos h]
   have e:∀ M,sm M (fun k=>if i+k=r then F i*G k else 0)=if r-i<M then F i*G (r-i) else 0:=fun M=>by
    induction M with
    | zero=>rfl
    | succ M ih =>
     rw [sm,ih]
     by_cases h2:i+M=r
     ·rw [if_neg (by omega),if_pos h2,if_pos (by omega),Rat.zero_add,show r-i=M by omega]
     ·rw [if_neg h2,Rat.add_zero]
      by_cases h3:r-i<M
      ·rw [if_pos h3,if_pos (by omega)]
      ·rw [if_neg h3,if_neg (by omega)]
   rw [e]
   by_cases h2:r-i<m+1
   ·rw [if_pos h2]
   ·rw [if_neg h2,hG _ (by omega),Rat.mul_zero]
  ·rw [if_neg h]
   exact sm_zero _ _ fun k _=>if_neg (by omega)
 rw [sm_congr _ _ _ fun i _=>h1 i]
 have h2:∀ i,n+1≤i→(fun i=>if i≤r then F i*G (r-i) else 0) i=0:=fun i hi=>by
  show (if i≤r then F i*G (r-i) else 0)=0
  rw [hF i (by omega),Rat.zero_mul];split<;>rfl
 have h3:∀ i,r+1≤i→(fun i=>if i≤r then F i*G (r-i) else 0) i=0:=fun i hi=>if_neg (by omega)
 rw [←sm_ext _ _ h2 (r+1),Nat.add_comm,sm_ext _ _ h3]
 exact sm_congr _ _ _ fun i hi=>if_pos (by omega)
theorem evT_tm {U1 V1 U2 V2:Nat} {a b:List Rat} (ha:a.length=(U1+1)*(V1+1)) (hb:b.length=(U2+1)*(V2+1)) (u v:Rat):evT (U1+U2) (V1+V2) (tmL U1 V1 U2 V2 a b) u v=evT U1 V1 a u v*evT U2 V2 b u v:=by
 have ht:=tm_len U1 V1 U2 V2 a b
 rw [←evT_swap ht,←evT_swap ha,←evT_swap hb,ev_col ht,ev_col ha,ev_col hb]
 have hF:∀ i,U1<i→(fun i=>gH (1-v) v V1 (sx U1 V1 a i)) i=0:=fun i hi=>by
  show gH (1-v) v V1 (sx U1 V1 a i)=0
  rw [sx_gtU a hi,gH_0]
 have hG:∀ i,U2<i→(fun i=>gH (1-v) v V2 (sx U2 V2 b i)) i=0:=fun i hi=>by
  show gH (1-v) v V2 (sx U2 V2 b i)=0
  rw [sx_gtU b hi,gH_0]
 rw [Nat.add_comm U1 U2,←gH_cf _ _ _ _ hG _ _ hF]
 refine gH_congr _ _ _ _ _ fun r hr=>?_
 rw [←sum_cf hF hG]
 have e:∀ s,s≤V1+V2→sx (U1+U2) (V1+V2) (tmL U1 V1 U2 V2 a b) r s=tpS U1 V1 U2 V2 a b r s:=fun s hs=>by
  have hc1:=cR_ne (n:=U1+U2) (k:=r) (by omega)
  have hc2:=cR_ne hs
  rw [sx,sq,rwL_len ht (by omega),Nat.add_sub_cancel,rwL_get ht (by omega) hs,tm_get ha hb (by omega) hs]
  have e1:=Rat.mul_inv_cancel _ hc1
  have e2:=Rat.mul_inv_cancel _ hc2
  rw [Rat.div_def,Rat.inv_mul_rev]
  grind
 rw [Nat.add_comm U2 U1,gH_congr _ _ _ _ _ e]
 show gH (1-v) v (V1+V2) (fun s=>sm (U1+1) fun i=>sm (U2+1) fun k=>if i+k=r then cf (sx U1 V1 a i) (sx U2 V2 b k) s else 0)=_
 rw [gH_sm]
 refine sm_congr _ _ _ fun i hi=>?_
 rw [gH_sm]
 refine sm_congr _ _ _ fun k hk=>?_
 rw [gH_ite]
 by_cases h:i+k=r
 ·rw [if_pos h,if_pos h,Nat.add_comm V1 V2]
  exact gH_cf _ _ _ _ (fun j hj=>sx_gt hb (by omega) hj) _ _ (fun j hj=>sx_gt ha (by omega) hj)
 ·rw [if_neg h,if_neg h]
theorem dif_at {p:List Rat} {V j:Nat} (hl:p.length=V+1) (hj:j≤V-1):(difP p).getD j 0=((V:Nat):Int)*(p.getD (j+1) 0-p.getD j 0):=by
 rcases Nat.eq_zero_or_pos V with rfl | hV
 ·obtain rfl:j=0:=by omega
  have:difP p=[0]:=by unfold difP;rw [if_pos (by omega)]
  rw [this,show (((0:Nat):Int):Rat)=0 from rfl,Rat.zero_mul];rfl
 ·rw [difP_get (by omega),hl,Nat.add_sub_cancel]
theorem dfV_get {U V i j:Nat} {c:List Rat} (hc:c.length=(U+1)*(V+1)) (hi:i≤U) (hj:j≤V-1):(dfV U V c).getD (i*(V-1+1)+j) 0=((V:Nat):Int)*(c.getD (i*(V+1)+(j+1)) 0-c.getD (i*(V+1)+j) 0):=by
 rw [dfV,rs_get (W:=V-1) (U:=U) (fun i hi=>dif_W (rwL_len hc hi)) hj (Nat.le_refl _) (by omega),dif_at (rwL_len hc hi) hj]
 rcases Nat.eq_zero_or_pos V with rfl | hV
 ·rw [show (((0:Nat):Int):Rat)=0 from rfl,Rat.zero_mul,Rat.zero_mul]
 ·rw [rwL_get hc hi (by omega),rwL_get hc hi (by omega)]
theorem dfV_len {U V:Nat} {c:List Rat} (hc:c.length=(U+1)*(V+1)):(dfV U V c).length=(U+1)*(V-1+1) :=
 rsL_len (W:=V-1) (U:=U) (fun i hi=>dif_W (rwL_len hc hi)) _ (Nat.le_refl _)
theorem dfU_len (U V:Nat) (c:List Rat):(dfU U V c).length=(U-1+1)*(V+1):=swL_len _ _ _
theorem dfU_get {U V i j:Nat} {c:List Rat} (hi:i≤U-1) (hj:j≤V):(dfU U V c).getD (i*(V+1)+j) 0=((U:Nat):Int)*(c.getD ((i+1)*(V+1)+j) 0-c.getD (i*(V+1)+j) 0):=by
 have hsl:=swL_len U V c
 rw [dfU,sw_get (U:=V) (V:=U-1) (i:=j) (j:=i) hj hi,rs_get (W:=U-1) (U:=V) (fun i hi=>dif_W (rwL_len hsl hi)) hi (Nat.le_refl _) (by omega),dif_at (rwL_len hsl hj) hi]
 rcases Nat.eq_zero_or_pos U with rfl | hU
 ·rw [show (((0:Nat):Int):Rat)=0 from rfl,Rat.zero_mul,Rat.zero_mul]
 ·rw [rwL_get hsl hj (by omega),rwL_get hsl hj (by omega),sw_get (by omega) hj,sw_get (by omega) hj]
theorem sm_rlT {B:Nat}:∀ (n:Nat) (f:Nat→Rat),(∀ i,i<n→rl (f i)≤B)→rl (sm n f)≤1+n*(B+1)
 | 0,f,_=>by show rl 0≤_;rw [show rl 0=1 from rfl];omega
 | n+1,f,h=>by
  have h1:=sm_rlT n f (fun i hi=>h i (by omega))
  have h2:=h n (by omega)
  have h3:=rl_add (sm n f) (f n)
  rw [sm,Nat.succ_mul];omega
theorem upH_same {U V:Nat} {c:List Rat} (hc:c.length=(U+1)*(V+1)) (hU:U≤40) (hV:V≤40) (hR:∀ x∈c,rl x≤1073741824):upH U V c U V:=by
 have h1:upR V c V U=c:=by
  rw [upR,rs_congr (h:=fun p=>p) (fun i hi=>upP_self (by rw [rwL_len hc hi];omega)) (Nat.le_refl _),rs_one,List.take_of_length_le (by omega)]
 have h2:∀ {p:List Rat} {n:Nat},p.length=n+1→(∀ x∈p,rl x≤1073741824)→upS p n:=fun {p n} hp hpR=>⟨hpR,fun k hk=>by
  obtain rfl:k=0:=by omega
  exact hpR⟩
 refine⟨hc,?_,fun x hx=>Nat.le_trans (hR x hx) (by decide),Nat.le_refl _,Nat.le_refl _,hU,hV,fun i hi=>h2 (rwL_len hc hi) (fun x hx=>hR x (rwL_mem hx)),fun j hj=>?_⟩
 ·rw [hc];exact Nat.le_trans (Nat.mul_le_mul (show U+1≤41 by omega) (show V+1≤41 by omega)) (by decide)
 ·rw [h1]
  exact h2 (rwL_len (swL_len U V c) hj) (fun x hx=>hR x (sw_mem hc (rwL_mem hx)))
theorem dfV_rl {U V R:Nat} {c:List Rat} (hc:c.length=(U+1)*(V+1)) (hV:V≤900) (hR:1≤R) (h:∀ x∈c,rl x≤R):∀ x∈dfV U V c,rl x≤2*R+4 :=
 rs_mem (U:=U) (fun i hi=>difP_rl hR (by rw [rwL_len hc hi];omega) (fun x hx=>h x (rwL_mem hx))) (Nat.le_refl _)
theorem dfU_rl {U V R:Nat} {c:List Rat} (hc:c.length=(U+1)*(V+1)) (hU:U≤900) (hR:1≤R) (h:∀ x∈c,rl x≤R):∀ x∈dfU U V c,rl x≤2*R+4 :=
 sw_rl (by omega) (rs_mem (U:=V) (fun j hj=>difP_rl hR (by rw [rwL_len (swL_len U V c) hj];omega) (fun x hx=>h x (sw_mem hc (rwL_mem hx)))) (Nat.le_refl _))
theorem zipS_rl {R:Nat} {p q:List Rat} {g:Rat→Rat→Rat} (hg:∀ a b,rl (g a b)≤rl a+rl b+1) (hR:1≤R) (hp:∀ x∈p,rl x≤R) (hq:∀ x∈q,rl x≤R):∀ x∈zipG g p q,rl x≤2*R+1:=fun x hx=>by
 obtain⟨i,_,rfl⟩:=List.mem_map.1 hx
 have h1:=getD_rl hR hp i
 have h2:=getD_rl hR hq i
 have h3:=hg (p.getD i 0) (q.getD i 0)
 omega
theorem dfr:(default:List PoR)=[]:=rfl
theorem rep_nets4 (d1 d2 d3 d4 sz:Nat) (x1 x2 x3 x4 y1 y2 y3 y4:LV) (Z:Nat→Prop) (μ:Nat→Option Nat) (w:World) (cs:List Value)
  (h:Rep Z μ w (.agg [.agg [x1,y1,.v (.slice none 0 0)],.agg [x2,y2,.v (.slice none 0 0)],.agg [x3,y3,.v (.slice none 0 0)],.agg [x4,y4,.v (.slice none 0 0)]]) cs) :
  Rep Z μ w (.agg [.agg [x1,y1,.ref d1 sz 0 0],.agg [x2,y2,.ref d2 sz 0 0],.agg [x3,y3,.ref d3 sz 0 0],.agg [x4,y4,.ref d4 sz 0 0]]) cs:=by
 rw [Rep] at h ⊢
 simp only [RepFs] at h ⊢
 obtain⟨a1,b1,e1,l1,g1,a2,b2,e2,l2,g2,a3,b3,e3,l3,g3,a4,b4,e4,l4,g4,e5⟩:=h
 exact⟨a1,b1,e1,l1,rep_net _ _ _ _ _ _ _ _ g1,a2,b2,e2,l2,rep_net _ _ _ _ _ _ _ _ g2,a3,b3,e3,l3,rep_net _ _ _ _ _ _ _ _ g3,a4,b4,e4,l4,rep_net _ _ _ _ _ _ _ _ g4,e5⟩
theorem dropR {rows:List (List PoR)} {i:Nat} (h:i<rows.length):rows.drop i=rows.getD i [] :: rows.drop (i+1):=by
 rw [List.drop_eq_getElem_cons h,List.getD_eq_getElem?_getD,List.getElem?_eq_getElem h];rfl
theorem dropP {po:List PoR} {j:Nat} (h:j<po.length):po.drop j=po.getD j default :: po.drop (j+1):=by
 rw [List.drop_eq_getElem_cons h,List.getD_eq_getElem?_getD,List.getElem?_eq_getElem h];rfl
theorem getR_mem {rows:List (List PoR)} {i:Nat} (h:i<rows.length):rows.getD i []∈rows:=by
 rw [List.getD_eq_getElem?_getD,List.getElem?_eq_getElem h];exact List.getElem_mem h
structure rwOK (rows:List (List PoR)) (R:Nat):Prop where
 ok:∀ r∈rows,∀ q∈r,okP R q
 n:rows.length≤1000
 m:∀ r∈rows,r.length≤1000
 f:rows.flatten.length≤10000
structure rwI (rows:List (List PoR)) (i:Nat) (ps:List PoR):Prop where
 hi:i≤rows.length
 he:ps++(rows.drop i).flatten=rows.flatten
theorem rwI.le {rows:List (List PoR)} {i:Nat} {ps:List PoR} (h:rwI rows i ps):ps.length≤rows.flatten.length:=by
 rw [←h.he];simp
theorem rwI.zero (rows:List (List PoR)):rwI rows 0 []:=⟨Nat.zero_le _,rfl⟩
theorem rwI.last {rows:List (List PoR)} {ps:List PoR} (h:rwI rows rows.length ps):ps=rows.flatten:=by
 have:=h.he
 rwa [List.drop_length,List.flatten_nil,List.append_nil] at this
structure rwJ (rows:List (List PoR)) (i j:Nat) (qs:List PoR):Prop where
 hi:i<rows.length
 hj:j≤(rows.getD i []).length
 he:qs++((rows.getD i []).drop j++(rows.drop (i+1)).flatten)=rows.flatten
theorem rwI.go {rows:List (List PoR)} {i:Nat} {ps:List PoR} (h:rwI rows i ps) (hi:i<rows.length):rwJ rows i 0 ps:=by
 refine⟨hi,Nat.zero_le _,?_⟩
 have:=h.he
 rwa [dropR hi,List.flatten_cons] at this
theorem rwJ.le {rows:List (List PoR)} {i j:Nat} {qs:List PoR} (h:rwJ rows i j qs):qs.length≤rows.flatten.length:=by
 rw [←h.he];simp
theorem rwJ.lt {rows:List (List PoR)} {i j:Nat} {qs:List PoR} (h:rwJ rows i j qs) (hj:j<(rows.getD i []).length):qs.length<rows.flatten.length:=by
 have:=congrArg List.length h.he
 rw [List.length_append,List.length_append,List.length_drop] at this
 omega
theorem rwJ.next {rows:List (List PoR)} {i j:Nat} {qs:List PoR} (h:rwJ rows i j qs) (hj:j<(rows.getD i []).length):rwJ rows i (j+1) (qs++[(rows.getD i []).getD j default]):=by
 refine⟨h.hi,by omega,?_⟩
 have:=h.he
 rw [dropP hj] at this
 rw [←this];simp
theorem rwJ.last {rows:List (List PoR)} {i:Nat} {qs:List PoR} (h:rwJ rows i (rows.getD i []).length qs):rwI rows (i+1) qs:=by
 refine⟨h.hi,?_⟩
 have:=h.he
 rwa [List.drop_length,List.nil_append] at this
theorem nmP_sn (po:List PoR) (q:PoR) (k:Nat):nmP po k++[q.w*q.p.at k]=nmP (po++[q]) k:=by simp [nmP]
theorem wtP_sn (po:List PoR) (q:PoR):wtP po++[q.w]=wtP (po++[q]):=by simp [wtP]
namespace H_c_PNum
theorem zSm {p q:Prop} (k:q) (e:p=q:=by simp only [e1,e2,e3,e4,p1,p2,p3,q1,q2,q3,l1,t0,t1,r1,r2,r3,r4,Nat.zero_add,Nat.reduceMul,Nat.reduceAdd,b1,b2,b3,b4,b5,b6,i1,i2,i3,i4,i5,i6,Nat.reduceBEq,prL,etk0,etk1,etk2,etk3,ers0,ers1,ers2,ers3,len_snoc,prL_kill,kills_map prE,dfr,dfq,take_map_len,map_snoc,len_snoc,List.length_cons,List.length_nil,List.nil_append,List.map_nil,List.take_nil,List.append_nil,List.set_cons_zero,List.set_cons_succ,Nat.reduceEqDiff,reduceIte,if_true,if_false,ptL_kill,poL_kill,kills_map ptE,kills_map poE,kills_map ratE,ratL_kill,spL_kill,LV.kill,kills];exact rfl):p:=e.mpr k
end H_c_PNum
open H_c_PNum in
theorem c_PNum (U V:Nat) (kU kV:List Rat) (rows:List (List PoR)) (hU:U≤1000000) (hV:V≤1000000) (R:Nat) (hR:R≤1000000) (hw:rwOK rows R):CallP Tryz.prog 24 [.agg [nI64 U,nI64 V,.list 3 (kU.map ratL),.list 3 (kV.map ratL),.list 1 (rows.map prL)]] (.agg [.agg [nI64 U,nI64 V,.list 3 ((nmP rows.flatten 0).map ratL)],.agg [nI64 U,nI64 V,.list 3 ((nmP rows.flatten 1).map ratL)],.agg [nI64 U,nI64 V,.list 3 ((nmP rows.flatten 2).map ratL)],.agg [nI64 U,nI64 V,.list 3 ((wtP rows.flatten).map ratL)]]):=by
 have hsp:LV.pure (.agg [nI64 U,nI64 V,.list 3 (kU.map ratL),.list 3 (kV.map ratL),.list 1 (rows.map prL)])=true:=by simp [LV.pure,pures,pures_map ratE,pures_map prE]
 have hwn:=hw.n
 have hwf:=hw.f
 refine fnP Tryz.func24 (ht:=(fun g=>LV.ren_pure g _ (by simp [LV.pure,pures,pures_map ratE,pures_map prE]))) ?_
 have etk0:True:=trivial
 have etk1:True:=trivial
 have etk2:True:=trivial
 have etk3:True:=trivial
 have ers0:True:=trivial
 have ers1:True:=trivial
 have ers2:True:=trivial
 have ers3:True:=trivial
 refine zg18 ?_
 refine wl_unroll ?_
 refine zg6 ?_
 refine wl_condX (b:=_) rfl (by decide) ?_
 refine zg10 ?_
 refine wl_regH rfl 8 3 [1,4,5] (by decide +kernel) rfl ?_
 simp only [List.take_succ_cons,List.take_zero,e1,e2,e3,e4,p1,p2,p3,q1,q2,q3,l1,t0,t1,r1,r2,r3,r4,Nat.zero_add,Nat.reduceMul,Nat.reduceAdd,b1,b2,b3,b4,b5,b6,i1,i2,i3,i4,i5,i6,Nat.reduceBEq,bh7,dh1,dh2,dh3]
 refine zg8 ?_
 refine st_unhide rfl rfl (fun om h=>by cases h;exact⟨_,_,_,_,_,rfl,rfl⟩) ?_
 simp only [List.drop_succ_cons,List.drop_zero]
 refine zg12 ?_
 refine wl_unroll ?_
 refine zg6 ?_
 refine wl_condX (b:=_) rfl (by decide) ?_
 refine zg10 ?_
 refine wl_regH rfl 8 3 [1,4,5] (by decide +kernel) rfl ?_
 simp only [List.take_succ_cons,List.take_zero,e1,e2,e3,e4,p1,p2,p3,q1,q2,q3,l1,t0,t1,r1,r2,r3,r4,Nat.zero_add,Nat.reduceMul,Nat.reduceAdd,b1,b2,b3,b4,b5,b6,i1,i2,i3,i4,i5,i6,Nat.reduceBEq,bh7,dh1,dh2,dh3]
 refine zg8 ?_
 refine st_unhide rfl rfl (fun om h=>by cases h;exact⟨_,_,_,_,_,rfl,rfl⟩) ?_
 simp only [List.drop_succ_cons,List.drop_zero]
 refine zg12 ?_
 refine wl_unroll ?_
 refine zg6 ?_
 refine wl_condX (b:=_) rfl (by decide) ?_
 refine zg10 ?_
 refine wl_regH rfl 8 3 [1,4,5] (by decide +kernel) rfl ?_
 simp only [List.take_succ_cons,List.take_zero,e1,e2,e3,e4,p1,p2,p3,q1,q2,q3,l1,t0,t1,r1,r2,r3,r4,Nat.zero_add,Nat.reduceMul,Nat.reduceAdd,b1,b2,b3,b4,b5,b6,i1,i2,i3,i4,i5,i6,Nat.reduceBEq,bh7,dh1,dh2,dh3]
 refine zg8 ?_
 refine st_unhide rfl rfl (fun om h=>by cases h;exact⟨_,_,_,_,_,rfl,rfl⟩) ?_
 simp only [List.drop_succ_cons,List.drop_zero]
 refine zg12 ?_
 refine wl_unroll ?_
 refine zg6 ?_
 refine wl_condX (b:=_) rfl (by decide) ?_
 refine zg10 ?_
 refine wl_regH rfl 8 3 [1,4,5] (by decide +kernel) rfl ?_
 simp only [List.take_succ_cons,List.take_zero,e1,e2,e3,e4,p1,p2,p3,q1,q2,q3,l1,t0,t1,r1,r2,r3,r4,Nat.zero_add,Nat.reduceMul,Nat.reduceAdd,b1,b2,b3,b4,b5,b6,i1,i2,i3,i4,i5,i6,Nat.reduceBEq,bh7,dh1,dh2,dh3]
 refine zg8 ?_
 refine st_unhide rfl rfl (fun om h=>by cases h;exact⟨_,_,_,_,_,rfl,rfl⟩) ?_
 simp only [List.drop_succ_cons,List.drop_zero]
 refine zg12 ?_
 refine wl_unroll ?_
 refine zg6 ?_
 refine wl_condY (b:=_) rfl (by decide) ?_
 refine zg15 ?_
 refine wl_weak (((Weak.cell 3 rfl (fun Z μ w cs h=>rep_nets4 1001 1002 1003 1004 3 _ _ _ _ _ _ _ _ Z μ w cs h)).trans ((Weak.newB _ 1001 3 rfl).trans ((Weak.newB _ 1002 3 rfl).trans ((Weak.newB _ 1003 3 rfl).trans (Weak.newB _ 1004 3 rfl)))))) ?_
 refine lp2 (fun(i:Nat) (ps:List PoR) L=>((((((St.mk L.slot (hp [(1,⟨5,[.agg [nI64 U,nI64 V,.list 3 (kU.map ratL),.list 3 (kV.map ratL),.list 1 (rows.map prL)]],true⟩),(2,⟨12,[.agg [.agg [.v (.int .i64 0),.v (.int .i64 0),.v (.slice none 0 0)],.agg [.v (.int .i64 0),.v (.int .i64 0),.v (.slice none 0 0)],.agg [.v (.int .i64 0),.v (.int .i64 0),.v (.slice none 0 0)],.agg [.v (.int .i64 0),.v (.int .i64 0),.v (.slice none 0 0)]]],true⟩),(3,⟨12,[.agg [.agg [nI64 U,nI64 V,.ref 1001 3 0 ps.length],.agg [nI64 U,nI64 V,.ref 1002 3 0 ps.length],.agg [nI64 U,nI64 V,.ref 1003 3 0 ps.length],.agg [nI64 U,nI64 V,.ref 1004 3 0 ps.length]]],true⟩),(1001,⟨3,(nmP ps 0).map ratL,true⟩),(1002,⟨3,(nmP ps 1).map ratL,true⟩),(1003,⟨3,(nmP ps 2).map ratL,true⟩),(1004,⟨3,(wtP ps).map ratL,true⟩)])).put (some 2) (.eptr 2 12 0 0)).put (some 3) (.eptr 3 12 0 0)).put (some 26) (.list 1 (rows.map prL))).put (some 27) (nI64 rows.length)).put (some 28) (nI64 i))) (fun i ps=>rwI rows i ps) (fun i ps=>rows.length-i) 0 ([]) (rwI.zero rows) ?_
 rintro i ps L2 hI
 refine zg6 ?_
 refine wl_if rfl (fun h29r h29=>?_) (fun h29r h29=>?_)
 ·have hi2:i<rows.length:=by omega
  refine zg19 ?_
  refine lp2 (fun(j:Nat) (qs:List PoR) L=>(((((((((St.mk L.slot (hp [(1,⟨5,[.agg [nI64 U,nI64 V,.list 3 (kU.map ratL),.list 3 (kV.map ratL),.list 1 (rows.map prL)]],true⟩),(2,⟨12,[.agg [.agg [.v (.int .i64 0),.v (.int .i64 0),.v (.slice none 0 0)],.agg [.v (.int .i64 0),.v (.int .i64 0),.v (.slice none 0 0)],.agg [.v (.int .i64 0),.v (.int .i64 0),.v (.slice none 0 0)],.agg [.v (.int .i64 0),.v (.int .i64 0),.v (.slice none 0 0)]]],true⟩),(3,⟨12,[.agg [.agg [nI64 U,nI64 V,.ref 1001 3 0 qs.length],.agg [nI64 U,nI64 V,.ref 1002 3 0 qs.length],.agg [nI64 U,nI64 V,.ref 1003 3 0 qs.length],.agg [nI64 U,nI64 V,.ref 1004 3 0 qs.length]]],true⟩),(1001,⟨3,(nmP qs 0).map ratL,true⟩),(1002,⟨3,(nmP qs 1).map ratL,true⟩),(1003,⟨3,(nmP qs 2).map ratL,true⟩),(1004,⟨3,(wtP qs).map ratL,true⟩)])).put (some 2) (.eptr 2 12 0 0)).put (some 3) (.eptr 3 12 0 0)).put (some 26) (.list 1 (rows.map prL))).put (some 27) (nI64 rows.length)).put (some 28) (nI64 i)).put (some 32) (.list 12 ((rows.getD i []).map poL))).put (some 33) (nI64 (rows.getD i []).length)).put (some 34) (nI64 j))) (fun j qs=>rwJ rows i j qs) (fun j qs=>(rows.getD i []).length-j) 0 ps (hI.go hi2) ?_
  rintro j qs L3 hJ
  refine zg6 ?_
  refine wl_if rfl (fun h35r h35=>?_) (fun h35r h35=>?_)
  ·have hj2:j<(rows.getD i []).length:=by omega
   have hJe:=hJ.hj
   have hJl:=hJ.le
   have hJi:=hJ.hi
   have hrm:=getR_mem hJi
   have hrl:=hw.m _ hrm
   have hqm:=getD_memP hj2
   have hok:=hw.ok _ hrm _ hqm
   have hJ2:=hJ.lt hj2
   have ers0:(nmP qs 0)++[((rows.getD i []).getD j default).w*((rows.getD i []).getD j default).p.x]=(nmP (qs++[((rows.getD i []).getD j default)]) 0):=nmP_sn _ _ 0
   have ers1:(nmP qs 1)++[((rows.getD i []).getD j default).w*((rows.getD i []).getD j default).p.y]=(nmP (qs++[((rows.getD i []).getD j default)]) 1):=nmP_sn _ _ 1
   have ers2:(nmP qs 2)++[((rows.getD i []).getD j default).w*((rows.getD i []).getD j default).p.z]=(nmP (qs++[((rows.getD i []).getD j default)]) 2):=nmP_sn _ _ 2
   have ers3:(wtP qs)++[((rows.getD i []).getD j default).w]=(wtP (qs++[((rows.getD i []).getD j default)])):=wtP_sn _ _
   have etk0:((nmP qs 0).map ratL).take qs.length=(nmP qs 0).map ratL:=List.take_of_length_le (by rw [List.length_map,nmP_len];omega)
   have etk1:((nmP qs 1).map ratL).take qs.length=(nmP qs 1).map ratL:=List.take_of_length_le (by rw [List.length_map,nmP_len];omega)
   have etk2:((nmP qs 2).map ratL).take qs.length=(nmP qs 2).map ratL:=List.take_of_length_le (by rw [List.length_map,nmP_len];omega)
   have etk3:((wtP qs).map ratL).take qs.length=(wtP qs).map ratL:=List.take_of_length_le (by rw [List.length_map,wtP_len];omega)
   have hn0:=nmP_len qs 0
   have hn1:=nmP_len qs 1
   have hn2:=nmP_len qs 2
   have hn3:=wtP_len qs
   refine zg15 ?_
   refine cp am1 (c_Of2 ((rows.getD i []).getD j default) R hR hok) ?_
   refine zg4 ?_
   refine wl_unroll ?_
   refine zg6 ?_
   refine wl_condX (b:=_) rfl (by decide) ?_
   refine zg13 ?_
   refine wl_regF 7 [0] (by decide +kernel) ?_
   refine zg7 ?_
   refine st_store rfl (.appX (d:=1001) (news:=[ratL (((rows.getD i []).getD j default).w*((rows.getD i []).getD j default).p.x)]) rfl rfl rfl rfl (by simp;omega) (.inl rfl) (by decide) Tryz.underlying159 Tryz.underlying159 Z29a T29 rfl B29 (.inl ⟨50,0,_,rfl,by decide,rfl,rfl,by simp,rfl,by simp [pures,ratE.pure]⟩) (by simp;omega) (by simp;omega) (by decide)) ?_
   refine zg6 ?_
   refine wl_regW ((Weak.kill _ 10).trans (Weak.kill _ 50)) ?_
   refine zg4 ?_
   refine wl_unroll ?_
   refine zg6 ?_
   refine wl_condX (b:=_) rfl (by decide) ?_
   refine zg13 ?_
   refine wl_regF 7 [0] (by decide +kernel) ?_
   refine zg7 ?_
   refine st_store rfl (.appX (d:=1002) (news:=[ratL (((rows.getD i []).getD j default).w*((rows.getD i []).getD j default).p.y)]) rfl rfl rfl rfl (by simp;omega) (.inl rfl) (by decide) Tryz.underlying159 Tryz.underlying159 Z29a T29 rfl B29 (.inl ⟨50,0,_,rfl,by decide,rfl,rfl,by simp,rfl,by simp [pures,ratE.pure]⟩) (by simp;omega) (by simp;omega) (by decide)) ?_
   refine zg6 ?_
   refine wl_regW ((Weak.kill _ 10).trans (Weak.kill _ 50)) ?_
   refine zg4 ?_
   refine wl_unroll ?_
   refine zg6 ?_
   refine wl_condX (b:=_) rfl (by decide) ?_
   refine zg13 ?_
   refine wl_regF 7 [0] (by decide +kernel) ?_
   refine zg7 ?_
   refine st_store rfl (.appX (d:=1003) (news:=[ratL (((rows.getD i []).getD j default).w*((rows.getD i []).getD j default).p.z)]) rfl rfl rfl rfl (by simp;omega) (.inl rfl) (by decide) Tryz.underlying159 Tryz.underlying159 Z29a T29 rfl B29 (.inl ⟨50,0,_,rfl,by decide,rfl,rfl,by simp,rfl,by simp [pures,ratE.pure]⟩) (by simp;omega) (by simp;omega) (by decide)) ?_
   refine zg6 ?_
   refine wl_regW ((Weak.kill _ 10).trans (Weak.kill _ 50)) ?_
   refine zg4 ?_
   refine wl_unroll ?_
   refine zg6 ?_
   refine wl_condX (b:=_) rfl (by decide) ?_
   refine zg13 ?_
   refine wl_regF 7 [0] (by decide +kernel) ?_
   refine zg7 ?_
   refine st_store rfl (.appX (d:=1004) (news:=[ratL (((rows.getD i []).getD j default).w)]) rfl rfl rfl rfl (by simp;omega) (.inl rfl) (by decide) Tryz.underlying159 Tryz.underlying159 Z29a T29 rfl B29 (.inl ⟨50,0,_,rfl,by decide,rfl,rfl,by simp,rfl,by simp [pures,ratE.pure]⟩) (by simp;omega) (by simp;omega) (by decide)) ?_
   refine zg6 ?_
   refine wl_regW ((Weak.kill _ 10).trans (Weak.kill _ 50)) ?_
   refine zg4 ?_
   refine wl_unroll ?_
   refine zg6 ?_
   refine wl_condY (b:=_) rfl (by decide) ?_
   refine zg6 ?_
   refine wl_regW (Weak.kill _ 8) ?_
   refine st_pure rfl (.bin rfl rfl (add1N (by omega))) ?_
   refine zg3 ?_
   exact nx2 (j+1) (qs++[((rows.getD i []).getD j default)]) (hJ.next hj2)
  ·have hJe:=hJ.hj
   have hJl:=hJ.le
   have hJi:=hJ.hi
   have hrm:=getR_mem hJi
   have hrl:=hw.m _ hrm
   obtain rfl:j=(rows.getD i []).length:=by omega
   refine zg7 ?_
   refine st_pure rfl (.bin rfl rfl (add1N (by omega))) ?_
   refine zg3 ?_
   exact nx2 (i+1) qs hJ.last (hm:=by have:=hJ.hi;omega)
 ·have hIi:=hI.hi
  obtain rfl:i=rows.length:=by omega
  have hE:=hI.last
  subst hE
  refine zg12 ?_
  exact retC [1001,1002,1003,1004] rfl rfl rfl cs (at_all cs rfl) T65 (.agg (.cons (.agg (.cons (.pure rfl) (.cons (.pure rfl) (.cons (imm_refm ratE rfl rfl (nmP_len _ 0).symm) .nil)))) (.cons (.agg (.cons (.pure rfl) (.cons (.pure rfl) (.cons (imm_refm ratE rfl rfl (nmP_len _ 1).symm) .nil)))) (.cons (.agg (.cons (.pure rfl) (.cons (.pure rfl) (.cons (imm_refm ratE rfl rfl (nmP_len _ 2).symm) .nil)))) (.cons (.agg (.cons (.pure rfl) (.cons (.pure rfl) (.cons (imm_refm ratE rfl rfl (wtP_len _).symm) .nil)))) .nil)))))
structure pf (R U V:Nat) (rows:List (List PoR)):Prop where
 r1:1≤R
 rB:R≤1000000
 u1:1≤U
 u3:U≤3
 v1:1≤V
 v3:V≤3
 n:rows.length=U+1
 m:∀ r∈rows,r.length=V+1
 ok:∀ r∈rows,∀ q∈r,okP R q
theorem flat_len {rows:List (List PoR)} {m:Nat} (h:∀ r∈rows,r.length=m):rows.flatten.length=rows.length*m:=by
 induction rows with
 | nil=>simp
 | cons r rs ih =>
  rw [List.flatten_cons,List.length_append,ih fun x hx=>h x (List.mem_cons_of_mem _ hx),h r (List.mem_cons_self ..),List.length_cons,Nat.succ_mul,Nat.add_comm]
section
variable {R U V:Nat} {rows:List (List PoR)} (h:pf R U V rows)
include h
theorem pf.len:rows.flatten.length=(U+1)*(V+1):=by rw [flat_len h.m,h.n]
theorem pf.l16:rows.flatten.length≤16:=by
 rw [h.len]
 have h1:=h.u3
 have h2:=h.v3
 exact Nat.le_trans (Nat.mul_le_mul (show U+1≤4 by omega) (show V+1≤4 by omega)) (by decide)
theorem pf.fok:∀ q∈rows.flatten,okP R q:=fun q hq=>by
 obtain⟨r,h1,h2⟩:=List.mem_flatten.1 hq
 exact h.ok r h1 q h2
theorem pf.rw:rwOK rows R:=by
 have h1:=h.u3
 have h2:=h.v3
 have h3:=h.n
 have h4:=h.l16
 exact⟨h.ok,by omega,fun r hr=>by have:=h.m r hr;omega,by omega⟩
theorem pf.nl (k:Nat):(nmP rows.flatten k).length=(U+1)*(V+1):=by rw [nmP_len,h.len]
theorem pf.wl:(wtP rows.flatten).length=(U+1)*(V+1):=by rw [wtP_len,h.len]
theorem pf.nr (k:Nat):∀ x∈nmP rows.flatten k,rl x≤2*R:=nmP_rl h.fok k
theorem pf.wr:∀ x∈wtP rows.flatten,rl x≤R:=wtP_rl h.fok
end
theorem sx_rlR {U V i j R:Nat} {c:List Rat} (hU:U≤40) (hV:V≤40) (hc:c.length=(U+1)*(V+1)) (hi:i≤U) (hR:1≤R) (h:∀ x∈c,rl x≤R):rl (sx U V c i j)≤R+4:=by
 have h1:=chsQ_rl (n:=U) i hU
 have h2:=chsQ_rl (n:=V) j hV
 have h3:=getD_rl (S:=R) hR (fun x hx=>h x (rwL_mem (V:=V) (i:=i) hx)) j
 have h4:=rl_mul (cR V j) ((rwL V c i).getD j 0)
 have h5:=rl_mul (cR U i) (cR V j*(rwL V c i).getD j 0)
 rw [sx,sq,rwL_len hc hi,Nat.add_sub_cancel]
 unfold cR at *
 omega
theorem tm_rlR {S U1 V1 U2 V2:Nat} {a b:List Rat} (ha:a.length=(U1+1)*(V1+1)) (hb:b.length=(U2+1)*(V2+1)) (hU1:U1≤3) (hV1:V1≤3) (hU2:U2≤3) (hV2:V2≤3) (hS:1≤S) (haR:∀ x∈a,rl x≤S) (hbR:∀ x∈b,rl x≤S):∀ x∈tmL U1 V1 U2 V2 a b,rl x≤224*S+1200:=by
 intro x hx
 have ht:=tm_len U1 V1 U2 V2 a b
 obtain⟨k,hk,rfl⟩:=List.getElem_of_mem hx
 rw [ht] at hk
 have h1:k/(V1+V2+1)<U1+U2+1:=Nat.div_lt_of_lt_mul (by rw [Nat.mul_comm];exact hk)
 have h2:=Nat.mod_lt k (show V1+V2+1 > 0 by omega)
 have e:k=k/(V1+V2+1)*(V1+V2+1)+k % (V1+V2+1):=by rw [Nat.mul_comm];exact(Nat.div_add_mod k _).symm
 have e2:(tmL U1 V1 U2 V2 a b)[k]=(tmL U1 V1 U2 V2 a b).getD k 0:=by rw [List.getD_eq_getElem?_getD,List.getElem?_eq_getElem (by rw [ht];exact hk)];rfl
 rw [e2,e]
 generalize k/(V1+V2+1)=r at *
 generalize k % (V1+V2+1)=s at *
 rw [tm_get ha hb (by omega) (by omega)]
 have c1:=chsQ_rl (n:=U1+U2) r (by omega)
 have c2:=chsQ_rl (n:=V1+V2) s (by omega)
 have c3:=rl_mul (cR (U1+U2) r) (cR (V1+V2) s)
 have hcf:∀ i,i<U1+1→∀ k,k<U2+1→rl (if i+k=r then cf (sx U1 V1 a i) (sx U2 V2 b k) s else 0)≤14*S+64:=fun i hi k hk=>by
  split
  ·have:=sm_rlT (B:=2*S+8) (s+1) (fun j=>sx U1 V1 a i j*sx U2 V2 b k (s-j)) (fun j _=>by
    have g1:=sx_rlR (j:=j) (show U1≤40 by omega) (show V1≤40 by omega) ha (show i≤U1 by omega) hS haR
    have g2:=sx_rlR (j:=s-j) (show U2≤40 by omega) (show V2≤40 by omega) hb (show k≤U2 by omega) hS hbR
    have g3:=rl_mul (sx U1 V1 a i j) (sx U2 V2 b k (s-j))
    omega)
   refine Nat.le_trans this ?_
   have:(s+1)*(2*S+8+1)≤7*(2*S+8+1):=Nat.mul_le_mul (by omega) (Nat.le_refl _)
   omega
  ·show rl 0≤_
   rw [show rl 0=1 from rfl];omega
 have h3:=sm_rlT (B:=56*S+261) (U1+1) _ (fun i hi=>Nat.le_trans (sm_rlT (B:=14*S+64) (U2+1) _ (hcf i hi)) (by
  have:(U2+1)*(14*S+64+1)≤4*(14*S+64+1):=Nat.mul_le_mul (by omega) (Nat.le_refl _)
  omega))
 have h4:=rl_div (tpS U1 V1 U2 V2 a b r s) (cR (U1+U2) r*cR (V1+V2) s)
 have h5:rl (tpS U1 V1 U2 V2 a b r s)≤1+(U1+1)*(56*S+261+1):=h3
 have h6:(U1+1)*(56*S+261+1)≤4*(56*S+261+1):=Nat.mul_le_mul (by omega) (Nat.le_refl _)
 unfold cR at *
 omega
def sgN (U V Ud Vd:Nat) (D:List Rat→List Rat) (F:List PoR) (k:Nat):List Rat:=zipG (·-·) (tmL Ud Vd U V (D (nmP F k)) (wtP F)) (tmL U V Ud Vd (nmP F k) (D (wtP F)))
structure dfS (U V Ud Vd:Nat) (D:List Rat→List Rat):Prop where
 u:Ud≤3
 v:Vd≤3
 l:∀ c:List Rat,c.length=(U+1)*(V+1)→(D c).length=(Ud+1)*(Vd+1)
 r:∀ (R:Nat) (c:List Rat),1≤R→c.length=(U+1)*(V+1)→(∀ x∈c,rl x≤R)→∀ x∈D c,rl x≤2*R+4
theorem dfS_U {U V:Nat} (hU:U≤3) (hV:V≤3):dfS U V (U-1) V (dfU U V) :=
 ⟨by omega,hV,fun c _=>dfU_len U V c,fun R c hR hc h=>dfU_rl (R:=R) hc (by omega) hR h⟩
theorem dfS_V {U V:Nat} (hU:U≤3) (hV:V≤3):dfS U V U (V-1) (dfV U V) :=
 ⟨hU,by omega,fun c hc=>dfV_len hc,fun R c hR hc h=>dfV_rl (R:=R) hc (by omega) hR h⟩
section
variable {R U V Ud Vd:Nat} {rows:List (List PoR)} {D:List Rat→List Rat} (h:pf R U V rows) (hd:dfS U V Ud Vd D) (k:Nat)
theorem sg_m1 (h:pf R U V rows) (hd:dfS U V Ud Vd D) (k:Nat):(tmL Ud Vd U V (D (nmP rows.flatten k)) (wtP rows.flatten)).length=(Ud+U+1)*(Vd+V+1)∧∀ x∈tmL Ud Vd U V (D (nmP rows.flatten k)) (wtP rows.flatten),rl x≤900*R+2100 :=
 ⟨tm_len ..,fun x hx=>by
  have hr:=h.r1
  have:=tm_rlR (S:=4*R+4) (hd.l _ (h.nl k)) h.wl hd.u hd.v h.u3 h.v3 (by omega) (fun x hx=>by have:=hd.r _ _ (show 1≤2*R by omega) (h.nl k) (h.nr k) x hx;omega) (fun x hx=>by have:=h.wr x hx;omega) x hx
  omega⟩
theorem sg_m2 (h:pf R U V rows) (hd:dfS U V Ud Vd D) (k:Nat):(tmL U V Ud Vd (nmP rows.flatten k) (D (wtP rows.flatten))).length=(Ud+U+1)*(Vd+V+1)∧∀ x∈tmL U V Ud Vd (nmP rows.flatten k) (D (wtP rows.flatten)),rl x≤900*R+2100 :=
 ⟨by rw [tm_len,Nat.add_comm U Ud,Nat.add_comm V Vd],fun x hx=>by
  have hr:=h.r1
  have:=tm_rlR (S:=4*R+4) (h.nl k) (hd.l _ h.wl) h.u3 h.v3 hd.u hd.v (by omega) (fun x hx=>by have:=h.nr k x hx;omega) (fun x hx=>by have:=hd.r _ _ hr h.wl h.wr x hx;omega) x hx
  omega⟩
theorem sg_len (h:pf R U V rows) (hd:dfS U V Ud Vd D) (k:Nat):(sgN U V Ud Vd D rows.flatten k).length=(Ud+U+1)*(Vd+V+1):=by rw [sgN,zipG_len];exact(sg_m1 h hd k).1
theorem sg_rl (h:pf R U V rows) (hd:dfS U V Ud Vd D) (k:Nat):∀ x∈sgN U V Ud Vd D rows.flatten k,rl x≤1800*R+4201:=fun x hx=>by
 have:=zipS_rl (R:=900*R+2100) rl_sub (by omega) (sg_m1 h hd k).2 (sg_m2 h hd k).2 x hx
 omega
theorem sq_le {a b:Nat} (ha:a≤6) (hb:b≤6):(a+1)*(b+1)≤49:=Nat.le_trans (Nat.mul_le_mul (show a+1≤7 by omega) (show b+1≤7 by omega)) (by decide)
end
def shX (x:Rat):Prop:=rl (1-x)+rl x+1≤20
theorem evT_sz {R U V:Nat} {c:List Rat} {u v:Rat} (hc:c.length=(U+1)*(V+1)) (hU:U≤6) (hV:V≤6) (hR1:1≤R) (hR:R≤100000) (h:∀ x∈c,rl x≤R) (hu:shX u) (hv:shX v) :
  (∀ j,j≤V→HS (rwL U (swL U V c) j) u)∧HS (rowT U V c u) v∧(∀ i,i≤U→HS (rwL V c i) v)∧HS (colT U V c v) u∧rl (evT U V c u v)≤4100*(R+30):=by
 unfold shX at hu hv
 have h1:∀ j,j≤V→∀ x∈rwL U (swL U V c) j,rl x≤R:=fun j _ x hx=>h x (sw_mem hc (rwL_mem hx))
 have h2:∀ j,j≤V→(rwL U (swL U V c) j).length=U+1:=fun j hj=>rwL_len (swL_len U V c) hj
 have h3:∀ i,i≤U→∀ x∈rwL V c i,rl x≤R:=fun j _ x hx=>h x (rwL_mem hx)
 have h4:∀ i,i≤U→(rwL V c i).length=V+1:=fun j hj=>rwL_len hc hj
 have p6:∀ n,n≤6→2 ^ n≤64:=fun n hn=>Nat.pow_le_pow_right (n:=2) (by decide) hn
 have hrow:∀ x∈rowT U V c u,rl x≤(R+20)*64:=rs_mem (U:=V) (fun j hj x hx=>by
  rw [List.mem_singleton.1 hx]
  have:=ev_rl (p:=rwL U (swL U V c) j) (t:=u) (by rw [h2 j hj];omega) hR1 (h1 j hj)
  rw [h2 j hj,Nat.add_sub_cancel] at this
  exact Nat.le_trans this (Nat.mul_le_mul (by omega) (p6 U hU))) (Nat.le_refl _)
 have hcol:∀ x∈colT U V c v,rl x≤(R+20)*64:=rs_mem (U:=U) (fun i hi x hx=>by
  rw [List.mem_singleton.1 hx]
  have:=ev_rl (p:=rwL V c i) (t:=v) (by rw [h4 i hi];omega) hR1 (h3 i hi)
  rw [h4 i hi,Nat.add_sub_cancel] at this
  exact Nat.le_trans this (Nat.mul_le_mul (by omega) (p6 V hV))) (Nat.le_refl _)
 refine⟨fun j hj=>hs_ofL (by rw [h2 j hj];omega) (fun y hy=>by have:=h1 j hj y hy;omega) (by omega),hs_ofL (by rw [rowT_len];omega) (fun y hy=>by have:=hrow y hy;omega) (by omega),
  fun j hj=>hs_ofL (by rw [h4 j hj];omega) (fun y hy=>by have:=h3 j hj y hy;omega) (by omega),hs_ofL (by rw [colT_len];omega) (fun y hy=>by have:=hcol y hy;omega) (by omega),?_⟩
 have:=ev_rl (p:=rowT U V c u) (t:=v) (by rw [rowT_len];omega) (show 1≤(R+20)*64 by omega) hrow
 rw [rowT_len,Nat.add_sub_cancel] at this
 refine Nat.le_trans this (Nat.le_trans (Nat.mul_le_mul (show _≤(R+20)*64+20 by omega) (p6 V hV)) ?_)
 omega
namespace H_c_Sends
theorem zSm {p q:Prop} (k:q) (e:p=q:=by simp only [e1,e2,e3,e4,p1,p2,p3,q1,q2,q3,l1,t0,t1,r1,r2,r3,r4,Nat.zero_add,Nat.reduceMul,Nat.reduceAdd,b1,b2,b3,b4,b5,b6,i1,i2,i3,i4,i5,i6,Nat.reduceBEq,dfq,hkl,hlo,hhi,List.length_map,List.set_cons_zero,List.set_cons_succ,Nat.reduceEqDiff,reduceIte,if_true,if_false,ptL_kill,poL_kill,kills_map ptE,kills_map poE,kills_map ratE,ratL_kill,spL_kill,LV.kill,kills];exact rfl):p:=e.mpr k
end H_c_Sends
open H_c_Sends in
theorem c_Sends (d:Nat) (a b:Rat) (ha:rl a≤100) (hb:rl b≤100) (hab:a<b) (h9:d≤6):CallP Tryz.prog 129 [.list 3 ((kn2 d a b).map ratL)] (spL (a,b)):=by
 have hkl:=kn2_len d a b
 have hlo:=kn2_lo d a b
 have hhi:=kn2_hi d a b
 have hkp:=pure_lst ratE 3 (kn2 d a b)
 have hS:=c_SOf a b (by omega)
 rw [mn_lt2 hab,mx_lt2 hab] at hS
 refine fnP Tryz.func129 ?_
 refine zg13 ?_
 refine wl_if rfl (fun h5r h5=>?_) (fun h5r h5=>?_)
 ·omega
 ·refine zg3 ?_
  refine wl_regD 10 (by decide +kernel) ?_
  refine zg6 ?_
  refine st_pure rfl (.bin rfl rfl (sub1N (by omega) (by omega))) ?_
  refine zg2 ?_
  try simp only [t1,dfq,hkl,hlo,hhi,List.length_map]
  refine cp am2 (hS) ?_
  refine zg4 ?_
  exact retC [] rfl rfl rfl (spE.csize _) (spL_all _) T42 (.pure (spE.pure _))
namespace H_c_PDom
theorem zSm {p q:Prop} (k:q) (e:p=q:=by simp only [e1,e2,e3,e4,p1,p2,p3,q1,q2,q3,l1,t0,t1,r1,r2,r3,r4,Nat.zero_add,Nat.reduceMul,Nat.reduceAdd,b1,b2,b3,b4,b5,b6,i1,i2,i3,i4,i5,i6,Nat.reduceBEq,prL_kill,kills_map prE,dfr,dfq,take_map_len,map_snoc,len_snoc,List.length_cons,List.length_nil,List.nil_append,List.map_nil,List.take_nil,List.append_nil,List.set_cons_zero,List.set_cons_succ,Nat.reduceEqDiff,reduceIte,if_true,if_false,ptL_kill,poL_kill,kills_map ptE,kills_map poE,kills_map ratE,ratL_kill,spL_kill,LV.kill,kills];exact rfl):p:=e.mpr k
end H_c_PDom
open H_c_PDom in
theorem c_PDom (U V:Nat) (ua ub va vb:Rat) (rows:List (List PoR)) (hua:rl ua≤100) (hub:rl ub≤100) (hva:rl va≤100) (hvb:rl vb≤100) (hu:ua<ub) (hv:va<vb) (hU:U≤6) (hV:V≤6):CallP Tryz.prog 64 [.agg [nI64 U,nI64 V,.list 3 ((kn2 U ua ub).map ratL),.list 3 ((kn2 V va vb).map ratL),.list 1 (rows.map prL)]] (.tup [spL (ua,ub),spL (va,vb)]):=by
 have hsp:LV.pure (.agg [nI64 U,nI64 V,.list 3 ((kn2 U ua ub).map ratL),.list 3 ((kn2 V va vb).map ratL),.list 1 (rows.map prL)])=true:=by simp [LV.pure,pures,pures_map ratE,pures_map prE]
 have hku:=pure_lst ratE 3 (kn2 U ua ub)
 have hkv:=pure_lst ratE 3 (kn2 V va vb)
 refine fnP Tryz.func64 (ht:=(tame2 (spE.pure _) (spE.pure _))) ?_
 refine zg8 ?_
 refine wl_regD 6 (by decide +kernel) ?_
 refine zg2 ?_
 refine cp am1 (c_Sends U ua ub hua hub hu hU) ?_
 refine zg2 ?_
 refine cp am1 (c_Sends V va vb hva hvb hv hV) ?_
 refine zg5 ?_
 exact retCC [] rfl rfl rfl (spE.csize _) (spL_all _) T42 (.pure (spE.pure _)) rfl rfl (spE.csize _) (spL_all _) T42 (.pure (spE.pure _))
namespace H_c_FDom12
theorem zSm {p q:Prop} (k:q) (e:p=q:=by simp only [e1,e2,e3,e4,p1,p2,p3,q1,q2,q3,l1,t0,t1,r1,r2,r3,r4,Nat.zero_add,Nat.reduceMul,Nat.reduceAdd,b1,b2,b3,b4,b5,b6,i1,i2,i3,i4,i5,i6,Nat.reduceBEq,hlu,hlou,hhiu,hlv,hlov,hhiv,prL_kill,kills_map prE,dfr,dfq,take_map_len,map_snoc,len_snoc,List.length_cons,List.length_nil,List.nil_append,List.map_nil,List.take_nil,List.append_nil,List.set_cons_zero,List.set_cons_succ,Nat.reduceEqDiff,reduceIte,if_true,if_false,ptL_kill,poL_kill,kills_map ptE,kills_map poE,kills_map ratE,ratL_kill,spL_kill,LV.kill,kills];exact rfl):p:=e.mpr k
end H_c_FDom12
open H_c_FDom12 in
theorem c_FDom12 (U V:Nat) (ua ub va vb:Rat) (rows:List (List PoR)) (hua:rl ua≤100) (hub:rl ub≤100) (hva:rl va≤100) (hvb:rl vb≤100) (hu:ua<ub) (hv:va<vb) (hU:U≤6) (hV:V≤6):CallP Tryz.prog 12 [.agg [nI64 U,nI64 V,.list 3 ((kn2 U ua ub).map ratL),.list 3 ((kn2 V va vb).map ratL),.list 1 (rows.map prL)]] (.tup [spL (ua,ub),spL (va,vb)]):=by
 have hsp:LV.pure (.agg [nI64 U,nI64 V,.list 3 ((kn2 U ua ub).map ratL),.list 3 ((kn2 V va vb).map ratL),.list 1 (rows.map prL)])=true:=by simp [LV.pure,pures,pures_map ratE,pures_map prE]
 have hku:=pure_lst ratE 3 (kn2 U ua ub)
 have hkv:=pure_lst ratE 3 (kn2 V va vb)
 have hlu:=kn2_len U ua ub
 have hlou:=kn2_lo U ua ub
 have hhiu:=kn2_hi U ua ub
 have hlv:=kn2_len V va vb
 have hlov:=kn2_lo V va vb
 have hhiv:=kn2_hi V va vb
 refine fnP Tryz.func12 (ht:=(tame2 (spE.pure _) (spE.pure _))) ?_
 refine zg8 ?_
 refine wl_regH rfl 26 2 [13,14,15,16,17,18,19,20,21,22,23,24,25] (by decide +kernel) rfl ?_
 simp only [List.take_succ_cons,List.take_zero,e1,e2,e3,e4,p1,p2,p3,q1,q2,q3,l1,t0,t1,r1,r2,r3,r4,Nat.zero_add,Nat.reduceMul,Nat.reduceAdd,b1,b2,b3,b4,b5,b6,i1,i2,i3,i4,i5,i6,Nat.reduceBEq,bh7,dh1,dh2,dh3]
 refine zg9 ?_
 refine st_pure rfl (.bin rfl rfl (sub1N (by omega) (by omega))) ?_
 refine zg12 ?_
 refine st_pure rfl (.bin rfl rfl (sub1N (by omega) (by omega))) ?_
 refine zg3 ?_
 refine st_unhide rfl rfl (fun om h=>by cases h;exact⟨_,_,_,_,_,rfl,rfl⟩) ?_
 simp only [List.drop_succ_cons,List.drop_zero]
 refine zg5 ?_
 exact retCC [] rfl rfl rfl (spE.csize _) (spL_all _) T42 (.pure (spE.pure _)) rfl rfl (spE.csize _) (spL_all _) T42 (.pure (spE.pure _))
namespace H_c_Pown
theorem zSm {p q:Prop} (k:q) (e:p=q:=by simp only [e1,e2,e3,e4,p1,p2,p3,q1,q2,q3,l1,t0,t1,r1,r2,r3,r4,Nat.zero_add,Nat.reduceMul,Nat.reduceAdd,b1,b2,b3,b4,b5,b6,i1,i2,i3,i4,i5,i6,Nat.reduceBEq,List.set_cons_zero,List.set_cons_succ,Nat.reduceEqDiff,reduceIte,if_true,if_false,ptL_kill,poL_kill,kills_map ptE,kills_map poE,kills_map ratE,ratL_kill,spL_kill,LV.kill,kills];exact rfl):p:=e.mpr k
end H_c_Pown
open H_c_Pown in
theorem c_Pown (a b t:Rat) (ha:rl a≤100) (hb:rl b≤100) (hab:a<b) (ht:rl t≤100) (hi:hasR (a,b) t=true):CallP Tryz.prog 65 [spL (a,b),ratL t] (.tup [ratL ((t-a)/(b-a)),ratL (b-a),bL true]):=by
 have hz1:=rl_sub t a
 have hz2:=rl_sub b a
 have hW:CallP Tryz.prog 110 [spL (a,b)] (ratL (b-a)):=c_SWidth (a,b) (by show rl b+rl a≤_;omega)
 have hQ:CallP Tryz.prog 68 [ratL (t-a),ratL (b-a)] (.tup [ratL ((t-a)/(b-a)),iL 0]):=by
  have:=c_RQuo (t-a) (b-a) (by omega)
  rwa [if_neg (by grind)] at this
 have hH:CallP Tryz.prog 130 [spL (a,b),ratL t] (bL true):=by
  have:=c_SHas (a,b) t (by show rl a+rl t≤_;omega) (by show rl t+rl b≤_;omega)
  rwa [hi] at this
 refine fnP Tryz.func65 (ht:=(tame3 (ratE.pure _) (ratE.pure _) rfl)) ?_
 refine zg14 ?_
 refine cp am2 (hH) ?_
 refine zg3 ?_
 refine wl_if rfl (fun h11r h11=>?_) (fun h11r h11=>?_)
 ·first | exact h11.elim | cases h11r
 ·refine zg5 ?_
  refine cp am1 (hW) ?_
  refine zg4 ?_
  refine wl_regF 9 [8] (by decide +kernel) ?_
  refine zg3 ?_
  refine cp am2 (c_RSub t a (by omega)) ?_
  refine zg1 ?_
  refine cp am2 (hQ) ?_
  refine zg8 ?_
  refine wl_regA ?_
  refine any_3 0 1 2 _ _ _ (by decide +kernel) rfl rfl rfl ?_ ?_ ?_
  ·refine zg1 ?_
   refine st_nil ?_
   refine any_3 1 2 4 _ _ _ (by decide +kernel) rfl rfl rfl ?_ ?_ ?_
   ·refine zg1 ?_
    refine st_nil ?_
    refine any_2 2 4 _ _ (by decide +kernel) rfl rfl ?_ ?_
    ·refine zg1 ?_
     refine st_nil ?_
     refine any_2 3 4 _ _ (by decide +kernel) rfl rfl ?_ ?_
     ·refine zg1 ?_
      refine st_nil ?_
      refine any_1 4 _ (by decide +kernel) rfl ?_
      refine zg1 ?_
      refine st_nil ?_
      refine any_1 5 _ (by decide +kernel) rfl ?_
      refine zg1 ?_
      refine st_nil ?_
      refine any_1 6 _ (by decide +kernel) rfl ?_
      refine zg1 ?_
      refine st_nil ?_
      refine any_0 (by decide +kernel) ?_
      refine zg2 ?_
      exact retCCT [] rfl rfl rfl (ratE.csize _) (ratL_all _) T29 (.pure (ratE.pure _)) rfl rfl (ratE.csize _) (ratL_all _) T29 (.pure (ratE.pure _)) rfl (.pure rfl)
     ·refine zg1 ?_
      refine st_nil ?_
      refine any_2 3 5 _ _ (by decide +kernel) rfl rfl ?_ ?_
      ·refine zg1 ?_
       refine st_nil ?_
       refine any_1 5 _ (by decide +kernel) rfl ?_
       refine zg1 ?_
       refine st_nil ?_
       refine any_1 6 _ (by decide +kernel) rfl ?_
       refine zg1 ?_
       refine st_nil ?_
       refine any_0 (by decide +kernel) ?_
       refine zg2 ?_
       exact retCCT [] rfl rfl rfl (ratE.csize _) (ratL_all _) T29 (.pure (ratE.pure _)) rfl rfl (ratE.csize _) (ratL_all _) T29 (.pure (ratE.pure _)) rfl (.pure rfl)
      ·refine zg1 ?_
       refine st_nil ?_
       refine any_1 3 _ (by decide +kernel) rfl ?_
       refine zg1 ?_
       refine st_nil ?_
       refine any_1 6 _ (by decide +kernel) rfl ?_
       refine zg1 ?_
       refine st_nil ?_
       refine any_0 (by decide +kernel) ?_
       refine zg2 ?_
       exact retCCT [] rfl rfl rfl (ratE.csize _) (ratL_all _) T29 (.pure (ratE.pure _)) rfl rfl (ratE.csize _) (ratL_all _) T29 (.pure (ratE.pure _)) rfl (.pure rfl)
    ·refine zg1 ?_
     refine st_nil ?_
     refine any_2 2 5 _ _ (by decide +kernel) rfl rfl ?_ ?_
     ·refine zg1 ?_
      refine st_nil ?_
      refine any_2 3 5 _ _ (by decide +kernel) rfl rfl ?_ ?_
      ·refine zg1 ?_
       refine st_nil ?_
       refine any_1 5 _ (by decide +kernel) rfl ?_
       refine zg1 ?_
       refine st_nil ?_
       refine any_1 6 _ (by decide +kernel) rfl ?_
       refine zg1 ?_
       refine st_nil ?_
       refine any_0 (by decide +kernel) ?_
       refine zg2 ?_
       exact retCCT [] rfl rfl rfl (ratE.csize _) (ratL_all _) T29 (.pure (ratE.pure _)) rfl rfl (ratE.csize _) (ratL_all _) T29 (.pure (ratE.pure _)) rfl (.pure rfl)
      ·refine zg1 ?_
       refine st_nil ?_
       refine any_1 3 _ (by decide +kernel) rfl ?_
       refine zg1 ?_
       refine st_nil ?_
       refine any_1 6 _ (by decide +kernel) rfl ?_
       refine zg1 ?_
       refine st_nil ?_
       refine any_0 (by decide +kernel) ?_
       refine zg2 ?_
       exact retCCT [] rfl rfl rfl (ratE.csize _) (ratL_all _) T29 (.pure (ratE.pure _)) rfl rfl (ratE.csize _) (ratL_all _) T29 (.pure (ratE.pure _)) rfl (.pure rfl)
     ·refine zg1 ?_
      refine st_nil ?_
      refine any_1 2 _ (by decide +kernel) rfl ?_
      refine zg1 ?_
      refine st_nil ?_
      refine any_1 3 _ (by decide +kernel) rfl ?_
      refine zg1 ?_
      refine st_nil ?_
      refine any_1 6 _ (by decide +kernel) rfl ?_
      refine zg1 ?_
      refine st_nil ?_
      refine any_0 (by decide +kernel) ?_
      refine zg2 ?_
      exact retCCT [] rfl rfl rfl (ratE.csize _) (ratL_all _) T29 (.pure (ratE.pure _)) rfl rfl (ratE.csize _) (ratL_all _) T29 (.pure (ratE.pure _)) rfl (.pure rfl)
   ·refine zg1 ?_
    refine st_nil ?_
    refine any_3 1 3 4 _ _ _ (by decide +kernel) rfl rfl rfl ?_ ?_ ?_
    ·refine zg1 ?_
     refine st_nil ?_
     refine any_2 3 4 _ _ (by decide +kernel) rfl rfl ?_ ?_
     ·refine zg1 ?_
      refine st_nil ?_
      refine any_1 4 _ (by decide +kernel) rfl ?_
      refine zg1 ?_
      refine st_nil ?_
      refine any_1 5 _ (by decide +kernel) rfl ?_
      refine zg1 ?_
      refine st_nil ?_
      refine any_1 6 _ (by decide +kernel) rfl ?_
      refine zg1 ?_
      refine st_nil ?_
      refine any_0 (by decide +kernel) ?_
      refine zg2 ?_
      exact retCCT [] rfl rfl rfl (ratE.csize _) (ratL_all _) T29 (.pure (ratE.pure _)) rfl rfl (ratE.csize _) (ratL_all _) T29 (.pure (ratE.pure _)) rfl (.pure rfl)
     ·refine zg1 ?_
      refine st_nil ?_
      refine any_2 3 5 _ _ (by decide +kernel) rfl rfl ?_ ?_
      ·refine zg1 ?_
       refine st_nil ?_
       refine any_1 5 _ (by decide +kernel) rfl ?_
       refine zg1 ?_
       refine st_nil ?_
       refine any_1 6 _ (by decide +kernel) rfl ?_
       refine zg1 ?_
       refine st_nil ?_
       refine any_0 (by decide +kernel) ?_
       refine zg2 ?_
       exact retCCT [] rfl rfl rfl (ratE.csize _) (ratL_all _) T29 (.pure (ratE.pure _)) rfl rfl (ratE.csize _) (ratL_all _) T29 (.pure (ratE.pure _)) rfl (.pure rfl)
      ·refine zg1 ?_
       refine st_nil ?_
       refine any_1 3 _ (by decide +kernel) rfl ?_
       refine zg1 ?_
       refine st_nil ?_
       refine any_1 6 _ (by decide +kernel) rfl ?_
       refine zg1 ?_
       refine st_nil ?_
       refine any_0 (by decide +kernel) ?_
       refine zg2 ?_
       exact retCCT [] rfl rfl rfl (ratE.csize _) (ratL_all _) T29 (.pure (ratE.pure _)) rfl rfl (ratE.csize _) (ratL_all _) T29 (.pure (ratE.pure _)) rfl (.pure rfl)
    ·refine zg1 ?_
     refine st_nil ?_
     refine any_2 1 4 _ _ (by decide +kernel) rfl rfl ?_ ?_
     ·refine zg1 ?_
      refine st_nil ?_
      refine any_1 4 _ (by decide +kernel) rfl ?_
      refine zg1 ?_
      refine st_nil ?_
      refine any_1 5 _ (by decide +kernel) rfl ?_
      refine zg1 ?_
      refine st_nil ?_
      refine any_1 6 _ (by decide +kernel) rfl ?_
      refine zg1 ?_
      refine st_nil ?_
      refine any_0 (by decide +kernel) ?_
      refine zg2 ?_
      exact retCCT [] rfl rfl rfl (ratE.csize _) (ratL_all _) T29 (.pure (ratE.pure _)) rfl rfl (ratE.csize _) (ratL_all _) T29 (.pure (ratE.pure _)) rfl (.pure rfl)
     ·refine zg1 ?_
      refine st_nil ?_
      refine any_1 1 _ (by decide +kernel) rfl ?_
      refine zg1 ?_
      refine st_nil ?_
      refine any_1 5 _ (by decide +kernel) rfl ?_
      refine zg1 ?_
      refine st_nil ?_
      refine any_1 6 _ (by decide +kernel) rfl ?_
      refine zg1 ?_
      refine st_nil ?_
      refine any_0 (by decide +kernel) ?_
      refine zg2 ?_
      exact retCCT [] rfl rfl rfl (ratE.csize _) (ratL_all _) T29 (.pure (ratE.pure _)) rfl rfl (ratE.csize _) (ratL_all _) T29 (.pure (ratE.pure _)) rfl (.pure rfl)
    ·refine zg1 ?_
     refine st_nil ?_
     refine any_2 1 3 _ _ (by decide +kernel) rfl rfl ?_ ?_
     ·refine zg1 ?_
      refine st_nil ?_
      refine any_2 3 5 _ _ (by decide +kernel) rfl rfl ?_ ?_
      ·refine zg1 ?_
       refine st_nil ?_
       refine any_1 5 _ (by decide +kernel) rfl ?_
       refine zg1 ?_
       refine st_nil ?_
       refine any_1 6 _ (by decide +kernel) rfl ?_
       refine zg1 ?_
       refine st_nil ?_
       refine any_0 (by decide +kernel) ?_
       refine zg2 ?_
       exact retCCT [] rfl rfl rfl (ratE.csize _) (ratL_all _) T29 (.pure (ratE.pure _)) rfl rfl (ratE.csize _) (ratL_all _) T29 (.pure (ratE.pure _)) rfl (.pure rfl)
      ·refine zg1 ?_
       refine st_nil ?_
       refine any_1 3 _ (by decide +kernel) rfl ?_
       refine zg1 ?_
       refine st_nil ?_
       refine any_1 6 _ (by decide +kernel) rfl ?_
       refine zg1 ?_
       refine st_nil ?_
       refine any_0 (by decide +kernel) ?_
       refine zg2 ?_
       exact retCCT [] rfl rfl rfl (ratE.csize _) (ratL_all _) T29 (.pure (ratE.pure _)) rfl rfl (ratE.csize _) (ratL_all _) T29 (.pure (ratE.pure _)) rfl (.pure rfl)
     ·refine zg1 ?_
      refine st_nil ?_
      refine any_1 1 _ (by decide +kernel) rfl ?_
      refine zg1 ?_
      refine st_nil ?_
      refine any_1 5 _ (by decide +kernel) rfl ?_
      refine zg1 ?_
      refine st_nil ?_
      refine any_1 6 _ (by decide +kernel) rfl ?_
      refine zg1 ?_
      refine st_nil ?_
      refine any_0 (by decide +kernel) ?_
      refine zg2 ?_
      exact retCCT [] rfl rfl rfl (ratE.csize _) (ratL_all _) T29 (.pure (ratE.pure _)) rfl rfl (ratE.csize _) (ratL_all _) T29 (.pure (ratE.pure _)) rfl (.pure rfl)
   ·refine zg1 ?_
    refine st_nil ?_
    refine any_2 1 2 _ _ (by decide +kernel) rfl rfl ?_ ?_
    ·refine zg1 ?_
     refine st_nil ?_
     refine any_2 2 5 _ _ (by decide +kernel) rfl rfl ?_ ?_
     ·refine zg1 ?_
      refine st_nil ?_
      refine any_2 3 5 _ _ (by decide +kernel) rfl rfl ?_ ?_
      ·refine zg1 ?_
       refine st_nil ?_
       refine any_1 5 _ (by decide +kernel) rfl ?_
       refine zg1 ?_
       refine st_nil ?_
       refine any_1 6 _ (by decide +kernel) rfl ?_
       refine zg1 ?_
       refine st_nil ?_
       refine any_0 (by decide +kernel) ?_
       refine zg2 ?_
       exact retCCT [] rfl rfl rfl (ratE.csize _) (ratL_all _) T29 (.pure (ratE.pure _)) rfl rfl (ratE.csize _) (ratL_all _) T29 (.pure (ratE.pure _)) rfl (.pure rfl)
      ·refine zg1 ?_
       refine st_nil ?_
       refine any_1 3 _ (by decide +kernel) rfl ?_
       refine zg1 ?_
       refine st_nil ?_
       refine any_1 6 _ (by decide +kernel) rfl ?_
       refine zg1 ?_
       refine st_nil ?_
       refine any_0 (by decide +kernel) ?_
       refine zg2 ?_
       exact retCCT [] rfl rfl rfl (ratE.csize _) (ratL_all _) T29 (.pure (ratE.pure _)) rfl rfl (ratE.csize _) (ratL_all _) T29 (.pure (ratE.pure _)) rfl (.pure rfl)
     ·refine zg1 ?_
      refine st_nil ?_
      refine any_1 2 _ (by decide +kernel) rfl ?_
      refine zg1 ?_
      refine st_nil ?_
      refine any_1 3 _ (by decide +kernel) rfl ?_
      refine zg1 ?_
      refine st_nil ?_
      refine any_1 6 _ (by decide +kernel) rfl ?_
      refine zg1 ?_
      refine st_nil ?_
      refine any_0 (by decide +kernel) ?_
      refine zg2 ?_
      exact retCCT [] rfl rfl rfl (ratE.csize _) (ratL_all _) T29 (.pure (ratE.pure _)) rfl rfl (ratE.csize _) (ratL_all _) T29 (.pure (ratE.pure _)) rfl (.pure rfl)
    ·refine zg1 ?_
     refine st_nil ?_
     refine any_2 1 3 _ _ (by decide +kernel) rfl rfl ?_ ?_
     ·refine zg1 ?_
      refine st_nil ?_
      refine any_2 3 5 _ _ (by decide +kernel) rfl rfl ?_ ?_
      ·refine zg1 ?_
       refine st_nil ?_
       refine any_1 5 _ (by decide +kernel) rfl ?_
       refine zg1 ?_
       refine st_nil ?_
       refine any_1 6 _ (by decide +kernel) rfl ?_
       refine zg1 ?_
       refine st_nil ?_
       refine any_0 (by decide +kernel) ?_
       refine zg2 ?_
       exact retCCT [] rfl rfl rfl (ratE.csize _) (ratL_all _) T29 (.pure (ratE.pure _)) rfl rfl (ratE.csize _) (ratL_all _) T29 (.pure (ratE.pure _)) rfl (.pure rfl)
      ·refine zg1 ?_
       refine st_nil ?_
       refine any_1 3 _ (by decide +kernel) rfl ?_
       refine zg1 ?_
       refine st_nil ?_
       refine any_1 6 _ (by decide +kernel) rfl ?_
       refine zg1 ?_
       refine st_nil ?_
       refine any_0 (by decide +kernel) ?_
       refine zg2 ?_
       exact retCCT [] rfl rfl rfl (ratE.csize _) (ratL_all _) T29 (.pure (ratE.pure _)) rfl rfl (ratE.csize _) (ratL_all _) T29 (.pure (ratE.pure _)) rfl (.pure rfl)
     ·refine zg1 ?_
      refine st_nil ?_
      refine any_1 1 _ (by decide +kernel) rfl ?_
      refine zg1 ?_
      refine st_nil ?_
      refine any_1 5 _ (by decide +kernel) rfl ?_
      refine zg1 ?_
      refine st_nil ?_
      refine any_1 6 _ (by decide +kernel) rfl ?_
      refine zg1 ?_
      refine st_nil ?_
      refine any_0 (by decide +kernel) ?_
      refine zg2 ?_
      exact retCCT [] rfl rfl rfl (ratE.csize _) (ratL_all _) T29 (.pure (ratE.pure _)) rfl rfl (ratE.csize _) (ratL_all _) T29 (.pure (ratE.pure _)) rfl (.pure rfl)
  ·refine zg1 ?_
   refine st_nil ?_
   refine any_2 0 2 _ _ (by decide +kernel) rfl rfl ?_ ?_
   ·refine zg1 ?_
    refine st_nil ?_
    refine any_2 2 4 _ _ (by decide +kernel) rfl rfl ?_ ?_
    ·refine zg1 ?_
     refine st_nil ?_
     refine any_2 3 4 _ _ (by decide +kernel) rfl rfl ?_ ?_
     ·refine zg1 ?_
      refine st_nil ?_
      refine any_1 4 _ (by decide +kernel) rfl ?_
      refine zg1 ?_
      refine st_nil ?_
      refine any_1 5 _ (by decide +kernel) rfl ?_
      refine zg1 ?_
      refine st_nil ?_
      refine any_1 6 _ (by decide +kernel) rfl ?_
      refine zg1 ?_
      refine st_nil ?_
      refine any_0 (by decide +kernel) ?_
      refine zg2 ?_
      exact retCCT [] rfl rfl rfl (ratE.csize _) (ratL_all _) T29 (.pure (ratE.pure _)) rfl rfl (ratE.csize _) (ratL_all _) T29 (.pure (ratE.pure _)) rfl (.pure rfl)
     ·refine zg1 ?_
      refine st_nil ?_
      refine any_2 3 5 _ _ (by decide +kernel) rfl rfl ?_ ?_
      ·refine zg1 ?_
       refine st_nil ?_
       refine any_1 5 _ (by decide +kernel) rfl ?_
       refine zg1 ?_
       refine st_nil ?_
       refine any_1 6 _ (by decide +kernel) rfl ?_
       refine zg1 ?_
       refine st_nil ?_
       refine any_0 (by decide +kernel) ?_
       refine zg2 ?_
       exact retCCT [] rfl rfl rfl (ratE.csize _) (ratL_all _) T29 (.pure (ratE.pure _)) rfl rfl (ratE.csize _) (ratL_all _) T29 (.pure (ratE.pure _)) rfl (.pure rfl)
      ·refine zg1 ?_
       refine st_nil ?_
       refine any_1 3 _ (by decide +kernel) rfl ?_
       refine zg1 ?_
       refine st_nil ?_
       refine any_1 6 _ (by decide +kernel) rfl ?_
       refine zg1 ?_
       refine st_nil ?_
       refine any_0 (by decide +kernel) ?_
       refine zg2 ?_
       exact retCCT [] rfl rfl rfl (ratE.csize _) (ratL_all _) T29 (.pure (ratE.pure _)) rfl rfl (ratE.csize _) (ratL_all _) T29 (.pure (ratE.pure _)) rfl (.pure rfl)
    ·refine zg1 ?_
     refine st_nil ?_
     refine any_2 2 5 _ _ (by decide +kernel) rfl rfl ?_ ?_
     ·refine zg1 ?_
      refine st_nil ?_
      refine any_2 3 5 _ _ (by decide +kernel) rfl rfl ?_ ?_
      ·refine zg1 ?_
       refine st_nil ?_
       refine any_1 5 _ (by decide +kernel) rfl ?_
       refine zg1 ?_
       refine st_nil ?_
       refine any_1 6 _ (by decide +kernel) rfl ?_
       refine zg1 ?_
       refine st_nil ?_
       refine any_0 (by decide +kernel) ?_
       refine zg2 ?_
       exact retCCT [] rfl rfl rfl (ratE.csize _) (ratL_all _) T29 (.pure (ratE.pure _)) rfl rfl (ratE.csize _) (ratL_all _) T29 (.pure (ratE.pure _)) rfl (.pure rfl)
      ·refine zg1 ?_
       refine st_nil ?_
       refine any_1 3 _ (by decide +kernel) rfl ?_
       refine zg1 ?_
       refine st_nil ?_
       refine any_1 6 _ (by decide +kernel) rfl ?_
       refine zg1 ?_
       refine st_nil ?_
       refine any_0 (by decide +kernel) ?_
       refine zg2 ?_
       exact retCCT [] rfl rfl rfl (ratE.csize _) (ratL_all _) T29 (.pure (ratE.pure _)) rfl rfl (ratE.csize _) (ratL_all _) T29 (.pure (ratE.pure _)) rfl (.pure rfl)
     ·refine zg1 ?_
      refine st_nil ?_
      refine any_1 2 _ (by decide +kernel) rfl ?_
      refine zg1 ?_
      refine st_nil ?_
      refine any_1 3 _ (by decide +kernel) rfl ?_
      refine zg1 ?_
      refine st_nil ?_
      refine any_1 6 _ (by decide +kernel) rfl ?_
      refine zg1 ?_
      refine st_nil ?_
      refine any_0 (by decide +kernel) ?_
      refine zg2 ?_
      exact retCCT [] rfl rfl rfl (ratE.csize _) (ratL_all _) T29 (.pure (ratE.pure _)) rfl rfl (ratE.csize _) (ratL_all _) T29 (.pure (ratE.pure _)) rfl (.pure rfl)
   ·refine zg1 ?_
    refine st_nil ?_
    refine any_2 0 3 _ _ (by decide +kernel) rfl rfl ?_ ?_
    ·refine zg1 ?_
     refine st_nil ?_
     refine any_2 3 4 _ _ (by decide +kernel) rfl rfl ?_ ?_
     ·refine zg1 ?_
      refine st_nil ?_
      refine any_1 4 _ (by decide +kernel) rfl ?_
      refine zg1 ?_
      refine st_nil ?_
      refine any_1 5 _ (by decide +kernel) rfl ?_
      refine zg1 ?_
      refine st_nil ?_
      refine any_1 6 _ (by decide +kernel) rfl ?_
      refine zg1 ?_
      refine st_nil ?_
      refine any_0 (by decide +kernel) ?_
      refine zg2 ?_
      exact retCCT [] rfl rfl rfl (ratE.csize _) (ratL_all _) T29 (.pure (ratE.pure _)) rfl rfl (ratE.csize _) (ratL_all _) T29 (.pure (ratE.pure _)) rfl (.pure rfl)
     ·refine zg1 ?_
      refine st_nil ?_
      refine any_2 3 5 _ _ (by decide +kernel) rfl rfl ?_ ?_
      ·refine zg1 ?_
       refine st_nil ?_
       refine any_1 5 _ (by decide +kernel) rfl ?_
       refine zg1 ?_
       refine st_nil ?_
       refine any_1 6 _ (by decide +kernel) rfl ?_
       refine zg1 ?_
       refine st_nil ?_
       refine any_0 (by decide +kernel) ?_
       refine zg2 ?_
       exact retCCT [] rfl rfl rfl (ratE.csize _) (ratL_all _) T29 (.pure (ratE.pure _)) rfl rfl (ratE.csize _) (ratL_all _) T29 (.pure (ratE.pure _)) rfl (.pure rfl)
      ·refine zg1 ?_
       refine st_nil ?_
       refine any_1 3 _ (by decide +kernel) rfl ?_
       refine zg1 ?_
       refine st_nil ?_
       refine any_1 6 _ (by decide +kernel) rfl ?_
       refine zg1 ?_
       refine st_nil ?_
       refine any_0 (by decide +kernel) ?_
       refine zg2 ?_
       exact retCCT [] rfl rfl rfl (ratE.csize _) (ratL_all _) T29 (.pure (ratE.pure _)) rfl rfl (ratE.csize _) (ratL_all _) T29 (.pure (ratE.pure _)) rfl (.pure rfl)
    ·refine zg1 ?_
     refine st_nil ?_
     refine any_1 0 _ (by decide +kernel) rfl ?_
     refine zg1 ?_
     refine st_nil ?_
     refine any_1 4 _ (by decide +kernel) rfl ?_
     refine zg1 ?_
     refine st_nil ?_
     refine any_1 5 _ (by decide +kernel) rfl ?_
     refine zg1 ?_
     refine st_nil ?_
     refine any_1 6 _ (by decide +kernel) rfl ?_
     refine zg1 ?_
     refine st_nil ?_
     refine any_0 (by decide +kernel) ?_
     refine zg2 ?_
     exact retCCT [] rfl rfl rfl (ratE.csize _) (ratL_all _) T29 (.pure (ratE.pure _)) rfl rfl (ratE.csize _) (ratL_all _) T29 (.pure (ratE.pure _)) rfl (.pure rfl)
  ·refine zg1 ?_
   refine st_nil ?_
   refine any_3 0 1 3 _ _ _ (by decide +kernel) rfl rfl rfl ?_ ?_ ?_
   ·refine zg1 ?_
    refine st_nil ?_
    refine any_3 1 3 4 _ _ _ (by decide +kernel) rfl rfl rfl ?_ ?_ ?_
    ·refine zg1 ?_
     refine st_nil ?_
     refine any_2 3 4 _ _ (by decide +kernel) rfl rfl ?_ ?_
     ·refine zg1 ?_
      refine st_nil ?_
      refine any_1 4 _ (by decide +kernel) rfl ?_
      refine zg1 ?_
      refine st_nil ?_
      refine any_1 5 _ (by decide +kernel) rfl ?_
      refine zg1 ?_
      refine st_nil ?_
      refine any_1 6 _ (by decide +kernel) rfl ?_
      refine zg1 ?_
      refine st_nil ?_
      refine any_0 (by decide +kernel) ?_
      refine zg2 ?_
      exact retCCT [] rfl rfl rfl (ratE.csize _) (ratL_all _) T29 (.pure (ratE.pure _)) rfl rfl (ratE.csize _) (ratL_all _) T29 (.pure (ratE.pure _)) rfl (.pure rfl)
     ·refine zg1 ?_
      refine st_nil ?_
      refine any_2 3 5 _ _ (by decide +kernel) rfl rfl ?_ ?_
      ·refine zg1 ?_
       refine st_nil ?_
       refine any_1 5 _ (by decide +kernel) rfl ?_
       refine zg1 ?_
       refine st_nil ?_
       refine any_1 6 _ (by decide +kernel) rfl ?_
       refine zg1 ?_
       refine st_nil ?_
       refine any_0 (by decide +kernel) ?_
       refine zg2 ?_
       exact retCCT [] rfl rfl rfl (ratE.csize _) (ratL_all _) T29 (.pure (ratE.pure _)) rfl rfl (ratE.csize _) (ratL_all _) T29 (.pure (ratE.pure _)) rfl (.pure rfl)
      ·refine zg1 ?_
       refine st_nil ?_
       refine any_1 3 _ (by decide +kernel) rfl ?_
       refine zg1 ?_
       refine st_nil ?_
       refine any_1 6 _ (by decide +kernel) rfl ?_
       refine zg1 ?_
       refine st_nil ?_
       refine any_0 (by decide +kernel) ?_
       refine zg2 ?_
       exact retCCT [] rfl rfl rfl (ratE.csize _) (ratL_all _) T29 (.pure (ratE.pure _)) rfl rfl (ratE.csize _) (ratL_all _) T29 (.pure (ratE.pure _)) rfl (.pure rfl)
    ·refine zg1 ?_
     refine st_nil ?_
     refine any_2 1 4 _ _ (by decide +kernel) rfl rfl ?_ ?_
     ·refine zg1 ?_
      refine st_nil ?_
      refine any_1 4 _ (by decide +kernel) rfl ?_
      refine zg1 ?_
      refine st_nil ?_
      refine any_1 5 _ (by decide +kernel) rfl ?_
      refine zg1 ?_
      refine st_nil ?_
      refine any_1 6 _ (by decide +kernel) rfl ?_
      refine zg1 ?_
      refine st_nil ?_
      refine any_0 (by decide +kernel) ?_
      refine zg2 ?_
      exact retCCT [] rfl rfl rfl (ratE.csize _) (ratL_all _) T29 (.pure (ratE.pure _)) rfl rfl (ratE.csize _) (ratL_all _) T29 (.pure (ratE.pure _)) rfl (.pure rfl)
     ·refine zg1 ?_
      refine st_nil ?_
      refine any_1 1 _ (by decide +kernel) rfl ?_
      refine zg1 ?_
      refine st_nil ?_
      refine any_1 5 _ (by decide +kernel) rfl ?_
      refine zg1 ?_
      refine st_nil ?_
      refine any_1 6 _ (by decide +kernel) rfl ?_
      refine zg1 ?_
      refine st_nil ?_
      refine any_0 (by decide +kernel) ?_
      refine zg2 ?_
      exact retCCT [] rfl rfl rfl (ratE.csize _) (ratL_all _) T29 (.pure (ratE.pure _)) rfl rfl (ratE.csize _) (ratL_all _) T29 (.pure (ratE.pure _)) rfl (.pure rfl)
    ·refine zg1 ?_
     refine st_nil ?_
     refine any_2 1 3 _ _ (by decide +kernel) rfl rfl ?_ ?_
     ·refine zg1 ?_
      refine st_nil ?_
      refine any_2 3 5 _ _ (by decide +kernel) rfl rfl ?_ ?_
      ·refine zg1 ?_
       refine st_nil ?_
       refine any_1 5 _ (by decide +kernel) rfl ?_
       refine zg1 ?_
       refine st_nil ?_
       refine any_1 6 _ (by decide +kernel) rfl ?_
       refine zg1 ?_
       refine st_nil ?_
       refine any_0 (by decide +kernel) ?_
       refine zg2 ?_
       exact retCCT [] rfl rfl rfl (ratE.csize _) (ratL_all _) T29 (.pure (ratE.pure _)) rfl rfl (ratE.csize _) (ratL_all _) T29 (.pure (ratE.pure _)) rfl (.pure rfl)
      ·refine zg1 ?_
       refine st_nil ?_
       refine any_1 3 _ (by decide +kernel) rfl ?_
       refine zg1 ?_
       refine st_nil ?_
       refine any_1 6 _ (by decide +kernel) rfl ?_
       refine zg1 ?_
       refine st_nil ?_
       refine any_0 (by decide +kernel) ?_
       refine zg2 ?_
       exact retCCT [] rfl rfl rfl (ratE.csize _) (ratL_all _) T29 (.pure (ratE.pure _)) rfl rfl (ratE.csize _) (ratL_all _) T29 (.pure (ratE.pure _)) rfl (.pure rfl)
     ·refine zg1 ?_
      refine st_nil ?_
      refine any_1 1 _ (by decide +kernel) rfl ?_
      refine zg1 ?_
      refine st_nil ?_
      refine any_1 5 _ (by decide +kernel) rfl ?_
      refine zg1 ?_
      refine st_nil ?_
      refine any_1 6 _ (by decide +kernel) rfl ?_
      refine zg1 ?_
      refine st_nil ?_
      refine any_0 (by decide +kernel) ?_
      refine zg2 ?_
      exact retCCT [] rfl rfl rfl (ratE.csize _) (ratL_all _) T29 (.pure (ratE.pure _)) rfl rfl (ratE.csize _) (ratL_all _) T29 (.pure (ratE.pure _)) rfl (.pure rfl)
   ·refine zg1 ?_
    refine st_nil ?_
    refine any_2 0 3 _ _ (by decide +kernel) rfl rfl ?_ ?_
    ·refine zg1 ?_
     refine st_nil ?_
     refine any_2 3 4 _ _ (by decide +kernel) rfl rfl ?_ ?_
     ·refine zg1 ?_
      refine st_nil ?_
      refine any_1 4 _ (by decide +kernel) rfl ?_
      refine zg1 ?_
      refine st_nil ?_
      refine any_1 5 _ (by decide +kernel) rfl ?_
      refine zg1 ?_
      refine st_nil ?_
      refine any_1 6 _ (by decide +kernel) rfl ?_
      refine zg1 ?_
      refine st_nil ?_
      refine any_0 (by decide +kernel) ?_
      refine zg2 ?_
      exact retCCT [] rfl rfl rfl (ratE.csize _) (ratL_all _) T29 (.pure (ratE.pure _)) rfl rfl (ratE.csize _) (ratL_all _) T29 (.pure (ratE.pure _)) rfl (.pure rfl)
     ·refine zg1 ?_
      refine st_nil ?_
      refine any_2 3 5 _ _ (by decide +kernel) rfl rfl ?_ ?_
      ·refine zg1 ?_
       refine st_nil ?_
       refine any_1 5 _ (by decide +kernel) rfl ?_
       refine zg1 ?_
       refine st_nil ?_
       refine any_1 6 _ (by decide +kernel) rfl ?_
       refine zg1 ?_
       refine st_nil ?_
       refine any_0 (by decide +kernel) ?_
       refine zg2 ?_
       exact retCCT [] rfl rfl rfl (ratE.csize _) (ratL_all _) T29 (.pure (ratE.pure _)) rfl rfl (ratE.csize _) (ratL_all _) T29 (.pure (ratE.pure _)) rfl (.pure rfl)
      ·refine zg1 ?_
       refine st_nil ?_
       refine any_1 3 _ (by decide +kernel) rfl ?_
       refine zg1 ?_
       refine st_nil ?_
       refine any_1 6 _ (by decide +kernel) rfl ?_
       refine zg1 ?_
       refine st_nil ?_
       refine any_0 (by decide +kernel) ?_
       refine zg2 ?_
       exact retCCT [] rfl rfl rfl (ratE.csize _) (ratL_all _) T29 (.pure (ratE.pure _)) rfl rfl (ratE.csize _) (ratL_all _) T29 (.pure (ratE.pure _)) rfl (.pure rfl)
    ·refine zg1 ?_
     refine st_nil ?_
     refine any_1 0 _ (by decide +kernel) rfl ?_
     refine zg1 ?_
     refine st_nil ?_
     refine any_1 4 _ (by decide +kernel) rfl ?_
     refine zg1 ?_
     refine st_nil ?_
     refine any_1 5 _ (by decide +kernel) rfl ?_
     refine zg1 ?_
     refine st_nil ?_
     refine any_1 6 _ (by decide +kernel) rfl ?_
     refine zg1 ?_
     refine st_nil ?_
     refine any_0 (by decide +kernel) ?_
     refine zg2 ?_
     exact retCCT [] rfl rfl rfl (ratE.csize _) (ratL_all _) T29 (.pure (ratE.pure _)) rfl rfl (ratE.csize _) (ratL_all _) T29 (.pure (ratE.pure _)) rfl (.pure rfl)
   ·refine zg1 ?_
    refine st_nil ?_
    refine any_2 0 1 _ _ (by decide +kernel) rfl rfl ?_ ?_
    ·refine zg1 ?_
     refine st_nil ?_
     refine any_2 1 4 _ _ (by decide +kernel) rfl rfl ?_ ?_
     ·refine zg1 ?_
      refine st_nil ?_
      refine any_1 4 _ (by decide +kernel) rfl ?_
      refine zg1 ?_
      refine st_nil ?_
      refine any_1 5 _ (by decide +kernel) rfl ?_
      refine zg1 ?_
      refine st_nil ?_
      refine any_1 6 _ (by decide +kernel) rfl ?_
      refine zg1 ?_
      refine st_nil ?_
      refine any_0 (by decide +kernel) ?_
      refine zg2 ?_
      exact retCCT [] rfl rfl rfl (ratE.csize _) (ratL_all _) T29 (.pure (ratE.pure _)) rfl rfl (ratE.csize _) (ratL_all _) T29 (.pure (ratE.pure _)) rfl (.pure rfl)
     ·refine zg1 ?_
      refine st_nil ?_
      refine any_1 1 _ (by decide +kernel) rfl ?_
      refine zg1 ?_
      refine st_nil ?_
      refine any_1 5 _ (by decide +kernel) rfl ?_
      refine zg1 ?_
      refine st_nil ?_
      refine any_1 6 _ (by decide +kernel) rfl ?_
      refine zg1 ?_
      refine st_nil ?_
      refine any_0 (by decide +kernel) ?_
      refine zg2 ?_
      exact retCCT [] rfl rfl rfl (ratE.csize _) (ratL_all _) T29 (.pure (ratE.pure _)) rfl rfl (ratE.csize _) (ratL_all _) T29 (.pure (ratE.pure _)) rfl (.pure rfl)
    ·refine zg1 ?_
     refine st_nil ?_
     refine any_1 0 _ (by decide +kernel) rfl ?_
     refine zg1 ?_
     refine st_nil ?_
     refine any_1 4 _ (by decide +kernel) rfl ?_
     refine zg1 ?_
     refine st_nil ?_
     refine any_1 5 _ (by decide +kernel) rfl ?_
     refine zg1 ?_
     refine st_nil ?_
     refine any_1 6 _ (by decide +kernel) rfl ?_
     refine zg1 ?_
     refine st_nil ?_
     refine any_0 (by decide +kernel) ?_
     refine zg2 ?_
     exact retCCT [] rfl rfl rfl (ratE.csize _) (ratL_all _) T29 (.pure (ratE.pure _)) rfl rfl (ratE.csize _) (ratL_all _) T29 (.pure (ratE.pure _)) rfl (.pure rfl)
def v3x (p q:V3):V3:=⟨p.y*q.z-p.z*q.y,p.z*q.x-p.x*q.z,p.x*q.y-p.y*q.x⟩
theorem v3x_bd {R:Nat} {p q:V3} (hp:bd3 R p) (hq:bd3 R q):bd3 (4*R+5) (v3x p q):=by
 obtain⟨a1,a2,a3⟩:=hp
 obtain⟨b1,b2,b3⟩:=hq
 have g:∀ a b c d:Rat,rl a≤R→rl b≤R→rl c≤R→rl d≤R→rl (a*b-c*d)≤4*R+5:=fun a b c d h1 h2 h3 h4=>by
  have m1:=rl_mul a b
  have m2:=rl_mul c d
  have m3:=rl_sub (a*b) (c*d)
  omega
 exact⟨g _ _ _ _ a2 b3 a3 b2,g _ _ _ _ a3 b1 a1 b3,g _ _ _ _ a1 b2 a2 b1⟩
namespace H_c_VCross
theorem zSm {p q:Prop} (k:q) (e:p=q:=by simp only [e1,e2,e3,e4,p1,p2,p3,q1,q2,q3,l1,t0,t1,r1,r2,r3,r4,Nat.zero_add,Nat.reduceMul,Nat.reduceAdd,b1,b2,b3,b4,b5,b6,i1,i2,i3,i4,i5,i6,Nat.reduceBEq,List.set_cons_zero,List.set_cons_succ,Nat.reduceEqDiff,reduceIte,if_true,if_false,ptL_kill,poL_kill,kills_map ptE,kills_map poE,kills_map ratE,ratL_kill,spL_kill,LV.kill,kills];exact rfl):p:=e.mpr k
end H_c_VCross
open H_c_VCross in
theorem c_VCross (p q:V3) (R:Nat) (hR:R≤1000000000) (hp:bd3 R p) (hq:bd3 R q):CallP Tryz.prog 63 [ptL p,ptL q] (ptL (v3x p q)):=by
 obtain⟨a1,a2,a3⟩:=hp
 obtain⟨y1,y2,y3⟩:=hq
 have m01:=rl_mul p.x q.y
 have m02:=rl_mul p.x q.z
 have m10:=rl_mul p.y q.x
 have m12:=rl_mul p.y q.z
 have m20:=rl_mul p.z q.x
 have m21:=rl_mul p.z q.y
 refine fnP Tryz.func63 (ht:=(fun r=>LV.ren_pure r _ (ptE.pure _))) ?_
 refine zg19 ?_
 refine wl_unroll ?_
 refine zg6 ?_
 refine wl_condX (b:=_) rfl (by decide) ?_
 refine zg13 ?_
 refine st_pure rfl (.bin rfl rfl (show binI .add .i64 0 1=some (.int .i64 ((1:Nat):Int)) from rfl)) ?_
 refine st_pure rfl (.bin rfl rfl (show binI .rem .i64 1 3=some (.int .i64 ((1:Nat):Int)) from rfl)) ?_
 refine zg1 ?_
 refine st_pure rfl (.bin rfl rfl (show binI .add .i64 0 2=some (.int .i64 ((2:Nat):Int)) from rfl)) ?_
 refine st_pure rfl (.bin rfl rfl (show binI .rem .i64 2 3=some (.int .i64 ((2:Nat):Int)) from rfl)) ?_
 refine zg4 ?_
 refine wl_regD 17 (by decide +kernel) ?_
 refine zg7 ?_
 refine cp am2 (c_RMul p.y q.z (by omega)) ?_
 refine zg6 ?_
 refine cp am2 (c_RMul p.z q.y (by omega)) ?_
 refine cp am2 (c_RSub (p.y*q.z) (p.z*q.y) (by omega)) ?_
 refine zg10 ?_
 refine wl_unroll ?_
 refine zg6 ?_
 refine wl_condX (b:=_) rfl (by decide) ?_
 refine zg13 ?_
 refine st_pure rfl (.bin rfl rfl (show binI .add .i64 1 1=some (.int .i64 ((2:Nat):Int)) from rfl)) ?_
 refine st_pure rfl (.bin rfl rfl (show binI .rem .i64 2 3=some (.int .i64 ((2:Nat):Int)) from rfl)) ?_
 refine zg1 ?_
 refine st_pure rfl (.bin rfl rfl (show binI .add .i64 1 2=some (.int .i64 ((3:Nat):Int)) from rfl)) ?_
 refine st_pure rfl (.bin rfl rfl (show binI .rem .i64 3 3=some (.int .i64 ((0:Nat):Int)) from rfl)) ?_
 refine zg4 ?_
 refine wl_regD 17 (by decide +kernel) ?_
 refine zg7 ?_
 refine cp am2 (c_RMul p.z q.x (by omega)) ?_
 refine zg6 ?_
 refine cp am2 (c_RMul p.x q.z (by omega)) ?_
 refine cp am2 (c_RSub (p.z*q.x) (p.x*q.z) (by omega)) ?_
 refine zg10 ?_
 refine wl_unroll ?_
 refine zg6 ?_
 refine wl_condX (b:=_) rfl (by decide) ?_
 refine zg13 ?_
 refine st_pure rfl (.bin rfl rfl (show binI .add .i64 2 1=some (.int .i64 ((3:Nat):Int)) from rfl)) ?_
 refine st_pure rfl (.bin rfl rfl (show binI .rem .i64 3 3=some (.int .i64 ((0:Nat):Int)) from rfl)) ?_
 refine zg1 ?_
 refine st_pure rfl (.bin rfl rfl (show binI .add .i64 2 2=some (.int .i64 ((4:Nat):Int)) from rfl)) ?_
 refine st_pure rfl (.bin rfl rfl (show binI .rem .i64 4 3=some (.int .i64 ((1:Nat):Int)) from rfl)) ?_
 refine zg4 ?_
 refine wl_regD 17 (by decide +kernel) ?_
 refine zg7 ?_
 refine cp am2 (c_RMul p.x q.y (by omega)) ?_
 refine zg6 ?_
 refine cp am2 (c_RMul p.y q.x (by omega)) ?_
 refine cp am2 (c_RSub (p.x*q.y) (p.y*q.x) (by omega)) ?_
 refine zg10 ?_
 refine wl_unroll ?_
 refine zg6 ?_
 refine wl_condY (b:=_) rfl (by decide) ?_
 refine zg12 ?_
 exact retC [] rfl rfl rfl cs (at_all cs rfl) T31 (.pure pu)
theorem sq_le3 {a b:Nat} (ha:a≤3) (hb:b≤3):(a+1)*(b+1)≤16:=Nat.le_trans (Nat.mul_le_mul (show a+1≤4 by omega) (show b+1≤4 by omega)) (by decide)
theorem pk_le {a b c d x:Nat} (ha:a≤3) (hb:b≤3) (hc:c≤3) (hd:d≤3):(a+1)*((b+1)*((c+1)*((d+1)*x)))≤256*x:=by
 have h1:(d+1)*x≤4*x:=Nat.mul_le_mul_right _ (by omega)
 have h2:(c+1)*((d+1)*x)≤4*(4*x):=Nat.mul_le_mul (by omega) h1
 have h3:(b+1)*((c+1)*((d+1)*x))≤4*(4*(4*x)):=Nat.mul_le_mul (by omega) h2
 have h4:(a+1)*((b+1)*((c+1)*((d+1)*x)))≤4*(4*(4*(4*x))):=Nat.mul_le_mul (by omega) h3
 omega
namespace H_c_prod13
theorem zSm {p q:Prop} (k:q) (e:p=q:=by simp only [e1,e2,e3,e4,p1,p2,p3,q1,q2,q3,l1,t0,t1,r1,r2,r3,r4,Nat.zero_add,Nat.reduceMul,Nat.reduceAdd,b1,b2,b3,b4,b5,b6,i1,i2,i3,i4,i5,i6,Nat.reduceBEq,List.set_cons_zero,List.set_cons_succ,Nat.reduceEqDiff,reduceIte,if_true,if_false,ptL_kill,poL_kill,kills_map ptE,kills_map poE,kills_map ratE,ratL_kill,spL_kill,LV.kill,kills];exact rfl):p:=e.mpr k
end H_c_prod13
open H_c_prod13 in
theorem c_prod13 (U1 V1 U2 V2:Nat) (a b:List Rat) (ha:a.length=(U1+1)*(V1+1)) (hb:b.length=(U2+1)*(V2+1)) (hU1:U1≤3) (hV1:V1≤3) (hU2:U2≤3) (hV2:V2≤3) (S:Nat) (hS1:1≤S) (hS:S≤1000000) (haR:∀ x∈a,rl x≤S) (hbR:∀ x∈b,rl x≤S):CallP Tryz.prog 142 [.agg [nI64 U1,nI64 V1,.list 3 (a.map ratL)],.agg [nI64 U2,nI64 V2,.list 3 (b.map ratL)]] (.agg [nI64 (U1+U2),nI64 (V1+V2),.list 3 ((tmL U1 V1 U2 V2 a b).map ratL)]):=by
 have hal:=sq_le3 hU1 hV1
 have hbl:=sq_le3 hU2 hV2
 have hn1:=net_pureN U1 V1 a
 have hn2:=net_pureN U2 V2 b
 have hpk:=pk_le (x:=2*S+14) hU1 hV1 hU2 hV2
 have hn3:=net_pureN (U1+U2) (V1+V2) (tmL U1 V1 U2 V2 a b)
 refine fnP Tryz.func142 (ht:=(fun g=>LV.ren_pure g _ (net_pureN _ _ _))) ?_
 refine zg11 ?_
 refine cp am2 (c_TMulK U1 V1 U2 V2 a b ha hb (by omega) (by omega) (by omega) (by omega) S hS1 hS (by omega) haR hbR) ?_
 refine zg15 ?_
 exact retC [] rfl rfl rfl rfl rfl T64 (.pure (net_pureN _ _ _))
theorem c_tSub13 (U V:Nat) (a b:List Rat) (hU:U≤40) (hV:V≤40) (ha:a.length=(U+1)*(V+1)) (hb:b.length=(U+1)*(V+1)) (haR:∀ x∈a,rl x≤500000000) (hbR:∀ x∈b,rl x≤500000000):CallP Tryz.prog 141 [.agg [nI64 U,nI64 V,.list 3 (a.map ratL)],.agg [nI64 U,nI64 V,.list 3 (b.map ratL)]] (.agg [nI64 U,nI64 V,.list 3 ((zipG (·-·) a b).map ratL)]):=by
 have:=c_TSub U V U V a b U V (upH_same ha hU hV fun x hx=>by have:=haR x hx;omega) (upH_same hb hU hV fun x hx=>by have:=hbR x hx;omega) (.inl rfl) (.inl rfl)
 rwa [upN_self ha,upN_self hb] at this
namespace H_c_turns13
theorem zSm {p q:Prop} (k:q) (e:p=q:=by simp only [e1,e2,e3,e4,p1,p2,p3,q1,q2,q3,l1,t0,t1,r1,r2,r3,r4,Nat.zero_add,Nat.reduceMul,Nat.reduceAdd,b1,b2,b3,b4,b5,b6,i1,i2,i3,i4,i5,i6,Nat.reduceBEq,frz_nil,prL_kill,kills_map prE,dfr,dfq,take_map_len,map_snoc,len_snoc,List.length_cons,List.length_nil,List.nil_append,List.map_nil,List.take_nil,List.append_nil,List.set_cons_zero,List.set_cons_succ,Nat.reduceEqDiff,reduceIte,if_true,if_false,ptL_kill,poL_kill,kills_map ptE,kills_map poE,kills_map ratE,ratL_kill,spL_kill,LV.kill,kills];exact rfl):p:=e.mpr k
end H_c_turns13
open H_c_turns13 in
theorem c_turns13 (R U V Ud Vd:Nat) (kU kV:List Rat) (rows:List (List PoR)) (h:pf R U V rows) (hR:R≤200000) (D:List Rat→List Rat) (hd:dfS U V Ud Vd D) (f:Nat) (hf:∀ c:List Rat,c.length=(U+1)*(V+1)→(∀ x∈c,rl x≤2*R)→CallP Tryz.prog f [.agg [nI64 U,nI64 V,.list 3 (c.map ratL)]] (.agg [nI64 Ud,nI64 Vd,.list 3 ((D c).map ratL)])):CallP Tryz.prog 71 [.agg [nI64 U,nI64 V,.list 3 (kU.map ratL),.list 3 (kV.map ratL),.list 1 (rows.map prL)],.clo f []] (.agg [.agg [nI64 (Ud+U),nI64 (Vd+V),.list 3 ((sgN U V Ud Vd D rows.flatten 0).map ratL)],.agg [nI64 (Ud+U),nI64 (Vd+V),.list 3 ((sgN U V Ud Vd D rows.flatten 1).map ratL)],.agg [nI64 (Ud+U),nI64 (Vd+V),.list 3 ((sgN U V Ud Vd D rows.flatten 2).map ratL)]]):=by
 have hsp:LV.pure (.agg [nI64 U,nI64 V,.list 3 (kU.map ratL),.list 3 (kV.map ratL),.list 1 (rows.map prL)])=true:=by simp [LV.pure,pures,pures_map ratE,pures_map prE]
 have hr1:=h.r1
 have hu3:=h.u3
 have hv3:=h.v3
 have hud:=hd.u
 have hvd:=hd.v
 have hwl:=h.wl
 have hdw:=hd.l _ hwl
 have hwr:=h.wr
 have hdwr:=hd.r _ _ hr1 hwl hwr
 have hpw:=net_pureN U V (wtP rows.flatten)
 have hpdw:=net_pureN Ud Vd (D (wtP rows.flatten))
 have hnl0:=h.nl 0
 have hdn0:=hd.l _ hnl0
 have hnr0:=h.nr 0
 have hdnr0:=hd.r _ _ (show 1≤2*R by omega) hnl0 hnr0
 have hpn0:=net_pureN U V (nmP rows.flatten 0)
 have hpd0:=net_pureN Ud Vd (D (nmP rows.flatten 0))
 have hpa0:=net_pureN (Ud+U) (Vd+V) (tmL Ud Vd U V (D (nmP rows.flatten 0)) (wtP rows.flatten))
 have hpb0:=net_pureN (Ud+U) (Vd+V) (tmL U V Ud Vd (nmP rows.flatten 0) (D (wtP rows.flatten)))
 have hps0:=net_pureN (Ud+U) (Vd+V) (sgN U V Ud Vd D rows.flatten 0)
 obtain⟨hal0,har0⟩:=sg_m1 h hd 0
 obtain⟨hbl0,hbr0⟩:=sg_m2 h hd 0
 have hA0:=c_prod13 Ud Vd U V (D (nmP rows.flatten 0)) (wtP rows.flatten) hdn0 hwl hud hvd hu3 hv3 (4*R+4) (by omega) (by omega) (fun x hx=>by have:=hdnr0 x hx;omega) (fun x hx=>by have:=hwr x hx;omega)
 have hB0:=c_prod13 U V Ud Vd (nmP rows.flatten 0) (D (wtP rows.flatten)) hnl0 hdw hu3 hv3 hud hvd (4*R+4) (by omega) (by omega) (fun x hx=>by have:=hnr0 x hx;omega) (fun x hx=>by have:=hdwr x hx;omega)
 rw [Nat.add_comm U Ud,Nat.add_comm V Vd] at hB0
 have hS0:=c_tSub13 (Ud+U) (Vd+V) (tmL Ud Vd U V (D (nmP rows.flatten 0)) (wtP rows.flatten)) (tmL U V Ud Vd (nmP rows.flatten 0) (D (wtP rows.flatten))) (by omega) (by omega) hal0 hbl0 (fun x hx=>by have:=har0 x hx;omega) (fun x hx=>by have:=hbr0 x hx;omega)
 have hnl1:=h.nl 1
 have hdn1:=hd.l _ hnl1
 have hnr1:=h.nr 1
 have hdnr1:=hd.r _ _ (show 1≤2*R by omega) hnl1 hnr1
 have hpn1:=net_pureN U V (nmP rows.flatten 1)
 have hpd1:=net_pureN Ud Vd (D (nmP rows.flatten 1))
 have hpa1:=net_pureN (Ud+U) (Vd+V) (tmL Ud Vd U V (D (nmP rows.flatten 1)) (wtP rows.flatten))
 have hpb1:=net_pureN (Ud+U) (Vd+V) (tmL U V Ud Vd (nmP rows.flatten 1) (D (wtP rows.flatten)))
 have hps1:=net_pureN (Ud+U) (Vd+V) (sgN U V Ud Vd D rows.flatten 1)
 obtain⟨hal1,har1⟩:=sg_m1 h hd 1
 obtain⟨hbl1,hbr1⟩:=sg_m2 h hd 1
 have hA1:=c_prod13 Ud Vd U V (D (nmP rows.flatten 1)) (wtP rows.flatten) hdn1 hwl hud hvd hu3 hv3 (4*R+4) (by omega) (by omega) (fun x hx=>by have:=hdnr1 x hx;omega) (fun x hx=>by have:=hwr x hx;omega)
 have hB1:=c_prod13 U V Ud Vd (nmP rows.flatten 1) (D (wtP rows.flatten)) hnl1 hdw hu3 hv3 hud hvd (4*R+4) (by omega) (by omega) (fun x hx=>by have:=hnr1 x hx;omega) (fun x hx=>by have:=hdwr x hx;omega)
 rw [Nat.add_comm U Ud,Nat.add_comm V Vd] at hB1
 have hS1:=c_tSub13 (Ud+U) (Vd+V) (tmL Ud Vd U V (D (nmP rows.flatten 1)) (wtP rows.flatten)) (tmL U V Ud Vd (nmP rows.flatten 1) (D (wtP rows.flatten))) (by omega) (by omega) hal1 hbl1 (fun x hx=>by have:=har1 x hx;omega) (fun x hx=>by have:=hbr1 x hx;omega)
 have hnl2:=h.nl 2
 have hdn2:=hd.l _ hnl2
 have hnr2:=h.nr 2
 have hdnr2:=hd.r _ _ (show 1≤2*R by omega) hnl2 hnr2
 have hpn2:=net_pureN U V (nmP rows.flatten 2)
 have hpd2:=net_pureN Ud Vd (D (nmP rows.flatten 2))
 have hpa2:=net_pureN (Ud+U) (Vd+V) (tmL Ud Vd U V (D (nmP rows.flatten 2)) (wtP rows.flatten))
 have hpb2:=net_pureN (Ud+U) (Vd+V) (tmL U V Ud Vd (nmP rows.flatten 2) (D (wtP rows.flatten)))
 have hps2:=net_pureN (Ud+U) (Vd+V) (sgN U V Ud Vd D rows.flatten 2)
 obtain⟨hal2,har2⟩:=sg_m1 h hd 2
 obtain⟨hbl2,hbr2⟩:=sg_m2 h hd 2
 have hA2:=c_prod13 Ud Vd U V (D (nmP rows.flatten 2)) (wtP rows.flatten) hdn2 hwl hud hvd hu3 hv3 (4*R+4) (by omega) (by omega) (fun x hx=>by have:=hdnr2 x hx;omega) (fun x hx=>by have:=hwr x hx;omega)
 have hB2:=c_prod13 U V Ud Vd (nmP rows.flatten 2) (D (wtP rows.flatten)) hnl2 hdw hu3 hv3 hud hvd (4*R+4) (by omega) (by omega) (fun x hx=>by have:=hnr2 x hx;omega) (fun x hx=>by have:=hdwr x hx;omega)
 rw [Nat.add_comm U Ud,Nat.add_comm V Vd] at hB2
 have hS2:=c_tSub13 (Ud+U) (Vd+V) (tmL Ud Vd U V (D (nmP rows.flatten 2)) (wtP rows.flatten)) (tmL U V Ud Vd (nmP rows.flatten 2) (D (wtP rows.flatten))) (by omega) (by omega) hal2 hbl2 (fun x hx=>by have:=har2 x hx;omega) (fun x hx=>by have:=hbr2 x hx;omega)
 have hfw:=hf (wtP rows.flatten) hwl (fun x hx=>by have:=hwr x hx;omega)
 have hf0:=hf (nmP rows.flatten 0) hnl0 hnr0
 have hf1:=hf (nmP rows.flatten 1) hnl1 hnr1
 have hf2:=hf (nmP rows.flatten 2) hnl2 hnr2
 refine fnP Tryz.func71 (ht:=(fun g=>LV.ren_pure g _ (by simp [LV.pure,pures,pures_map ratE]))) ?_
 refine zg9 ?_
 refine cp am1 (c_PNum U V kU kV rows (by omega) (by omega) R (by omega) h.rw) ?_
 refine zg9 ?_
 refine st_opc [] rfl rfl (.clo (f:=f) (cap:=[]) (args:=[.agg [nI64 U,nI64 V,.list 3 ((wtP rows.flatten).map ratL)]]) rfl (.cons im0 .nil) ⟨rfl,fun _ h=>by cases h⟩ hfw.1 (by decide) (fun _ h=>by cases h)) (hfw.2 _) ?_
 refine zg16 ?_
 refine wl_unroll ?_
 refine zg6 ?_
 refine wl_condX (b:=_) rfl (by decide) ?_
 refine zg10 ?_
 refine wl_regD 16 (by decide +kernel) ?_
 refine zg5 ?_
 refine st_opc [] rfl rfl (.clo (f:=f) (cap:=[]) (args:=[.agg [nI64 U,nI64 V,.list 3 ((nmP rows.flatten 0).map ratL)]]) rfl (.cons im0 .nil) ⟨rfl,fun _ h=>by cases h⟩ hf0.1 (by decide) (fun _ h=>by cases h)) (hf0.2 _) ?_
 refine zg2 ?_
 refine cp am2 (hA0) ?_
 refine zg4 ?_
 refine cp am2 (hB0) ?_
 refine cp am2 (hS0) ?_
 refine zg10 ?_
 refine wl_unroll ?_
 refine zg6 ?_
 refine wl_condX (b:=_) rfl (by decide) ?_
 refine zg10 ?_
 refine wl_regD 16 (by decide +kernel) ?_
 refine zg5 ?_
 refine st_opc [] rfl rfl (.clo (f:=f) (cap:=[]) (args:=[.agg [nI64 U,nI64 V,.list 3 ((nmP rows.flatten 1).map ratL)]]) rfl (.cons im0 .nil) ⟨rfl,fun _ h=>by cases h⟩ hf1.1 (by decide) (fun _ h=>by cases h)) (hf1.2 _) ?_
 refine zg2 ?_
 refine cp am2 (hA1) ?_
 refine zg4 ?_
 refine cp am2 (hB1) ?_
 refine cp am2 (hS1) ?_
 refine zg10 ?_
 refine wl_unroll ?_
 refine zg6 ?_
 refine wl_condX (b:=_) rfl (by decide) ?_
 refine zg10 ?_
 refine wl_regD 16 (by decide +kernel) ?_
 refine zg5 ?_
 refine st_opc [] rfl rfl (.clo (f:=f) (cap:=[]) (args:=[.agg [nI64 U,nI64 V,.list 3 ((nmP rows.flatten 2).map ratL)]]) rfl (.cons im0 .nil) ⟨rfl,fun _ h=>by cases h⟩ hf2.1 (by decide) (fun _ h=>by cases h)) (hf2.2 _) ?_
 refine zg2 ?_
 refine cp am2 (hA2) ?_
 refine zg4 ?_
 refine cp am2 (hB2) ?_
 refine cp am2 (hS2) ?_
 refine zg10 ?_
 refine wl_unroll ?_
 refine zg6 ?_
 refine wl_condY (b:=_) rfl (by decide) ?_
 refine zg12 ?_
 exact retC [] rfl rfl rfl cs (at_all cs rfl) T106 (.pure (by simp [LV.pure,pures,pures_map ratE]))
section
variable {R U V:Nat} {rows:List (List PoR)} (h:pf R U V rows)
include h
theorem pf.pos:0<rows.flatten.length:=by rw [h.len];exact Nat.mul_pos (Nat.succ_pos U) (Nat.succ_pos V)
end
def pdv (U V Ud Vd:Nat) (D:List Rat→List Rat) (F:List PoR) (wd x y:Rat):V3 :=
 v3m (1/(wd*(evT U V (wtP F) x y*evT U V (wtP F) x y))) ⟨evT (Ud+U) (Vd+V) (sgN U V Ud Vd D F 0) x y,evT (Ud+U) (Vd+V) (sgN U V Ud Vd D F 1) x y,evT (Ud+U) (Vd+V) (sgN U V Ud Vd D F 2) x y⟩
theorem shX_of {x:Rat} (h:rl x≤8):shX x:=by
 have:=rl_sub 1 x
 have:rl 1=1:=rfl
 unfold shX
 omega
structure pdS (Du Dv:Nat) (q:List Rat) (x y:Rat):Prop where
 hl:q.length=(Du+1)*(Dv+1)
 du:Du≤6
 dv:Dv≤6
 qr:∀ t∈q,rl t≤49231
 hx:shX x
 hy:shX y
theorem pdS.e {Du Dv:Nat} {q:List Rat} {x y:Rat} (h:pdS Du Dv q x y):rl (evT Du Dv q x y)≤201970100 :=
 Nat.le_trans (evT_sz h.hl h.du h.dv (by omega:1≤49231) (by omega) h.qr h.hx h.hy).2.2.2.2 (by decide)
theorem pdv_bd {R U V Ud Vd:Nat} {rows:List (List PoR)} {D:List Rat→List Rat} (h:pf R U V rows) (hd:dfS U V Ud Vd D) (hR:R≤25) {wd x y:Rat} (hw:rl wd≤1000) (hx:shX x) (hy:shX y) :
  rl (evT U V (wtP rows.flatten) x y)≤225500∧(∀ k,rl (evT (Ud+U) (Vd+V) (sgN U V Ud Vd D rows.flatten k) x y)≤201970100)∧bd3 210000000 (pdv U V Ud Vd D rows.flatten wd x y):=by
 have h1:rl (evT U V (wtP rows.flatten) x y)≤225500:=by
  have:=(evT_sz h.wl (by have:=h.u3;omega) (by have:=h.v3;omega) h.r1 (by omega) h.wr hx hy).2.2.2.2
  have:4100*(R+30)≤4100*55:=Nat.mul_le_mul_left _ (by omega)
  omega
 have hu:=hd.u
 have hv:=hd.v
 have hu3:=h.u3
 have hv3:=h.v3
 have h2:∀ k,rl (evT (Ud+U) (Vd+V) (sgN U V Ud Vd D rows.flatten k) x y)≤201970100:=fun k =>
  Nat.le_trans (evT_sz (R:=49231) (sg_len h hd k) (by omega) (by omega) (by omega) (by omega) (fun t ht=>by have:=sg_rl h hd k t ht;omega) hx hy).2.2.2.2 (by decide)
 refine⟨h1,h2,?_⟩
 have h3:=rl_mul (evT U V (wtP rows.flatten) x y) (evT U V (wtP rows.flatten) x y)
 have h4:=rl_mul wd (evT U V (wtP rows.flatten) x y*evT U V (wtP rows.flatten) x y)
 have h5:=rl_div 1 (wd*(evT U V (wtP rows.flatten) x y*evT U V (wtP rows.flatten) x y))
 have h6:rl 1=1:=rfl
 have g:∀ k,rl (1/(wd*(evT U V (wtP rows.flatten) x y*evT U V (wtP rows.flatten) x y))*evT (Ud+U) (Vd+V) (sgN U V Ud Vd D rows.flatten k) x y)≤210000000:=fun k=>by
  have:=rl_mul (1/(wd*(evT U V (wtP rows.flatten) x y*evT U V (wtP rows.flatten) x y))) (evT (Ud+U) (Vd+V) (sgN U V Ud Vd D rows.flatten k) x y)
  have:=h2 k
  omega
 exact⟨g 0,g 1,g 2⟩
theorem c_tE13 (Du Dv:Nat) (q:List Rat) (x y:Rat) (h:pdS Du Dv q x y):CallP Tryz.prog 66 [.agg [nI64 Du,nI64 Dv,.list 3 (q.map ratL)],ratL x,ratL y] (ratL (evT Du Dv q x y)):=by
 obtain⟨s1,s2,_⟩:=evT_sz h.hl h.du h.dv (by omega:1≤49231) (by omega) h.qr h.hx h.hy
 have h49:(Du+1)*(Dv+1)≤49:=sq_le h.du h.dv
 exact c_TEval Du Dv q h.hl (by rw [h.hl];omega) (fun t ht=>by have:=h.qr t ht;omega) x y s1 s2
namespace H_c_at13
theorem zSm {p q:Prop} (k:q) (e:p=q:=by simp only [e1,e2,e3,e4,p1,p2,p3,q1,q2,q3,l1,t0,t1,r1,r2,r3,r4,Nat.zero_add,Nat.reduceMul,Nat.reduceAdd,b1,b2,b3,b4,b5,b6,i1,i2,i3,i4,i5,i6,Nat.reduceBEq,prL_kill,kills_map prE,dfr,dfq,take_map_len,map_snoc,len_snoc,List.length_cons,List.length_nil,List.nil_append,List.map_nil,List.take_nil,List.append_nil,List.set_cons_zero,List.set_cons_succ,Nat.reduceEqDiff,reduceIte,if_true,if_false,ptL_kill,poL_kill,kills_map ptE,kills_map poE,kills_map ratE,ratL_kill,spL_kill,LV.kill,kills];exact rfl):p:=e.mpr k
end H_c_at13
open H_c_at13 in
theorem c_at13 (Du Dv:Nat) (ql0 ql1 ql2:List Rat) (wd W x y:Rat) (h0:pdS Du Dv ql0 x y) (h1:pdS Du Dv ql1 x y) (h2:pdS Du Dv ql2 x y) (hw:rl wd≤1000) (hW:rl W≤250000):CallP Tryz.prog 67 [.agg [.agg [nI64 Du,nI64 Dv,.list 3 (ql0.map ratL)],.agg [nI64 Du,nI64 Dv,.list 3 (ql1.map ratL)],.agg [nI64 Du,nI64 Dv,.list 3 (ql2.map ratL)]],ratL wd,.boxp (ratL W),.boxp (ratL x),.boxp (ratL y)] (ptL (v3m (1/(wd*(W*W))) ⟨(evT Du Dv ql0 x y),(evT Du Dv ql1 x y),(evT Du Dv ql2 x y)⟩)):=by
 have hpu:∀ l:List Rat,pures (l.map ratL)=true:=fun l=>pures_map ratE l
 have hpq0:=net_pureN Du Dv ql0
 have hpq1:=net_pureN Du Dv ql1
 have hpq2:=net_pureN Du Dv ql2
 have he0:=h0.e
 have he1:=h1.e
 have he2:=h2.e
 have hp3:LV.pure (.agg [.agg [nI64 Du,nI64 Dv,.list 3 (ql0.map ratL)],.agg [nI64 Du,nI64 Dv,.list 3 (ql1.map ratL)],.agg [nI64 Du,nI64 Dv,.list 3 (ql2.map ratL)]])=true:=by simp [LV.pure,pures,pures_map ratE]
 have m1:=rl_mul W W
 have m2:=rl_mul wd (W*W)
 have m3:=rl_div 1 (wd*(W*W))
 have hr1:rl 1=1:=rfl
 refine fnP Tryz.func67 (ht:=(fun r=>LV.ren_pure r _ (ptE.pure _))) ?_
 refine zg8 ?_
 refine wl_regF 11 [9] (by decide +kernel) ?_
 refine cp am1 (c_RInt 1 (by decide) (by decide)) ?_
 refine zg3 ?_
 refine cp am2 (c_RMul W W (by omega)) ?_
 refine cp am2 (c_RMul wd (W*W) (by omega)) ?_
 refine cp am2 (c_RQuo 1 (wd*(W*W)) (by omega)) ?_
 refine zg21 ?_
 refine wl_unroll ?_
 refine zg6 ?_
 refine wl_condX (b:=_) rfl (by decide) ?_
 refine zg13 ?_
 refine wl_regD 8 (by decide +kernel) ?_
 refine zg5 ?_
 refine cp am3 (c_tE13 Du Dv ql0 x y h0) ?_
 refine cp am2 (c_RMul (1/(wd*(W*W))) (evT Du Dv ql0 x y) (by omega)) ?_
 refine zg5 ?_
 refine wl_regW (Weak.kill _ 12) ?_
 refine zg4 ?_
 refine wl_unroll ?_
 refine zg6 ?_
 refine wl_condX (b:=_) rfl (by decide) ?_
 refine zg13 ?_
 refine wl_regD 8 (by decide +kernel) ?_
 refine zg5 ?_
 refine cp am3 (c_tE13 Du Dv ql1 x y h1) ?_
 refine cp am2 (c_RMul (1/(wd*(W*W))) (evT Du Dv ql1 x y) (by omega)) ?_
 refine zg5 ?_
 refine wl_regW (Weak.kill _ 12) ?_
 refine zg4 ?_
 refine wl_unroll ?_
 refine zg6 ?_
 refine wl_condX (b:=_) rfl (by decide) ?_
 refine zg13 ?_
 refine wl_regD 8 (by decide +kernel) ?_
 refine zg5 ?_
 refine cp am3 (c_tE13 Du Dv ql2 x y h2) ?_
 refine cp am2 (c_RMul (1/(wd*(W*W))) (evT Du Dv ql2 x y) (by omega)) ?_
 refine zg5 ?_
 refine wl_regW (Weak.kill _ 12) ?_
 refine zg4 ?_
 refine wl_unroll ?_
 refine zg6 ?_
 refine wl_condY (b:=_) rfl (by decide) ?_
 refine zg12 ?_
 exact retC [] rfl rfl rfl cs (at_all cs rfl) T31 (.pure pu)
namespace H_c_PDer
theorem zSm {p q:Prop} (k:q) (e:p=q:=by simp only [e1,e2,e3,e4,p1,p2,p3,q1,q2,q3,l1,t0,t1,r1,r2,r3,r4,Nat.zero_add,Nat.reduceMul,Nat.reduceAdd,b1,b2,b3,b4,b5,b6,i1,i2,i3,i4,i5,i6,Nat.reduceBEq,frz_nil,prL_kill,kills_map prE,dfr,dfq,take_map_len,map_snoc,len_snoc,List.length_cons,List.length_nil,List.nil_append,List.map_nil,List.take_nil,List.append_nil,List.set_cons_zero,List.set_cons_succ,Nat.reduceEqDiff,reduceIte,if_true,if_false,ptL_kill,poL_kill,kills_map ptE,kills_map poE,kills_map ratE,ratL_kill,spL_kill,LV.kill,kills];exact rfl):p:=e.mpr k
end H_c_PDer
open H_c_PDer in
theorem c_PDer (R U V:Nat) (ua ub va vb:Rat) (rows:List (List PoR)) (h:pf R U V rows) (hua:rl ua≤100) (hub:rl ub≤100) (hva:rl va≤100) (hvb:rl vb≤100) (hu:ua<ub) (hv:va<vb) (u v x y:Rat) (hu1:rl u≤100) (hv1:rl v≤100) (hx:shX x) (hy:shX y) (ex:(u-ua)/(ub-ua)=x) (ey:(v-va)/(vb-va)=y) (hR:R≤25) (hUi:hasR (ua,ub) u=true) (hVi:hasR (va,vb) v=true):CallP Tryz.prog 16 [.agg [nI64 U,nI64 V,.list 3 ((kn2 U ua ub).map ratL),.list 3 ((kn2 V va vb).map ratL),.list 1 (rows.map prL)],ratL u,ratL v] (.tup [ptL (pdv U V (U-1) V (dfU U V) rows.flatten (ub-ua) x y),ptL (pdv U V U (V-1) (dfV U V) rows.flatten (vb-va) x y),iL 0]):=by
 have hpu:∀ l:List Rat,pures (l.map ratL)=true:=fun l=>pures_map ratE l
 have hsp:LV.pure (.agg [nI64 U,nI64 V,.list 3 ((kn2 U ua ub).map ratL),.list 3 ((kn2 V va vb).map ratL),.list 1 (rows.map prL)])=true:=by simp [LV.pure,pures,pures_map ratE,pures_map prE]
 have hku:=pure_lst ratE 3 (kn2 U ua ub)
 have hkv:=pure_lst ratE 3 (kn2 V va vb)
 have hu3:=h.u3
 have hv3:=h.v3
 have hr1:=h.r1
 have hwd1:=rl_sub ub ua
 have hwd2:=rl_sub vb va
 have hdu:dfS U V (U-1) V (dfU U V):=dfS_U h.u3 h.v3
 have hdv:dfS U V U (V-1) (dfV U V):=dfS_V h.u3 h.v3
 have hqU0:pdS ((U-1)+U) (V+V) (sgN U V (U-1) V (dfU U V) rows.flatten 0) x y:=⟨sg_len h hdu 0,by omega,by omega,fun t ht=>by have:=sg_rl h hdu 0 t ht;omega,hx,hy⟩
 have hqU1:pdS ((U-1)+U) (V+V) (sgN U V (U-1) V (dfU U V) rows.flatten 1) x y:=⟨sg_len h hdu 1,by omega,by omega,fun t ht=>by have:=sg_rl h hdu 1 t ht;omega,hx,hy⟩
 have hqU2:pdS ((U-1)+U) (V+V) (sgN U V (U-1) V (dfU U V) rows.flatten 2) x y:=⟨sg_len h hdu 2,by omega,by omega,fun t ht=>by have:=sg_rl h hdu 2 t ht;omega,hx,hy⟩
 have hqV0:pdS (U+U) ((V-1)+V) (sgN U V U (V-1) (dfV U V) rows.flatten 0) x y:=⟨sg_len h hdv 0,by omega,by omega,fun t ht=>by have:=sg_rl h hdv 0 t ht;omega,hx,hy⟩
 have hqV1:pdS (U+U) ((V-1)+V) (sgN U V U (V-1) (dfV U V) rows.flatten 1) x y:=⟨sg_len h hdv 1,by omega,by omega,fun t ht=>by have:=sg_rl h hdv 1 t ht;omega,hx,hy⟩
 have hqV2:pdS (U+U) ((V-1)+V) (sgN U V U (V-1) (dfV U V) rows.flatten 2) x y:=⟨sg_len h hdv 2,by omega,by omega,fun t ht=>by have:=sg_rl h hdv 2 t ht;omega,hx,hy⟩
 have hpU:LV.pure (.agg [.agg [nI64 ((U-1)+U),nI64 (V+V),.list 3 ((sgN U V (U-1) V (dfU U V) rows.flatten 0).map ratL)],.agg [nI64 ((U-1)+U),nI64 (V+V),.list 3 ((sgN U V (U-1) V (dfU U V) rows.flatten 1).map ratL)],.agg [nI64 ((U-1)+U),nI64 (V+V),.list 3 ((sgN U V (U-1) V (dfU U V) rows.flatten 2).map ratL)]])=true:=by simp [LV.pure,pures,pures_map ratE]
 obtain⟨hWU,hEU,hBU⟩:=pdv_bd h hdu hR (wd:=(ub-ua)) (by omega) hx hy
 have hpV:LV.pure (.agg [.agg [nI64 (U+U),nI64 ((V-1)+V),.list 3 ((sgN U V U (V-1) (dfV U V) rows.flatten 0).map ratL)],.agg [nI64 (U+U),nI64 ((V-1)+V),.list 3 ((sgN U V U (V-1) (dfV U V) rows.flatten 1).map ratL)],.agg [nI64 (U+U),nI64 ((V-1)+V),.list 3 ((sgN U V U (V-1) (dfV U V) rows.flatten 2).map ratL)]])=true:=by simp [LV.pure,pures,pures_map ratE]
 obtain⟨hWV,hEV,hBV⟩:=pdv_bd h hdv hR (wd:=(vb-va)) (by omega) hx hy
 have hqW:pdS U V (wtP rows.flatten) x y:=⟨h.wl,by omega,by omega,fun t ht=>by have:=h.wr t ht;omega,hx,hy⟩
 have hpW:=net_pureN U V (wtP rows.flatten)
 have hO1:=c_Pown ua ub u hua hub hu hu1 hUi
 have hO2:=c_Pown va vb v hva hvb hv hv1 hVi
 rw [ex] at hO1
 rw [ey] at hO2
 have hbp:pures [.boxp (ratL (evT U V (wtP rows.flatten) x y)),.boxp (ratL x),.boxp (ratL y)]=true:=by simp [pures,LV.pure,ratE.pure]
 have hAU:=c_at13 ((U-1)+U) (V+V) (sgN U V (U-1) V (dfU U V) rows.flatten 0) (sgN U V (U-1) V (dfU U V) rows.flatten 1) (sgN U V (U-1) V (dfU U V) rows.flatten 2) (ub-ua) (evT U V (wtP rows.flatten) x y) x y hqU0 hqU1 hqU2 (by omega) (by omega)
 have hTU:=c_turns13 R U V (U-1) V (kn2 U ua ub) (kn2 V va vb) rows h (by omega) (dfU U V) hdu 72 (fun c hc hr=>c_DiffU U V c hc (by rw [hc];have:=sq_le3 hu3 hv3;omega) (fun t ht=>by have:=hr t ht;omega) (by omega))
 have hAV:=c_at13 (U+U) ((V-1)+V) (sgN U V U (V-1) (dfV U V) rows.flatten 0) (sgN U V U (V-1) (dfV U V) rows.flatten 1) (sgN U V U (V-1) (dfV U V) rows.flatten 2) (vb-va) (evT U V (wtP rows.flatten) x y) x y hqV0 hqV1 hqV2 (by omega) (by omega)
 have hTV:=c_turns13 R U V U (V-1) (kn2 U ua ub) (kn2 V va vb) rows h (by omega) (dfV U V) hdv 73 (fun c hc hr=>c_DiffV U V c hc (by rw [hc];have:=sq_le3 hu3 hv3;omega) (fun t ht=>by have:=hr t ht;omega) (by omega))
 refine fnP Tryz.func16 (ht:=(tame3 (ptE.pure _) (ptE.pure _) rfl)) ?_
 refine zg13 ?_
 refine cp am1 (c_PDom U V ua ub va vb rows hua hub hva hvb hu hv (by omega) (by omega)) ?_
 refine zg13 ?_
 refine cp am2 (hO1) ?_
 refine zg15 ?_
 refine cp am2 (hO2) ?_
 refine zg17 ?_
 refine st_pure (guardX (v:=false) rfl rfl ((rfl)) rfl) (.move _) ?_
 refine st_pure (guardX (v:=false) rfl rfl ((rfl)) rfl) (.not rfl) ?_
 refine st_pure rfl (.pickF rfl ((rfl))) ?_
 refine zg2 ?_
 refine wl_condY (b:=_) rfl (rfl) ?_
 refine zg3 ?_
 refine wl_regD 7 (by decide +kernel) ?_
 refine zg1 ?_
 refine cp am1 (c_PNum U V (kn2 U ua ub) (kn2 V va vb) rows (by omega) (by omega) R (by omega) h.rw) ?_
 refine zg3 ?_
 refine cp am3 (c_tE13 U V (wtP rows.flatten) x y hqW) ?_
 refine zg6 ?_
 refine st_opc [17,11,14] rfl rfl (.mk (caps:=[.boxp (ratL (evT U V (wtP rows.flatten) x y)),.boxp (ratL x),.boxp (ratL y)]) (.cons (.eptr rfl rfl rfl (ratE.csize _) (ratL_all _) (ratE.pure _) rfl) (.cons (.eptr rfl rfl rfl (ratE.csize _) (ratL_all _) (ratE.pure _) rfl) (.cons (.eptr rfl rfl rfl (ratE.csize _) (ratL_all _) (ratE.pure _) rfl) .nil))) (fun x hx=>by simp only [List.mem_cons,List.not_mem_nil,or_false] at hx;rcases hx with rfl | rfl | rfl<;>exact⟨rfl,rfl⟩)) rfl ?_
 refine zg4 ?_
 refine wl_regD 10 (by decide +kernel) ?_
 refine zg2 ?_
 refine cp am2 (hTU) ?_
 refine zg1 ?_
 refine st_opc [] rfl rfl (.clo (f:=67) (cap:=[.boxp (ratL (evT U V (wtP rows.flatten) x y)),.boxp (ratL x),.boxp (ratL y)]) (args:=[.agg [.agg [nI64 ((U-1)+U),nI64 (V+V),.list 3 ((sgN U V (U-1) V (dfU U V) rows.flatten 0).map ratL)],.agg [nI64 ((U-1)+U),nI64 (V+V),.list 3 ((sgN U V (U-1) V (dfU U V) rows.flatten 1).map ratL)],.agg [nI64 ((U-1)+U),nI64 (V+V),.list 3 ((sgN U V (U-1) V (dfU U V) rows.flatten 2).map ratL)]],ratL (ub-ua)]) rfl (.cons im0 (.cons im0 .nil)) ⟨hbp,(fun x hx=>by simp only [List.mem_cons,List.not_mem_nil,or_false] at hx;rcases hx with rfl | rfl | rfl<;>exact⟨rfl,rfl⟩)⟩ hAU.1 (by decide) (fun _ h=>by cases h)) (hAU.2 _) ?_
 refine zg2 ?_
 refine cp am2 (hTV) ?_
 refine zg1 ?_
 refine st_opc [] rfl rfl (.clo (f:=67) (cap:=[.boxp (ratL (evT U V (wtP rows.flatten) x y)),.boxp (ratL x),.boxp (ratL y)]) (args:=[.agg [.agg [nI64 (U+U),nI64 ((V-1)+V),.list 3 ((sgN U V U (V-1) (dfV U V) rows.flatten 0).map ratL)],.agg [nI64 (U+U),nI64 ((V-1)+V),.list 3 ((sgN U V U (V-1) (dfV U V) rows.flatten 1).map ratL)],.agg [nI64 (U+U),nI64 ((V-1)+V),.list 3 ((sgN U V U (V-1) (dfV U V) rows.flatten 2).map ratL)]],ratL (vb-va)]) rfl (.cons im0 (.cons im0 .nil)) ⟨hbp,(fun x hx=>by simp only [List.mem_cons,List.not_mem_nil,or_false] at hx;rcases hx with rfl | rfl | rfl<;>exact⟨rfl,rfl⟩)⟩ hAV.1 (by decide) (fun _ h=>by cases h)) (hAV.2 _) ?_
 refine zg6 ?_
 exact retCCT [] rfl rfl rfl cs (at_all cs rfl) T31 (.pure pu) rfl rfl cs (at_all cs rfl) T31 (.pure pu) rfl (.pure rfl)
namespace H_c_PNor
theorem zSm {p q:Prop} (k:q) (e:p=q:=by simp only [e1,e2,e3,e4,p1,p2,p3,q1,q2,q3,l1,t0,t1,r1,r2,r3,r4,Nat.zero_add,Nat.reduceMul,Nat.reduceAdd,b1,b2,b3,b4,b5,b6,i1,i2,i3,i4,i5,i6,Nat.reduceBEq,prL_kill,kills_map prE,dfr,dfq,take_map_len,map_snoc,len_snoc,List.length_cons,List.length_nil,List.nil_append,List.map_nil,List.take_nil,List.append_nil,List.set_cons_zero,List.set_cons_succ,Nat.reduceEqDiff,reduceIte,if_true,if_false,ptL_kill,poL_kill,kills_map ptE,kills_map poE,kills_map ratE,ratL_kill,spL_kill,LV.kill,kills];exact rfl):p:=e.mpr k
end H_c_PNor
open H_c_PNor in
theorem c_PNor (U V:Nat) (kU kV:List Rat) (rows:List (List PoR)) (u v:Rat) (a b:V3) (e:Int) (ha:bd3 210000000 a) (hb:bd3 210000000 b) (hD:CallP Tryz.prog 16 [.agg [nI64 U,nI64 V,.list 3 (kU.map ratL),.list 3 (kV.map ratL),.list 1 (rows.map prL)],ratL u,ratL v] (.tup [ptL a,ptL b,iL e])):CallP Tryz.prog 14 [.agg [nI64 U,nI64 V,.list 3 (kU.map ratL),.list 3 (kV.map ratL),.list 1 (rows.map prL)],ratL u,ratL v] (.tup [ptL (v3x a b),iL e]):=by
 have hsp:LV.pure (.agg [nI64 U,nI64 V,.list 3 (kU.map ratL),.list 3 (kV.map ratL),.list 1 (rows.map prL)])=true:=by simp [LV.pure,pures,pures_map ratE,pures_map prE]
 refine fnP Tryz.func14 (ht:=(tame2 (ptE.pure _) rfl)) ?_
 refine zg14 ?_
 refine cp am3 (hD) ?_
 refine zg15 ?_
 refine cp am2 (c_VCross a b 210000000 (by decide) ha hb) ?_
 refine zg6 ?_
 exact retCT [] rfl rfl rfl cs (at_all cs rfl) T31 (.pure pu) rfl (.pure rfl)
def eqV (p q:V3):Bool:=decide (p.x=q.x) && (decide (p.y=q.y) && decide (p.z=q.z))
theorem eqV_iff {p q:V3}:eqV p q=true↔p=q:=by
 obtain⟨a,b,c⟩:=p
 obtain⟨d,e,f⟩:=q
 simp [eqV]
theorem eqV_no {p q:V3} (h:eqV p q=false):p≠q:=fun e=>by
 rw [eqV_iff.2 e] at h;cases h
def thN (a b c:V3):V3:=v3x (v3s b a) (v3s c a)
theorem thN_bd {R:Nat} {a b c:V3} (ha:bd3 R a) (hb:bd3 R b) (hc:bd3 R c):bd3 (8*R+9) (thN a b c):=(v3x_bd (v3s_rl hb ha) (v3s_rl hc ha)).le (by omega)
def flT (n:V3) (d:Rat) (l:List V3):Rat:=l.foldl (fun o p=>mxR o ((v3d n p-d)*(v3d n p-d))) 0
theorem fl_nil (n:V3) (d:Rat):flT n d []=0:=rfl
theorem fl_snoc (n:V3) (d:Rat) (l:List V3) {i:Nat} (h:i<l.length):mxR (flT n d (l.take i)) ((v3d n (l.getD i default)-d)*(v3d n (l.getD i default)-d))=flT n d (l.take (i+1)):=by
 rw [List.take_succ_eq_append_getElem h,flT,flT,List.foldl_append,List.getD_eq_getElem?_getD,List.getElem?_eq_getElem h];rfl
theorem fl_rl {n:V3} {d:Rat} {B:Nat}:∀ (l:List V3) (o:Rat),(∀ p∈l,rl ((v3d n p-d)*(v3d n p-d))≤B)→rl o≤B→rl (l.foldl (fun o p=>mxR o ((v3d n p-d)*(v3d n p-d))) o)≤B
 | [],o,_,h=>h
 | p :: l,o,hl,h=>fl_rl l _ (fun q hq=>hl q (List.mem_cons_of_mem _ hq)) (mx_rl3 h (hl p (List.mem_cons_self ..)))
theorem nn_pos {n:V3} (h:eqV n ⟨0,0,0⟩=false):0<v3d n n:=by
 have h1:=eqV_no h
 obtain⟨x,y,z⟩:=n
 have sq:∀ a:Rat,0≤a*a:=fun a=>by
  rcases Rat.le_total (a:=0) (b:=a) with g | g
  ·exact Rat.mul_nonneg g g
  ·have:=Rat.mul_nonneg (show 0≤-a by grind) (show 0≤-a by grind)
   grind
 have sp:∀ a:Rat,a≠0→0<a*a:=fun a ha=>by
  rcases Rat.le_total (a:=0) (b:=a) with g | g
  ·exact Rat.mul_pos (by grind) (by grind)
  ·have:=Rat.mul_pos (show 0 < -a by grind) (show 0 < -a by grind)
   grind
 have s1:=sq x
 have s2:=sq y
 have s3:=sq z
 unfold v3d
 simp only
 by_cases hx:x=0
 ·by_cases hy:y=0
  ·by_cases hz:z=0
   ·subst hx hy hz;exact absurd rfl h1
   ·have:=sp z hz;grind
  ·have:=sp y hy;grind
 ·have:=sp x hx;grind
section
variable {R U V:Nat} {rows:List (List PoR)} (h:pf R U V rows)
include h
theorem pf.r0 {i:Nat} (hi:i≤U):(rows.getD i []).length=V+1:=h.m _ (getR_mem (by rw [h.n];omega))
theorem pf.pt {i j:Nat} (hi:i≤U) (hj:j≤V):bd3 R ((rows.getD i []).getD j default).p:=(h.ok _ (getR_mem (by rw [h.n];omega)) _ (getD_memP (by rw [h.r0 hi];omega))).1
theorem pf.fp {i:Nat} (hi:i<(rows.flatten.map (·.p)).length):bd3 R ((rows.flatten.map (·.p)).getD i default):=by
 rw [ps_get]
 exact(h.fok _ (getD_memP (by rw [List.length_map] at hi;exact hi))).1
theorem pf.fa:∀ p∈rows.flatten.map (·.p),bd3 R p:=fun p hp=>by
 obtain⟨q,hq,rfl⟩:=List.mem_map.1 hp
 exact(h.fok q hq).1
theorem pf.thb:bd3 (8*R+9) (thN ((rows.getD 0 []).getD 0 default).p ((rows.getD U []).getD 0 default).p ((rows.getD 0 []).getD V default).p):=thN_bd (h.pt (Nat.zero_le _) (Nat.zero_le _)) (h.pt (Nat.le_refl _) (Nat.zero_le _)) (h.pt (Nat.zero_le _) (Nat.le_refl _))
end
theorem fl_sz {R:Nat} {n p:V3} {d:Rat} (hn:bd3 (8*R+9) n) (hd:rl d≤27*R+31) (hp:bd3 R p):rl (v3d n p)≤27*R+31∧rl (v3d n p-d)≤54*R+63∧rl ((v3d n p-d)*(v3d n p-d))≤108*R+126:=by
 have h1:=v3d_rl hn hp
 have h2:=rl_sub (v3d n p) d
 have h3:=rl_mul (v3d n p-d) (v3d n p-d)
 omega
theorem fl_all {R:Nat} {n:V3} {d:Rat} {l:List V3} (hn:bd3 (8*R+9) n) (hd:rl d≤27*R+31) (hl:∀ p∈l,bd3 R p) (i:Nat):rl (flT n d (l.take i))≤108*R+126 :=
 fl_rl _ _ (fun p hp=>(fl_sz hn hd (hl p (List.mem_of_mem_take hp))).2.2) (by show rl 0≤_;rw [show rl 0=1 from rfl];omega)
theorem zdiv (c:Rat):0/c=0:=by rw [Rat.div_def,Rat.zero_mul]
theorem plcs:(LV.agg [LV.agg [ratL 0,ratL 0,ratL 0],ratL 0]).csize=12:=by simp [LV.csize,csizes,ratE.csize]
theorem plcs2:(LV.agg [LV.agg [LV.agg [.v (.bool false),.list 1 [],.list 1 []],LV.agg [.v (.bool false),.list 1 [],.list 1 []],LV.agg [.v (.bool false),.list 1 [],.list 1 []]],LV.agg [.v (.bool false),.list 1 [],.list 1 []]]).csize=12:=by simp [LV.csize,csizes]
namespace H_c_VPtEq
theorem zSm {p q:Prop} (k:q) (e:p=q:=by simp only [e1,e2,e3,e4,p1,p2,p3,q1,q2,q3,l1,t0,t1,r1,r2,r3,r4,Nat.zero_add,Nat.reduceMul,Nat.reduceAdd,b1,b2,b3,b4,b5,b6,i1,i2,i3,i4,i5,i6,Nat.reduceBEq,List.set_cons_zero,List.set_cons_succ,Nat.reduceEqDiff,reduceIte,if_true,if_false,ptL_kill,poL_kill,kills_map ptE,kills_map poE,kills_map ratE,ratL_kill,spL_kill,LV.kill,kills];exact rfl):p:=e.mpr k
end H_c_VPtEq
open H_c_VPtEq in
theorem c_VPtEq (p q:V3) (hp:bd3 100000000000 p) (hq:bd3 100000000000 q):CallP Tryz.prog 95 [ptL p,ptL q] (bL (eqV p q)):=by
 obtain⟨a1,a2,a3⟩:=hp
 obtain⟨y1,y2,y3⟩:=hq
 refine fnP Tryz.func95 ?_
 refine zg14 ?_
 refine wl_unroll ?_
 refine zg6 ?_
 refine wl_condX (b:=_) rfl (by decide) ?_
 refine zg11 ?_
 refine wl_regD 8 (by decide +kernel) ?_
 refine zg6 ?_
 refine cp am2 (c_RSame p.x q.x (by omega)) ?_
 refine zg3 ?_
 refine wl_if rfl (fun h16r h16=>?_) (fun h16r h16=>?_)
 ·refine zg11 ?_
  rw [show eqV p q=false from by unfold eqV;simp [h16]]
  exact ret1 rfl (.pure rfl)
 ·have g00:p.x=q.x:=by simpa using h16
  refine zg8 ?_
  refine wl_unroll ?_
  refine zg6 ?_
  refine wl_condX (b:=_) rfl (by decide) ?_
  refine zg11 ?_
  refine wl_regD 8 (by decide +kernel) ?_
  refine zg6 ?_
  refine cp am2 (c_RSame p.y q.y (by omega)) ?_
  refine zg3 ?_
  refine wl_if rfl (fun h16r h16=>?_) (fun h16r h16=>?_)
  ·refine zg11 ?_
   rw [show eqV p q=false from by unfold eqV;simp [h16]]
   exact ret1 rfl (.pure rfl)
  ·have g10:p.y=q.y:=by simpa using h16
   refine zg8 ?_
   refine wl_unroll ?_
   refine zg6 ?_
   refine wl_condX (b:=_) rfl (by decide) ?_
   refine zg11 ?_
   refine wl_regD 8 (by decide +kernel) ?_
   refine zg6 ?_
   refine cp am2 (c_RSame p.z q.z (by omega)) ?_
   refine zg3 ?_
   refine wl_if rfl (fun h16r h16=>?_) (fun h16r h16=>?_)
   ·refine zg11 ?_
    rw [show eqV p q=false from by unfold eqV;simp [h16]]
    exact ret1 rfl (.pure rfl)
   ·have g20:p.z=q.z:=by simpa using h16
    refine zg8 ?_
    refine wl_unroll ?_
    refine zg6 ?_
    refine wl_condY (b:=_) rfl (by decide) ?_
    refine zg11 ?_
    rw [show eqV p q=true from by unfold eqV;simp [g00,g10,g20]]
    exact ret1 rfl (.pure rfl)
namespace H_c_FPtEq
theorem zSm {p q:Prop} (k:q) (e:p=q:=by simp only [e1,e2,e3,e4,p1,p2,p3,q1,q2,q3,l1,t0,t1,r1,r2,r3,r4,Nat.zero_add,Nat.reduceMul,Nat.reduceAdd,b1,b2,b3,b4,b5,b6,i1,i2,i3,i4,i5,i6,Nat.reduceBEq,List.set_cons_zero,List.set_cons_succ,Nat.reduceEqDiff,reduceIte,if_true,if_false,ptL_kill,poL_kill,kills_map ptE,kills_map poE,kills_map ratE,ratL_kill,spL_kill,LV.kill,kills];exact rfl):p:=e.mpr k
end H_c_FPtEq
open H_c_FPtEq in
theorem c_FPtEq (p q:V3) (hp:bd3 100000000000 p) (hq:bd3 100000000000 q):CallP Tryz.prog 20 [ptL p,ptL q] (bL (eqV p q)):=by
 obtain⟨a1,a2,a3⟩:=hp
 obtain⟨y1,y2,y3⟩:=hq
 refine fnP Tryz.func20 ?_
 refine zg13 ?_
 refine cp am2 (c_FSame p.x q.x (by omega)) ?_
 refine zg1 ?_
 refine op_if 10 rfl (fun h10r h10=>?_) (fun h10r h10=>?_)
 ·refine zg4 ?_
  refine cp am2 (c_FSame p.y q.y (by omega)) ?_
  refine zg2 ?_
  refine op_if 17 rfl (fun h17r h17=>?_) (fun h17r h17=>?_)
  ·refine zg4 ?_
   refine cp am2 (c_FSame p.z q.z (by omega)) ?_
   refine zg5 ?_
   rw [show eqV p q=decide (p.z=q.z) from by unfold eqV;simp [show p.x=q.x by simpa using h10,show p.y=q.y by simpa using h17]]
   exact ret1 rfl (.pure rfl)
  ·refine zg10 ?_
   rw [show eqV p q=false from by unfold eqV;simp [show ¬p.y=q.y by simpa using h17]]
   exact ret1 rfl (.pure rfl)
 ·refine zg17 ?_
  rw [show eqV p q=false from by unfold eqV;simp [show ¬p.x=q.x by simpa using h10]]
  exact ret1 rfl (.pure rfl)
namespace H_c_VZero
theorem zSm {p q:Prop} (k:q) (e:p=q:=by simp only [e1,e2,e3,e4,p1,p2,p3,q1,q2,q3,l1,t0,t1,r1,r2,r3,r4,Nat.zero_add,Nat.reduceMul,Nat.reduceAdd,b1,b2,b3,b4,b5,b6,i1,i2,i3,i4,i5,i6,Nat.reduceBEq,List.set_cons_zero,List.set_cons_succ,Nat.reduceEqDiff,reduceIte,if_true,if_false,ptL_kill,poL_kill,kills_map ptE,kills_map poE,kills_map ratE,ratL_kill,spL_kill,LV.kill,kills];exact rfl):p:=e.mpr k
end H_c_VZero
open H_c_VZero in
theorem c_VZero (p:V3) (hp:bd3 100000000000 p):CallP Tryz.prog 150 [ptL p] (bL (eqV p ⟨0,0,0⟩)):=by
 refine fnP Tryz.func150 ?_
 refine zg9 ?_
 refine s0bd bdP0 ?_
 refine cp am2 (c_VPtEq p ⟨0,0,0⟩ hp ⟨by decide +kernel,by decide +kernel,by decide +kernel⟩) ?_
 refine zg4 ?_
 exact ret1 rfl (.pure rfl)
namespace H_c_FVZero
theorem zSm {p q:Prop} (k:q) (e:p=q:=by simp only [e1,e2,e3,e4,p1,p2,p3,q1,q2,q3,l1,t0,t1,r1,r2,r3,r4,Nat.zero_add,Nat.reduceMul,Nat.reduceAdd,b1,b2,b3,b4,b5,b6,i1,i2,i3,i4,i5,i6,Nat.reduceBEq,List.set_cons_zero,List.set_cons_succ,Nat.reduceEqDiff,reduceIte,if_true,if_false,ptL_kill,poL_kill,kills_map ptE,kills_map poE,kills_map ratE,ratL_kill,spL_kill,LV.kill,kills];exact rfl):p:=e.mpr k
end H_c_FVZero
open H_c_FVZero in
theorem c_FVZero (p:V3) (hp:bd3 100000000000 p):CallP Tryz.prog 18 [ptL p] (bL (eqV p ⟨0,0,0⟩)):=by
 refine fnP Tryz.func18 ?_
 refine zg9 ?_
 refine s0bd bdP0 ?_
 refine cp am2 (c_FPtEq p ⟨0,0,0⟩ hp ⟨by decide +kernel,by decide +kernel,by decide +kernel⟩) ?_
 refine zg4 ?_
 exact ret1 rfl (.pure rfl)
namespace H_c_VTh
theorem zSm {p q:Prop} (k:q) (e:p=q:=by simp only [e1,e2,e3,e4,p1,p2,p3,q1,q2,q3,l1,t0,t1,r1,r2,r3,r4,Nat.zero_add,Nat.reduceMul,Nat.reduceAdd,b1,b2,b3,b4,b5,b6,i1,i2,i3,i4,i5,i6,Nat.reduceBEq,List.set_cons_zero,List.set_cons_succ,Nat.reduceEqDiff,reduceIte,if_true,if_false,ptL_kill,poL_kill,kills_map ptE,kills_map poE,kills_map ratE,ratL_kill,spL_kill,LV.kill,kills];exact rfl):p:=e.mpr k
end H_c_VTh
open H_c_VTh in
theorem c_VTh (a b c:V3) (R:Nat) (hR:R≤10000000) (ha:bd3 R a) (hb:bd3 R b) (hc:bd3 R c) (hz:eqV (thN a b c) ⟨0,0,0⟩=false):CallP Tryz.prog 80 [ptL a,ptL b,ptL c] (.tup [poL ⟨(thN a b c),v3d (thN a b c) a⟩,iL 0]):=by
 have hn:=thN_bd ha hb hc
 have hs1:=v3s_rl hb ha
 have hs2:=v3s_rl hc ha
 have hZ:CallP Tryz.prog 150 [ptL (thN a b c)] (bL false):=by
  have:=c_VZero (thN a b c) (hn.le (by omega))
  rwa [hz] at this
 refine fnP Tryz.func80 (ht:=(tame2 (poE.pure _) rfl)) ?_
 refine zg10 ?_
 refine wl_regD 8 (by decide +kernel) ?_
 refine zg2 ?_
 refine cp am2 (c_VSub b a R (by omega) hb ha) ?_
 refine zg2 ?_
 refine cp am2 (c_VSub c a R (by omega) hc ha) ?_
 refine cp am2 (c_VCross (v3s b a) (v3s c a) (2*R+1) (by omega) hs1 hs2) ?_
 refine zg8 ?_
 refine cp am1 (hZ) ?_
 refine zg2 ?_
 refine wl_if rfl (fun h17r h17=>?_) (fun h17r h17=>?_)
 ·first | exact h17.elim | cases h17r
 ·refine zg3 ?_
  refine wl_regD 5 (by decide +kernel) ?_
  refine zg3 ?_
  refine cp am2 (c_VDot (thN a b c) a (8*R+9) (by omega) hn (ha.le (by omega))) ?_
  refine s0bd (bdPo (p:=(thN a b c)) (r:=v3d (thN a b c) a) rfl rfl) ?_
  refine zg5 ?_
  exact retCT [] rfl rfl rfl cs (at_all cs rfl) T86 (.pure pu) rfl (.pure rfl)
namespace H_c_ppts
theorem zSm {p q:Prop} (k:q) (e:p=q:=by simp only [e1,e2,e3,e4,p1,p2,p3,q1,q2,q3,l1,t0,t1,r1,r2,r3,r4,Nat.zero_add,Nat.reduceMul,Nat.reduceAdd,b1,b2,b3,b4,b5,b6,i1,i2,i3,i4,i5,i6,Nat.reduceBEq,prL,etk,ers,ehpm,len_snoc,prL_kill,kills_map prE,dfr,dfq,take_map_len,map_snoc,len_snoc,List.length_cons,List.length_nil,List.nil_append,List.map_nil,List.take_nil,List.append_nil,List.set_cons_zero,List.set_cons_succ,Nat.reduceEqDiff,reduceIte,if_true,if_false,ptL_kill,poL_kill,kills_map ptE,kills_map poE,kills_map ratE,ratL_kill,spL_kill,LV.kill,kills];exact rfl):p:=e.mpr k
end H_c_ppts
open H_c_ppts in
theorem c_ppts (U V:Nat) (kU kV:List Rat) (rows:List (List PoR)) (R:Nat) (hw:rwOK rows R):CallP Tryz.prog 81 [.agg [nI64 U,nI64 V,.list 3 (kU.map ratL),.list 3 (kV.map ratL),.list 1 (rows.map prL)]] (.list 9 ((rows.flatten.map (·.p)).map ptL)):=by
 have hsp:LV.pure (.agg [nI64 U,nI64 V,.list 3 (kU.map ratL),.list 3 (kV.map ratL),.list 1 (rows.map prL)])=true:=by simp [LV.pure,pures,pures_map ratE,pures_map prE]
 have hwn:=hw.n
 have hwf:=hw.f
 refine fnP Tryz.func81 (ht:=(fun g=>LV.ren_pure g _ (pure_lst ptE 9 _))) ?_
 have etk:True:=trivial
 have ers:True:=trivial
 have ehpm:True:=trivial
 refine zg21 ?_
 refine wl_weak ((Weak.kill _ 1).trans (Weak.own (t:=3) 25 9 rfl rfl)) ?_
 refine lp2 (fun(i:Nat) (ps:List PoR) L=>(((((St.mk L.slot (hp [(25,⟨9,(ps.map (·.p)).map ptL,true⟩)])).put (some 3) (.ref 25 9 0 ps.length)).put (some 9) (.list 1 (rows.map prL))).put (some 10) (nI64 rows.length)).put (some 11) (nI64 i))) (fun i ps=>rwI rows i ps) (fun i ps=>rows.length-i) 0 ([]) (rwI.zero rows) ?_
 rintro i ps L1 hI
 refine zg6 ?_
 refine wl_if rfl (fun h12r h12=>?_) (fun h12r h12=>?_)
 ·have hi2:i<rows.length:=by omega
  refine zg19 ?_
  refine lp2 (fun(j:Nat) (qs:List PoR) L=>((((((((St.mk L.slot (hp [(25,⟨9,(qs.map (·.p)).map ptL,true⟩)])).put (some 3) (.ref 25 9 0 qs.length)).put (some 9) (.list 1 (rows.map prL))).put (some 10) (nI64 rows.length)).put (some 11) (nI64 i)).put (some 15) (.list 12 ((rows.getD i []).map poL))).put (some 16) (nI64 (rows.getD i []).length)).put (some 17) (nI64 j))) (fun j qs=>rwJ rows i j qs) (fun j qs=>(rows.getD i []).length-j) 0 ps (hI.go hi2) ?_
  rintro j qs L2 hJ
  refine zg6 ?_
  refine wl_if rfl (fun h18r h18=>?_) (fun h18r h18=>?_)
  ·have hj2:j<(rows.getD i []).length:=by omega
   have hJe:=hJ.hj
   have hJl:=hJ.le
   have hJi:=hJ.hi
   have hrm:=getR_mem hJi
   have hrl:=hw.m _ hrm
   have ers:(qs.map (·.p))++[((rows.getD i []).getD j default).p]=((qs++[((rows.getD i []).getD j default)]).map (·.p)):=by simp
   have etk:((qs.map (·.p)).map ptL).take qs.length=(qs.map (·.p)).map ptL:=List.take_of_length_le (by simp)
   have ehpm:(qs.map (·.p)).length=qs.length:=List.length_map ..
   have hJ2:=hJ.lt hj2
   refine zg17 ?_
   refine st_store rfl (.appX (d:=25) (news:=[ptL ((rows.getD i []).getD j default).p]) rfl rfl rfl rfl (by simp) (.inl rfl) (by decide) Tryz.underlying122 Tryz.underlying122 Z31 T31 cs B31 (.inl ⟨24,0,_,rfl,by decide,rfl,rfl,by simp,rfl,by simp [pures,ptE.pure]⟩) (by simp;omega) (by simp;omega) (by decide)) ?_
   refine zg4 ?_
   refine wl_regW ((Weak.kill _ 7).trans (Weak.kill _ 24)) ?_
   refine st_pure rfl (.bin rfl rfl (add1N (by omega))) ?_
   refine zg3 ?_
   exact nx2 (j+1) (qs++[((rows.getD i []).getD j default)]) (hJ.next hj2)
  ·have hJe:=hJ.hj
   have hJl:=hJ.le
   have hJi:=hJ.hi
   have hrm:=getR_mem hJi
   have hrl:=hw.m _ hrm
   obtain rfl:j=(rows.getD i []).length:=by omega
   refine zg7 ?_
   refine st_pure rfl (.bin rfl rfl (add1N (by omega))) ?_
   refine zg3 ?_
   exact nx2 (i+1) qs hJ.last (hm:=by have:=hJ.hi;omega)
 ·have hIi:=hI.hi
  obtain rfl:i=rows.length:=by omega
  have hE:=hI.last
  subst hE
  refine zg12 ?_
  exact ret1f [25] rfl rfl (imm_refm ptE rfl rfl (by rw [List.length_map]))
namespace H_c_PFlat
theorem zSm {p q:Prop} (k:q) (e:p=q:=by simp only [e1,e2,e3,e4,p1,p2,p3,q1,q2,q3,l1,t0,t1,r1,r2,r3,r4,Nat.zero_add,Nat.reduceMul,Nat.reduceAdd,b1,b2,b3,b4,b5,b6,i1,i2,i3,i4,i5,i6,Nat.reduceBEq,hT,hT2,ratL_zero,plcs,plcs2,Nat.add_sub_cancel,dfr,dfq,prL,hrn,hr0,hrU,hixU,hixV,hpl,List.length_map,List.take_zero,fl_nil,zdiv,List.set_cons_zero,List.set_cons_succ,Nat.reduceEqDiff,reduceIte,if_true,if_false,ptL_kill,poL_kill,kills_map ptE,kills_map poE,kills_map ratE,ratL_kill,spL_kill,LV.kill,kills];exact rfl):p:=e.mpr k
end H_c_PFlat
open H_c_PFlat in
theorem c_PFlat (R U V:Nat) (kU kV:List Rat) (rows:List (List PoR)) (h:pf R U V rows) (hR:R≤200000) (hz:eqV (thN ((rows.getD 0 []).getD 0 default).p ((rows.getD U []).getD 0 default).p ((rows.getD 0 []).getD V default).p) ⟨0,0,0⟩=false):CallP Tryz.prog 27 [.agg [nI64 U,nI64 V,.list 3 (kU.map ratL),.list 3 (kV.map ratL),.list 1 (rows.map prL)]] (.tup [ratL ((flT (thN ((rows.getD 0 []).getD 0 default).p ((rows.getD U []).getD 0 default).p ((rows.getD 0 []).getD V default).p) (v3d (thN ((rows.getD 0 []).getD 0 default).p ((rows.getD U []).getD 0 default).p ((rows.getD 0 []).getD V default).p) ((rows.getD 0 []).getD 0 default).p) (rows.flatten.map (·.p)))/(v3d (thN ((rows.getD 0 []).getD 0 default).p ((rows.getD U []).getD 0 default).p ((rows.getD 0 []).getD V default).p) (thN ((rows.getD 0 []).getD 0 default).p ((rows.getD U []).getD 0 default).p ((rows.getD 0 []).getD V default).p))),iL 0]):=by
 have hsp:LV.pure (.agg [nI64 U,nI64 V,.list 3 (kU.map ratL),.list 3 (kV.map ratL),.list 1 (rows.map prL)])=true:=by simp [LV.pure,pures,pures_map ratE,pures_map prE]
 have h16:=h.l16
 have h0:=h.pos
 have hpl:(rows.flatten.map (·.p)).length=rows.flatten.length:=List.length_map ..
 have hu3:=h.u3
 have hv3:=h.v3
 have hrn:=h.n
 have hr0:=h.r0 (Nat.zero_le U)
 have hrU:=h.r0 (Nat.le_refl U)
 have hixU:(((U+1:Nat):Int)-1).toNat=U:=by omega
 have hixV:(((V+1:Nat):Int)-1).toNat=V:=by omega
 have hA:=h.pt (i:=0) (j:=0) (by omega) (by omega)
 have hB:=h.pt (i:=U) (j:=0) (by omega) (by omega)
 have hC:=h.pt (i:=0) (j:=V) (by omega) (by omega)
 have hT:(rows.flatten.map (·.p)).take (rows.flatten.map (·.p)).length=(rows.flatten.map (·.p)):=List.take_of_length_le (Nat.le_refl _)
 have hT2:(rows.flatten.map (·.p)).take rows.flatten.length=(rows.flatten.map (·.p)):=by rw [←hpl];exact hT
 have hnb:bd3 (8*R+9) (thN ((rows.getD 0 []).getD 0 default).p ((rows.getD U []).getD 0 default).p ((rows.getD 0 []).getD V default).p):=h.thb
 have hdr:rl (v3d (thN ((rows.getD 0 []).getD 0 default).p ((rows.getD U []).getD 0 default).p ((rows.getD 0 []).getD V default).p) ((rows.getD 0 []).getD 0 default).p)≤27*R+31:=by have:=v3d_rl hnb hA;omega
 have hdd:rl (v3d (thN ((rows.getD 0 []).getD 0 default).p ((rows.getD U []).getD 0 default).p ((rows.getD 0 []).getD V default).p) (thN ((rows.getD 0 []).getD 0 default).p ((rows.getD U []).getD 0 default).p ((rows.getD 0 []).getD V default).p))≤48*R+58:=by have:=v3d_rl hnb hnb;omega
 have hfa:=fun i=>fl_all hnb hdr h.fa i
 have hdp:0<(v3d (thN ((rows.getD 0 []).getD 0 default).p ((rows.getD U []).getD 0 default).p ((rows.getD 0 []).getD V default).p) (thN ((rows.getD 0 []).getD 0 default).p ((rows.getD U []).getD 0 default).p ((rows.getD 0 []).getD V default).p)):=nn_pos hz
 refine fnP Tryz.func27 (ht:=(tame2 (ratE.pure _) rfl)) ?_
 refine zg15 ?_
 refine st_pure (guardX (v:=false) rfl rfl ((beq_eq_false_iff_ne.2 (by first | omega | (simp only [List.length_map,prL,hrn,dfr,t0,t1,Nat.add_sub_cancel,hr0,hixU,hrU];omega)))) rfl) faA ?_
 refine st_pure (guardX (v:=false) rfl rfl ((beq_eq_false_iff_ne.2 (by first | omega | (simp only [List.length_map,prL,hrn,dfr,t0,t1,Nat.add_sub_cancel,hr0,hixU,hrU];omega)))) rfl) ldA ?_
 refine st_pure (guardX (v:=false) rfl rfl ((beq_eq_false_iff_ne.2 (by first | omega | (simp only [List.length_map,prL,hrn,dfr,t0,t1,Nat.add_sub_cancel,hr0,hixU,hrU];omega)))) rfl) ixA ?_
 refine st_pure (guardX (v:=false) rfl rfl ((beq_eq_false_iff_ne.2 (by first | omega | (simp only [List.length_map,prL,hrn,dfr,t0,t1,Nat.add_sub_cancel,hr0,hixU,hrU];omega)))) rfl) ldA ?_
 refine st_pure (guardX (v:=false) rfl rfl ((beq_eq_false_iff_ne.2 (by first | omega | (simp only [List.length_map,prL,hrn,dfr,t0,t1,Nat.add_sub_cancel,hr0,hixU,hrU];omega)))) rfl) lnA ?_
 refine st_pure (guardX (v:=false) rfl rfl ((beq_eq_false_iff_ne.2 (by first | omega | (simp only [List.length_map,prL,hrn,dfr,t0,t1,Nat.add_sub_cancel,hr0,hixU,hrU];omega)))) rfl) (.bin rfl rfl rfl) ?_
 refine st_pure rfl (.pickF rfl ((beq_eq_false_iff_ne.2 (by first | omega | (simp only [List.length_map,prL,hrn,dfr,t0,t1,Nat.add_sub_cancel,hr0,hixU,hrU];omega))))) ?_
 refine zg1 ?_
 refine st_pure (guardX (v:=false) rfl rfl ((beq_eq_false_iff_ne.2 (by first | omega | (simp only [List.length_map,prL,hrn,dfr,t0,t1,Nat.add_sub_cancel,hr0,hixU,hrU];omega)))) rfl) faA ?_
 refine st_pure (guardX (v:=false) rfl rfl ((beq_eq_false_iff_ne.2 (by first | omega | (simp only [List.length_map,prL,hrn,dfr,t0,t1,Nat.add_sub_cancel,hr0,hixU,hrU];omega)))) rfl) ldA ?_
 refine st_pure (guardX (v:=false) rfl rfl ((beq_eq_false_iff_ne.2 (by first | omega | (simp only [List.length_map,prL,hrn,dfr,t0,t1,Nat.add_sub_cancel,hr0,hixU,hrU];omega)))) rfl) faA ?_
 refine st_pure (guardX (v:=false) rfl rfl ((beq_eq_false_iff_ne.2 (by first | omega | (simp only [List.length_map,prL,hrn,dfr,t0,t1,Nat.add_sub_cancel,hr0,hixU,hrU];omega)))) rfl) ldA ?_
 refine st_pure (guardX (v:=false) rfl rfl ((beq_eq_false_iff_ne.2 (by first | omega | (simp only [List.length_map,prL,hrn,dfr,t0,t1,Nat.add_sub_cancel,hr0,hixU,hrU];omega)))) rfl) lnA ?_
 refine st_pure (guardX (v:=false) rfl rfl ((beq_eq_false_iff_ne.2 (by first | omega | (simp only [List.length_map,prL,hrn,dfr,t0,t1,Nat.add_sub_cancel,hr0,hixU,hrU];omega)))) rfl) (.bin rfl rfl (sub1N (by first | omega | (simp only [List.length_map,prL,hrn,dfr,t0,t1,Nat.add_sub_cancel,hr0,hixU,hrU];omega)) (by first | omega | (simp only [List.length_map,prL,hrn,dfr,t0,t1,Nat.add_sub_cancel,hr0,hixU,hrU];omega)))) ?_
 refine st_pure (guardX (v:=false) rfl rfl ((beq_eq_false_iff_ne.2 (by first | omega | (simp only [List.length_map,prL,hrn,dfr,t0,t1,Nat.add_sub_cancel,hr0,hixU,hrU];omega)))) rfl) ixA ?_
 try simp only [t1,dfr,prL,List.length_map,hrn,hixU,Nat.add_sub_cancel]
 refine st_pure (guardX (v:=false) rfl rfl ((beq_eq_false_iff_ne.2 (by first | omega | (simp only [List.length_map,prL,hrn,dfr,t0,t1,Nat.add_sub_cancel,hr0,hixU,hrU];omega)))) rfl) ldA ?_
 refine st_pure (guardX (v:=false) rfl rfl ((beq_eq_false_iff_ne.2 (by first | omega | (simp only [List.length_map,prL,hrn,dfr,t0,t1,Nat.add_sub_cancel,hr0,hixU,hrU];omega)))) rfl) lnA ?_
 refine st_pure (guardX (v:=false) rfl rfl ((beq_eq_false_iff_ne.2 (by first | omega | (simp only [List.length_map,prL,hrn,dfr,t0,t1,Nat.add_sub_cancel,hr0,hixU,hrU];omega)))) rfl) (.bin rfl rfl rfl) ?_
 refine st_pure rfl (.pickF rfl ((beq_eq_false_iff_ne.2 (by first | omega | (simp only [List.length_map,prL,hrn,dfr,t0,t1,Nat.add_sub_cancel,hr0,hixU,hrU];omega))))) ?_
 refine zg2 ?_
 refine wl_condY (b:=_) rfl (beq_eq_false_iff_ne.2 (by first | omega | (simp only [List.length_map,prL,hrn,dfr,t0,t1,Nat.add_sub_cancel,hr0,hixU,hrU];omega))) ?_
 refine zg12 ?_
 refine wl_regF 27 [25] (by decide +kernel) ?_
 refine zg9 ?_
 refine st_pure rfl (.bin rfl rfl (sub1N (by first | omega | (simp only [List.length_map,prL,hrn,dfr,t0,t1,Nat.add_sub_cancel,hr0,hixU,hrU];omega)) (by first | omega | (simp only [List.length_map,prL,hrn,dfr,t0,t1,Nat.add_sub_cancel,hr0,hixU,hrU];omega)))) ?_
 refine zg8 ?_
 refine st_pure rfl (.bin rfl rfl (sub1N (by first | omega | (simp only [List.length_map,prL,hrn,dfr,t0,t1,Nat.add_sub_cancel,hr0,hixU,hrU];omega)) (by first | omega | (simp only [List.length_map,prL,hrn,dfr,t0,t1,Nat.add_sub_cancel,hr0,hixU,hrU];omega)))) ?_
 refine zg3 ?_
 try simp only [t1,dfr,dfq,prL,List.length_map,hrn,hr0,hrU,hixU,hixV,Nat.add_sub_cancel]
 refine cp am3 (c_VTh ((rows.getD 0 []).getD 0 default).p ((rows.getD U []).getD 0 default).p ((rows.getD 0 []).getD V default).p R (by omega) hA hB hC hz) ?_
 refine zg15 ?_
 refine wl_condY (b:=_) rfl (rfl) ?_
 refine zg11 ?_
 refine cp am1 (c_ppts U V kU kV rows R h.rw) ?_
 refine zg5 ?_
 refine lp1 (fun(i:Nat) L=>((((((((St.mk L.slot (hp [(1,⟨5,[.agg [nI64 U,nI64 V,.list 3 (kU.map ratL),.list 3 (kV.map ratL),.list 1 (rows.map prL)]],true⟩),(2,⟨3,[ratL 0],true⟩),(5,⟨12,[poL ⟨(thN ((rows.getD 0 []).getD 0 default).p ((rows.getD U []).getD 0 default).p ((rows.getD 0 []).getD V default).p),(v3d (thN ((rows.getD 0 []).getD 0 default).p ((rows.getD U []).getD 0 default).p ((rows.getD 0 []).getD V default).p) ((rows.getD 0 []).getD 0 default).p)⟩],true⟩),(7,⟨3,[ratL (flT (thN ((rows.getD 0 []).getD 0 default).p ((rows.getD U []).getD 0 default).p ((rows.getD 0 []).getD V default).p) (v3d (thN ((rows.getD 0 []).getD 0 default).p ((rows.getD U []).getD 0 default).p ((rows.getD 0 []).getD V default).p) ((rows.getD 0 []).getD 0 default).p) ((rows.flatten.map (·.p)).take i))],true⟩)])).put (some 1) (.eptr 1 5 0 0)).put (some 2) (.eptr 2 3 0 0)).put (some 5) (.eptr 5 12 0 0)).put (some 7) (.eptr 7 3 0 0)).put (some 73) (.list 9 ((rows.flatten.map (·.p)).map ptL))).put (some 74) (nI64 (rows.flatten.map (·.p)).length)).put (some 75) (nI64 i))) (fun i=>i≤(rows.flatten.map (·.p)).length) (fun i=>(rows.flatten.map (·.p)).length-i) 0 (Nat.zero_le _) ?_
 rintro i L1 hi
 refine zg6 ?_
 refine wl_if rfl (fun h76r h76=>?_) (fun h76r h76=>?_)
 ·have hi2:i<(rows.flatten.map (·.p)).length:=by omega
  have hP:=h.fp hi2
  obtain⟨z1,z2,z3⟩:=fl_sz hnb hdr hP
  have hfi:=hfa i
  have hM:CallP Tryz.prog 84 [ratL (flT (thN ((rows.getD 0 []).getD 0 default).p ((rows.getD U []).getD 0 default).p ((rows.getD 0 []).getD V default).p) (v3d (thN ((rows.getD 0 []).getD 0 default).p ((rows.getD U []).getD 0 default).p ((rows.getD 0 []).getD V default).p) ((rows.getD 0 []).getD 0 default).p) ((rows.flatten.map (·.p)).take i)),ratL ((v3d (thN ((rows.getD 0 []).getD 0 default).p ((rows.getD U []).getD 0 default).p ((rows.getD 0 []).getD V default).p) ((rows.flatten.map (·.p)).getD i default)-(v3d (thN ((rows.getD 0 []).getD 0 default).p ((rows.getD U []).getD 0 default).p ((rows.getD 0 []).getD V default).p) ((rows.getD 0 []).getD 0 default).p))*(v3d (thN ((rows.getD 0 []).getD 0 default).p ((rows.getD U []).getD 0 default).p ((rows.getD 0 []).getD V default).p) ((rows.flatten.map (·.p)).getD i default)-(v3d (thN ((rows.getD 0 []).getD 0 default).p ((rows.getD U []).getD 0 default).p ((rows.getD 0 []).getD V default).p) ((rows.getD 0 []).getD 0 default).p)))] (ratL (flT (thN ((rows.getD 0 []).getD 0 default).p ((rows.getD U []).getD 0 default).p ((rows.getD 0 []).getD V default).p) (v3d (thN ((rows.getD 0 []).getD 0 default).p ((rows.getD U []).getD 0 default).p ((rows.getD 0 []).getD V default).p) ((rows.getD 0 []).getD 0 default).p) ((rows.flatten.map (·.p)).take (i+1)))):=by
   have:CallP Tryz.prog 84 [ratL (flT (thN ((rows.getD 0 []).getD 0 default).p ((rows.getD U []).getD 0 default).p ((rows.getD 0 []).getD V default).p) (v3d (thN ((rows.getD 0 []).getD 0 default).p ((rows.getD U []).getD 0 default).p ((rows.getD 0 []).getD V default).p) ((rows.getD 0 []).getD 0 default).p) ((rows.flatten.map (·.p)).take i)),ratL ((v3d (thN ((rows.getD 0 []).getD 0 default).p ((rows.getD U []).getD 0 default).p ((rows.getD 0 []).getD V default).p) ((rows.flatten.map (·.p)).getD i default)-(v3d (thN ((rows.getD 0 []).getD 0 default).p ((rows.getD U []).getD 0 default).p ((rows.getD 0 []).getD V default).p) ((rows.getD 0 []).getD 0 default).p))*(v3d (thN ((rows.getD 0 []).getD 0 default).p ((rows.getD U []).getD 0 default).p ((rows.getD 0 []).getD V default).p) ((rows.flatten.map (·.p)).getD i default)-(v3d (thN ((rows.getD 0 []).getD 0 default).p ((rows.getD U []).getD 0 default).p ((rows.getD 0 []).getD V default).p) ((rows.getD 0 []).getD 0 default).p)))] (ratL (mxR (flT (thN ((rows.getD 0 []).getD 0 default).p ((rows.getD U []).getD 0 default).p ((rows.getD 0 []).getD V default).p) (v3d (thN ((rows.getD 0 []).getD 0 default).p ((rows.getD U []).getD 0 default).p ((rows.getD 0 []).getD V default).p) ((rows.getD 0 []).getD 0 default).p) ((rows.flatten.map (·.p)).take i)) ((v3d (thN ((rows.getD 0 []).getD 0 default).p ((rows.getD U []).getD 0 default).p ((rows.getD 0 []).getD V default).p) ((rows.flatten.map (·.p)).getD i default)-(v3d (thN ((rows.getD 0 []).getD 0 default).p ((rows.getD U []).getD 0 default).p ((rows.getD 0 []).getD V default).p) ((rows.getD 0 []).getD 0 default).p))*(v3d (thN ((rows.getD 0 []).getD 0 default).p ((rows.getD U []).getD 0 default).p ((rows.getD 0 []).getD V default).p) ((rows.flatten.map (·.p)).getD i default)-(v3d (thN ((rows.getD 0 []).getD 0 default).p ((rows.getD U []).getD 0 default).p ((rows.getD 0 []).getD V default).p) ((rows.getD 0 []).getD 0 default).p))))):=c_RMax (flT (thN ((rows.getD 0 []).getD 0 default).p ((rows.getD U []).getD 0 default).p ((rows.getD 0 []).getD V default).p) (v3d (thN ((rows.getD 0 []).getD 0 default).p ((rows.getD U []).getD 0 default).p ((rows.getD 0 []).getD V default).p) ((rows.getD 0 []).getD 0 default).p) ((rows.flatten.map (·.p)).take i)) ((v3d (thN ((rows.getD 0 []).getD 0 default).p ((rows.getD U []).getD 0 default).p ((rows.getD 0 []).getD V default).p) ((rows.flatten.map (·.p)).getD i default)-(v3d (thN ((rows.getD 0 []).getD 0 default).p ((rows.getD U []).getD 0 default).p ((rows.getD 0 []).getD V default).p) ((rows.getD 0 []).getD 0 default).p))*(v3d (thN ((rows.getD 0 []).getD 0 default).p ((rows.getD U []).getD 0 default).p ((rows.getD 0 []).getD V default).p) ((rows.flatten.map (·.p)).getD i default)-(v3d (thN ((rows.getD 0 []).getD 0 default).p ((rows.getD U []).getD 0 default).p ((rows.getD 0 []).getD V default).p) ((rows.getD 0 []).getD 0 default).p))) (by omega)
   rwa [fl_snoc _ _ _ hi2] at this
  refine zg13 ?_
  refine wl_regD 8 (by decide +kernel) ?_
  refine zg3 ?_
  refine cp am2 (c_VDot (thN ((rows.getD 0 []).getD 0 default).p ((rows.getD U []).getD 0 default).p ((rows.getD 0 []).getD V default).p) ((rows.flatten.map (·.p)).getD i default) (8*R+9) (by omega) hnb (hP.le (by omega))) ?_
  refine zg2 ?_
  refine cp am2 (c_RSub (v3d (thN ((rows.getD 0 []).getD 0 default).p ((rows.getD U []).getD 0 default).p ((rows.getD 0 []).getD V default).p) ((rows.flatten.map (·.p)).getD i default)) (v3d (thN ((rows.getD 0 []).getD 0 default).p ((rows.getD U []).getD 0 default).p ((rows.getD 0 []).getD V default).p) ((rows.getD 0 []).getD 0 default).p) (by omega)) ?_
  refine zg4 ?_
  refine wl_regD 5 (by decide +kernel) ?_
  refine zg3 ?_
  refine cp am2 (c_RMul (v3d (thN ((rows.getD 0 []).getD 0 default).p ((rows.getD U []).getD 0 default).p ((rows.getD 0 []).getD V default).p) ((rows.flatten.map (·.p)).getD i default)-(v3d (thN ((rows.getD 0 []).getD 0 default).p ((rows.getD U []).getD 0 default).p ((rows.getD 0 []).getD V default).p) ((rows.getD 0 []).getD 0 default).p)) (v3d (thN ((rows.getD 0 []).getD 0 default).p ((rows.getD U []).getD 0 default).p ((rows.getD 0 []).getD V default).p) ((rows.flatten.map (·.p)).getD i default)-(v3d (thN ((rows.getD 0 []).getD 0 default).p ((rows.getD U []).getD 0 default).p ((rows.getD 0 []).getD V default).p) ((rows.getD 0 []).getD 0 default).p)) (by omega)) ?_
  refine cp am2 (hM) ?_
  refine zg4 ?_
  refine wl_regW ((Weak.kill _ 10).trans (Weak.kill _ 9)) ?_
  refine st_pure rfl (.bin rfl rfl (add1N (by omega))) ?_
  refine zg3 ?_
  exact nx1 (i+1) (by omega)
 ·obtain rfl:i=(rows.flatten.map (·.p)).length:=by omega
  refine zg6 ?_
  refine wl_regF 11 [9] (by decide +kernel) ?_
  refine zg5 ?_
  refine cp am2 (c_VDot (thN ((rows.getD 0 []).getD 0 default).p ((rows.getD U []).getD 0 default).p ((rows.getD 0 []).getD V default).p) (thN ((rows.getD 0 []).getD 0 default).p ((rows.getD U []).getD 0 default).p ((rows.getD 0 []).getD V default).p) (8*R+9) (by omega) hnb hnb) ?_
  simp only [hT]
  refine cp am2 (c_RQuo (flT (thN ((rows.getD 0 []).getD 0 default).p ((rows.getD U []).getD 0 default).p ((rows.getD 0 []).getD V default).p) (v3d (thN ((rows.getD 0 []).getD 0 default).p ((rows.getD U []).getD 0 default).p ((rows.getD 0 []).getD V default).p) ((rows.getD 0 []).getD 0 default).p) (rows.flatten.map (·.p))) (v3d (thN ((rows.getD 0 []).getD 0 default).p ((rows.getD U []).getD 0 default).p ((rows.getD 0 []).getD V default).p) (thN ((rows.getD 0 []).getD 0 default).p ((rows.getD U []).getD 0 default).p ((rows.getD 0 []).getD V default).p)) (by have:=hfa (rows.flatten.map (·.p)).length;rw [hT] at this;omega)) ?_
  refine zg16 ?_
  exact retCT [] rfl rfl rfl (ratE.csize _) (ratL_all _) T29 (.pure (ratE.pure _)) rfl (.pure rfl)
theorem plZ36:ZeroOK Tryz.prog 36 (plL []):=⟨Tryz.t36,_,by kernel_rfl,rfl,rfl,fun _ _ _=>repNil0 3⟩
instance:EC Tryz.prog 36 plL 1 false []:=⟨plE,plZ36,T36⟩
theorem rep0 (n:Nat):List.replicate n (ratL 0)=(List.replicate n (0:Rat)).map ratL:=by simp
def poN (q:PoR):List Rat:=[q.p.x,q.p.y,q.p.z,q.w]
def sfN (a b:List Rat) (ps:List PoR):List Rat:=a++b++(ps.map poN).flatten
theorem sfN_nil (a b:List Rat):sfN a b []=a++b:=by simp [sfN]
theorem sfN_sn (a b:List Rat) (ps:List PoR) (q:PoR):sfN a b ps++[q.p.x,q.p.y,q.p.z,q.w]=sfN a b (ps++[q]):=by simp [sfN,poN]
theorem sfN_len (a b:List Rat) (ps:List PoR):(sfN a b ps).length=a.length+b.length+4*ps.length:=by
 induction ps with
 | nil=>simp [sfN]
 | cons q ps ih =>
  simp only [sfN,List.map_cons,List.flatten_cons,List.length_append,List.length_cons,poN,List.length_nil] at ih ⊢
  omega
theorem sfN_rl {a b:List Rat} {ps:List PoR} (ha:∀ x∈a,rl x≤64) (hb:∀ x∈b,rl x≤64) (hp:∀ q∈ps,okP 64 q):∀ x∈sfN a b ps,rl x≤64:=fun x hx=>by
 simp only [sfN,List.mem_append,List.mem_flatten,List.mem_map] at hx
 rcases hx with(h | h) | ⟨l,⟨q,hq,rfl⟩,h⟩
 ·exact ha x h
 ·exact hb x h
 ·obtain⟨⟨h1,h2,h3⟩,h4,_⟩:=hp q hq
  simp only [poN,List.mem_cons,List.not_mem_nil,or_false] at h
  rcases h with rfl | rfl | rfl | rfl<;>assumption
theorem neqF {a b:Int} {k:IntKind} (h:a=b):binI .neq k a b=some (.bool false):=by simp [binI,h]
theorem okP.le {R S:Nat} {q:PoR} (h:okP R q) (hRS:R≤S):okP S q:=⟨h.1.le hRS,Nat.le_trans h.2.1 hRS,h.2.2⟩
theorem frz_c (bs:List Nat) (c:Nat) (y:Blk) (l:List (Nat × Blk)):frzH bs ((c,y) :: l)=(c,⟨y.sz,y.vals,y.mt && !bs.contains c⟩) :: frzH bs l:=rfl
theorem tz01:Int.toNat (0+1)=1:=rfl
namespace H_c_Grow0
theorem zSm {p q:Prop} (k:q) (e:p=q:=by simp only [e1,e2,e3,e4,p1,p2,p3,q1,q2,q3,l1,t0,t1,r1,r2,r3,r4,Nat.zero_add,Nat.reduceMul,Nat.reduceAdd,b1,b2,b3,b4,b5,b6,i1,i2,i3,i4,i5,i6,Nat.reduceBEq,rep0,List.set_cons_zero,List.set_cons_succ,Nat.reduceEqDiff,reduceIte,if_true,if_false,ptL_kill,poL_kill,kills_map ptE,kills_map poE,kills_map ratE,ratL_kill,spL_kill,LV.kill,kills];exact rfl):p:=e.mpr k
end H_c_Grow0
open H_c_Grow0 in
theorem c_Grow0 (n:Nat) (h0:0<n) (hl:n≤1048576):CallOK Tryz.prog 267 [.v (.slice none 0 0),nI64 n] (.ref 1 3 0 0) [⟨3,(List.replicate n (0:Rat)).map ratL,true⟩]:=by
 refine fnO Tryz.func267 ?_
 refine zg12 ?_
 refine wl_if rfl (fun h6r h6=>?_) (fun h6r h6=>?_)
 ·omega
 ·refine zg7 ?_
  refine st_pure rfl (.capN rfl rfl Tryz.underlying36) ?_
  refine zg2 ?_
  refine st_pure rfl (.bin rfl rfl (subNN (a:=0) (b:=0) (c:=0) (by omega) (by omega))) ?_
  refine st_pure rfl (.bin rfl rfl (subNN (a:=n) (b:=0) (c:=n) (by omega) (by omega))) ?_
  refine zg9 ?_
  refine wl_if rfl (fun h16r h16=>?_) (fun h16r h16=>?_)
  ·refine zg3 ?_
   refine st_pure rfl (.capN rfl rfl Tryz.underlying36) ?_
   refine st_pure rfl (.sliceN rfl Tryz.underlying36 T29 rfl) ?_
   refine zg1 ?_
   refine st_opm rfl rfl (.appz (d:=22) (z:=ratL 0) (n:=n) Tryz.underlying36 Tryz.underlying3 (ratL_zero ▸ Z29a) (by rw [ratE.isAgg];exact T29) (ratE.csize _) B29 rfl rfl rfl (by omega) (by decide) (by omega) (by omega)) ?_
   refine zg2 ?_
   refine st_pure rfl (by first | exact .sliceLh (h:=_) ratE rfl Tryz.underlying36 T29 rfl om | exact .sliceRh rfl Tryz.underlying36 T29 rfl om om) ?_
   refine zg10 ?_
   refine ret1own (b:=22) (len:=0) (blk:=⟨3,(List.replicate n (0:Rat)).map ratL,true⟩) ?_ ?_ (pures_map ratE _)
   ·exact cl
   ·exact cl
  ·omega
namespace H_c_Concat2
theorem zSm {p q:Prop} (k:q) (e:p=q:=by simp only [e1,e2,e3,e4,p1,p2,p3,q1,q2,q3,l1,t0,t1,r1,r2,r3,r4,Nat.zero_add,Nat.reduceMul,Nat.reduceAdd,b1,b2,b3,b4,b5,b6,i1,i2,i3,i4,i5,i6,Nat.reduceBEq,kills_append,tz01,List.getD_cons_zero,List.getD_cons_succ,List.length_cons,List.length_nil,htk,frz_nil,List.take_zero,List.nil_append,List.map_append,List.length_append,List.length_map,List.set_cons_zero,List.set_cons_succ,Nat.reduceEqDiff,reduceIte,if_true,if_false,ptL_kill,poL_kill,kills_map ptE,kills_map poE,kills_map ratE,ratL_kill,spL_kill,LV.kill,kills];exact rfl):p:=e.mpr k
end H_c_Concat2
open H_c_Concat2 in
theorem c_Concat2 (k m:List Rat) (h0:0<k.length) (hk:k.length≤1000) (hm:m.length≤1000):CallOK Tryz.prog 221 [.list 1 ([k,m].map plL)] (.ref 1 3 0 (k.length+m.length)) [⟨3,(k++m).map ratL,true⟩]:=by
 have hpk:=pure_lst ratE 3 k
 have hpm:=pure_lst ratE 3 m
 have hkl:(k.map ratL).length=k.length:=List.length_map ..
 have htk:(k.map ratL).take k.length=k.map ratL:=List.take_of_length_le (by simp)
 refine fnO Tryz.func221 ?_
 refine zg19 ?_
 refine wl_unroll ?_
 refine zg6 ?_
 refine wl_condX (b:=_) rfl (rfl) ?_
 refine zg16 ?_
 refine st_pure rfl (.bin rfl rfl (add64N (a:=0) (b:=k.length) (by omega))) ?_
 refine zg9 ?_
 refine wl_if rfl (fun h20r h20=>?_) (fun h20r h20=>?_)
 ·omega
 ·refine zg8 ?_
  refine wl_unroll ?_
  refine zg6 ?_
  refine wl_condX (b:=_) rfl (rfl) ?_
  refine zg16 ?_
  refine st_pure rfl (.bin rfl rfl (add64N (a:=k.length) (b:=m.length) (by omega))) ?_
  refine zg9 ?_
  refine wl_if rfl (fun h20r h20=>?_) (fun h20r h20=>?_)
  ·omega
  ·refine zg8 ?_
   refine wl_unroll ?_
   refine zg6 ?_
   refine wl_condY (b:=_) rfl (rfl) ?_
   refine zg8 ?_
   refine st_call1 [] rfl rfl (.cons (.pure rfl) (.cons (.pure rfl) .nil)) (c_Grow0 (k.length+m.length) (by omega) (by omega)) (pures_map ratE _) rfl ?_
   refine zg12 ?_
   refine wl_unroll ?_
   refine zg6 ?_
   refine wl_condX (b:=_) rfl (rfl) ?_
   refine zg14 ?_
   refine st_store rfl (.appX (d:=33) (news:=k.map ratL) rfl rfl rfl rfl (by simp) (.inr rfl) (by decide) Tryz.underlying36 Tryz.underlying36 Z29a T29 rfl B29 (.inr (.inl rfl)) (by rw [List.length_map];omega) (by rw [List.length_map];omega) (by decide)) ?_
   refine zg9 ?_
   refine wl_unroll ?_
   refine zg6 ?_
   refine wl_condX (b:=_) rfl (rfl) ?_
   refine zg14 ?_
   refine st_store rfl (.appX (d:=33) (news:=m.map ratL) rfl rfl rfl rfl (by simp) (.inl rfl) (by decide) Tryz.underlying36 Tryz.underlying36 Z29a T29 rfl B29 (.inr (.inl rfl)) (by rw [List.length_map];omega) (by rw [List.length_map];omega) (by decide)) ?_
   refine zg9 ?_
   refine wl_unroll ?_
   refine zg6 ?_
   refine wl_condY (b:=_) rfl (rfl) ?_
   refine zg12 ?_
   refine ret1own (b:=33) (len:=k.length+m.length) (blk:=⟨3,(k++m).map ratL,true⟩) ?_ ?_ (pures_map ratE _)
   ·exact cl
   ·exact cl
namespace H_c_snums
theorem zSm {p q:Prop} (k:q) (e:p=q:=by simp only [e1,e2,e3,e4,p1,p2,p3,q1,q2,q3,l1,t0,t1,r1,r2,r3,r4,Nat.zero_add,Nat.reduceMul,Nat.reduceAdd,b1,b2,b3,b4,b5,b6,i1,i2,i3,i4,i5,i6,Nat.reduceBEq,frz_c,fz0,prL,ehetk,ehers,hs0,map4,prL_kill,kills_map prE,dfr,dfq,take_map_len,map_snoc,len_snoc,List.length_cons,List.length_nil,List.nil_append,List.map_nil,List.take_nil,List.append_nil,List.set_cons_zero,List.set_cons_succ,Nat.reduceEqDiff,reduceIte,if_true,if_false,ptL_kill,poL_kill,kills_map ptE,kills_map poE,kills_map ratE,ratL_kill,spL_kill,LV.kill,kills];exact rfl):p:=e.mpr k
end H_c_snums
open H_c_snums in
theorem c_snums (U V:Nat) (kU kV:List Rat) (rows:List (List PoR)) (R:Nat) (hw:rwOK rows R) (h0:0<kU.length) (hkU:kU.length≤1000) (hkV:kV.length≤1000):CallP Tryz.prog 155 [.agg [nI64 U,nI64 V,.list 3 (kU.map ratL),.list 3 (kV.map ratL),.list 1 (rows.map prL)]] (.list 3 ((sfN kU kV rows.flatten).map ratL)):=by
 have hsp:LV.pure (.agg [nI64 U,nI64 V,.list 3 (kU.map ratL),.list 3 (kV.map ratL),.list 1 (rows.map prL)])=true:=by simp [LV.pure,pures,pures_map ratE,pures_map prE]
 have hwn:=hw.n
 have hwf:=hw.f
 have hs0:=sfN_nil kU kV
 have hp2:=pure_lst plE 1 [kU,kV]
 refine fnP Tryz.func155 (ht:=(fun g=>LV.ren_pure g _ (pure_lst ratE 3 _))) ?_
 have ehetk:True:=trivial
 have ehers:True:=trivial
 refine zg13 ?_
 refine st_call1 [12] rfl rfl (.cons (imm_refm plE rfl rfl rfl) .nil) (c_Concat2 kU kV h0 hkU hkV) (pures_map ratE _) rfl ?_
 refine zg13 ?_
 refine wl_weak ((Weak.kill _ 1).trans (Weak.kill _ 12)) ?_
 refine lp2 (fun(i:Nat) (ps:List PoR) L=>(((((St.mk L.slot (hp [(1000209,⟨3,(sfN kU kV ps).map ratL,true⟩)])).put (some 3) (.ref 1000209 3 0 (kU.length+kV.length+4*ps.length))).put (some 15) (.list 1 (rows.map prL))).put (some 16) (nI64 rows.length)).put (some 17) (nI64 i))) (fun i ps=>rwI rows i ps) (fun i ps=>rows.length-i) 0 ([]) (rwI.zero rows) ?_
 rintro i ps L1 hI
 refine zg6 ?_
 refine wl_if rfl (fun h18r h18=>?_) (fun h18r h18=>?_)
 ·have hi2:i<rows.length:=by omega
  refine zg19 ?_
  refine lp2 (fun(j:Nat) (qs:List PoR) L=>((((((((St.mk L.slot (hp [(1000209,⟨3,(sfN kU kV qs).map ratL,true⟩)])).put (some 3) (.ref 1000209 3 0 (kU.length+kV.length+4*qs.length))).put (some 15) (.list 1 (rows.map prL))).put (some 16) (nI64 rows.length)).put (some 17) (nI64 i)).put (some 21) (.list 12 ((rows.getD i []).map poL))).put (some 22) (nI64 (rows.getD i []).length)).put (some 23) (nI64 j))) (fun j qs=>rwJ rows i j qs) (fun j qs=>(rows.getD i []).length-j) 0 ps (hI.go hi2) ?_
  rintro j qs L2 hJ
  refine zg6 ?_
  refine wl_if rfl (fun h24r h24=>?_) (fun h24r h24=>?_)
  ·have hj2:j<(rows.getD i []).length:=by omega
   have hJe:=hJ.hj
   have hJl:=hJ.le
   have hJi:=hJ.hi
   have hrm:=getR_mem hJi
   have hrl:=hw.m _ hrm
   have hlc:=sfN_len kU kV qs
   have ehers:(sfN kU kV qs)++[((rows.getD i []).getD j default).p.x,((rows.getD i []).getD j default).p.y,((rows.getD i []).getD j default).p.z,((rows.getD i []).getD j default).w]=(sfN kU kV (qs++[((rows.getD i []).getD j default)])):=sfN_sn _ _ _ _
   have ehetk:((sfN kU kV qs).map ratL).take (kU.length+kV.length+4*qs.length)=(sfN kU kV qs).map ratL:=List.take_of_length_le (by rw [List.length_map];omega)
   have hJ2:=hJ.lt hj2
   refine zg26 ?_
   refine st_store rfl (.appX (d:=1000209) (news:=[ratL ((rows.getD i []).getD j default).p.x,ratL ((rows.getD i []).getD j default).p.y,ratL ((rows.getD i []).getD j default).p.z,ratL ((rows.getD i []).getD j default).w]) rfl rfl rfl rfl (by simp;omega) (.inl rfl) (by decide) Tryz.underlying36 Tryz.underlying36 Z29a T29 rfl B29 (.inl ⟨39,0,_,rfl,by decide,rfl,rfl,by simp,rfl,by simp [pures,ratE.pure]⟩) (by simp;omega) (by simp;omega) (by decide)) ?_
   refine zg4 ?_
   refine wl_regW ((Weak.kill _ 7).trans (Weak.kill _ 39)) ?_
   refine st_pure rfl (.bin rfl rfl (add1N (by omega))) ?_
   refine zg3 ?_
   exact nx2 (j+1) (qs++[((rows.getD i []).getD j default)]) (hJ.next hj2)
  ·have hJe:=hJ.hj
   have hJl:=hJ.le
   have hJi:=hJ.hi
   have hrm:=getR_mem hJi
   have hrl:=hw.m _ hrm
   obtain rfl:j=(rows.getD i []).length:=by omega
   refine zg7 ?_
   refine st_pure rfl (.bin rfl rfl (add1N (by omega))) ?_
   refine zg3 ?_
   exact nx2 (i+1) qs hJ.last (hm:=by have:=hJ.hi;omega)
 ·have hIi:=hI.hi
  obtain rfl:i=rows.length:=by omega
  have hE:=hI.last
  subst hE
  refine zg12 ?_
  exact ret1f [1000209] rfl rfl (imm_refm ratE rfl rfl (by rw [sfN_len]))
namespace H_c_IdxW
theorem zSm {p q:Prop} (k:q) (e:p=q:=by simp only [e1,e2,e3,e4,p1,p2,p3,q1,q2,q3,l1,t0,t1,r1,r2,r3,r4,Nat.zero_add,Nat.reduceMul,Nat.reduceAdd,b1,b2,b3,b4,b5,b6,i1,i2,i3,i4,i5,i6,Nat.reduceBEq,dfr,List.set_cons_zero,List.set_cons_succ,Nat.reduceEqDiff,reduceIte,if_true,if_false,ptL_kill,poL_kill,kills_map ptE,kills_map poE,kills_map ratE,ratL_kill,spL_kill,LV.kill,kills,List.length_map];exact rfl):p:=e.mpr k
end H_c_IdxW
open H_c_IdxW in
theorem c_IdxW (f:Nat) (cap:List LV) (hcp:pures cap=true) (hcs:∀ x∈cap,x.csize=1∧x.isAgg=false) (pr:List PoR→Bool) (l:List (List PoR)) (hl:l.length≤1048576) (hf:∀ x∈l,CallP Tryz.prog f ([prL x]++cap) (bL (pr x))):CallP Tryz.prog 270 [.list 1 (l.map prL),.clo f cap] (iL (fIdx pr l)):=by
 refine fnP Tryz.func270 ?_
 refine zg14 ?_
 refine lp1 (fun(i:Nat) L=>((((((St.mk L.slot (hp [])).put (some 0) (.list 1 (l.map prL))).put (some 1) (.clo f cap)).put (some 6) (.list 1 (l.map prL))).put (some 7) (nI64 l.length)).put (some 8) (nI64 i))) (fun i=>i≤l.length∧∀ j,j<i→pr (l.getD j default)=false) (fun i=>l.length-i) 0 ⟨Nat.zero_le _,fun j hj=>absurd hj (Nat.not_lt_zero j)⟩ ?_
 rintro i L1 ⟨hi,h0⟩
 refine zg6 ?_
 refine wl_if rfl (fun h9r h9=>?_) (fun h9r h9=>?_)
 ·have hi2:i<l.length:=by omega
  have hc:=hf _ (getD_memL hi2)
  have hpp:=prE.pure (l.getD i [])
  refine zg17 ?_
  refine st_opc [] rfl rfl (.clo (f:=f) (cap:=cap) (args:=[prL (l.getD i [])]) rfl (.cons im0 .nil) ⟨hcp,hcs⟩ hc.1 (by decide) (fun _ h=>by cases h)) (hc.2 _) ?_
  refine zg2 ?_
  refine wl_if rfl (fun h16r h16=>?_) (fun h16r h16=>?_)
  ·have hV:fIdx pr l=(i:Int):=fIdx_hit hi2 h0 (by first | exact h16r | exact h16)
   refine zg12 ?_
   rw [hV]
   exact ret1 rfl (.pure rfl)
  ·have hn:∀ j,j<i+1→pr (l.getD j default)=false:=fun j hj=>by
    rcases Nat.lt_succ_iff_lt_or_eq.1 hj with e | rfl
    ·exact h0 j e
    ·first | exact h16r | (simpa using h16)
   refine zg4 ?_
   refine st_pure rfl (.bin rfl rfl (add1N (by omega))) ?_
   refine zg3 ?_
   exact nx1 (i+1) ⟨by omega,hn⟩
 ·obtain rfl:i=l.length:=by omega
  refine zg11 ?_
  rw [fIdx_none h0]
  exact ret1 rfl (.pure rfl)
namespace H_c_HasW
theorem zSm {p q:Prop} (k:q) (e:p=q:=by simp only [e1,e2,e3,e4,p1,p2,p3,q1,q2,q3,l1,t0,t1,r1,r2,r3,r4,Nat.zero_add,Nat.reduceMul,Nat.reduceAdd,b1,b2,b3,b4,b5,b6,i1,i2,i3,i4,i5,i6,Nat.reduceBEq,List.set_cons_zero,List.set_cons_succ,Nat.reduceEqDiff,reduceIte,if_true,if_false,ptL_kill,poL_kill,kills_map ptE,kills_map poE,kills_map ratE,ratL_kill,spL_kill,LV.kill,kills];exact rfl):p:=e.mpr k
end H_c_HasW
open H_c_HasW in
theorem c_HasW (f:Nat) (cap:List LV) (hcp:pures cap=true) (hcs:∀ x∈cap,x.csize=1∧x.isAgg=false) (pr:List PoR→Bool) (l:List (List PoR)) (hl:l.length≤1048576) (hf:∀ x∈l,CallP Tryz.prog f ([prL x]++cap) (bL (pr x))):CallP Tryz.prog 228 [.list 1 (l.map prL),.clo f cap] (bL (l.any pr)):=by
 refine fnP Tryz.func228 ?_
 refine zg9 ?_
 refine st_callP rfl (.cons (.pure (pure_lst prE 1 _)) (.cons (.pure (show LV.pure (.clo f cap)=true by simpa [LV.pure] using hcp)) .nil)) (c_IdxW f cap hcp hcs pr l hl hf) ?_
 refine zg5 ?_
 rw [←fIdx_any]
 exact ret1 rfl (.pure rfl)
open H0 in
theorem c_SChk1 (q:Rat) (h:rl q≤1000):CallP Tryz.prog 157 [ratL q] (bL false):=by
 refine fnP Tryz.func157 ?_
 refine zg9 ?_
 refine cp am1 (c_RValid _ (by omega)) ?_
 refine zg5 ?_
 exact ret1 rfl (.pure rfl)
namespace H_c_SChk2
theorem zSm {p q:Prop} (k:q) (e:p=q:=by simp only [e1,e2,e3,e4,p1,p2,p3,q1,q2,q3,l1,t0,t1,r1,r2,r3,r4,Nat.zero_add,Nat.reduceMul,Nat.reduceAdd,b1,b2,b3,b4,b5,b6,i1,i2,i3,i4,i5,i6,Nat.reduceBEq,hsg];exact rfl):p:=e.mpr k
end H_c_SChk2
open H_c_SChk2 in
theorem c_SChk2 (q:PoR) (h:okP 1000 q):CallP Tryz.prog 162 [poL q] (bL false):=by
 obtain⟨_,hw,hp⟩:=h
 have hsg:sgnR q.w=1:=sgn_pos hp
 refine fnP Tryz.func162 ?_
 refine zg10 ?_
 refine cp am1 (c_RSign q.w (by omega)) ?_
 refine zg5 ?_
 exact ret1 rfl (.pure rfl)
open H0 in
theorem c_SChk3 (q:Rat) (h:rl q≤64):CallP Tryz.prog 163 [ratL q] (bL false):=by
 have hb:=bitR_le h
 refine fnP Tryz.func163 ?_
 refine zg9 ?_
 refine cp am1 (c_RBits q (by omega)) ?_
 refine zg5 ?_
 refine ret1 (x:=bL (decide ((bitR q:Int) > 2048))) rfl ?_
 rw [decide_eq_false (by omega)]
 exact .pure rfl
namespace H_c_SRc1
theorem zSm {p q:Prop} (k:q) (e:p=q:=by simp only [e1,e2,e3,e4,p1,p2,p3,q1,q2,q3,l1,t0,t1,r1,r2,r3,r4,Nat.zero_add,Nat.reduceMul,Nat.reduceAdd,b1,b2,b3,b4,b5,b6,i1,i2,i3,i4,i5,i6,Nat.reduceBEq,prL,List.length_map,prL_kill,kills_map prE,dfr,dfq,take_map_len,map_snoc,len_snoc,List.length_cons,List.length_nil,List.nil_append,List.map_nil,List.take_nil,List.append_nil,List.set_cons_zero,List.set_cons_succ,Nat.reduceEqDiff,reduceIte,if_true,if_false,ptL_kill,poL_kill,kills_map ptE,kills_map poE,kills_map ratE,ratL_kill,spL_kill,LV.kill,kills];exact rfl):p:=e.mpr k
end H_c_SRc1
open H_c_SRc1 in
theorem c_SRc1 (U V:Nat) (kU kV:List Rat) (rows:List (List PoR)) (r:List PoR) (hl:V+1≤kV.length) (hkl:kV.length≤1000) (hr:r.length=kV.length-V-1):CallP Tryz.prog 229 [prL r,.boxp (.agg [nI64 U,nI64 V,.list 3 (kU.map ratL),.list 3 (kV.map ratL),.list 1 (rows.map prL)])] (bL false):=by
 have hsp:LV.pure (.agg [nI64 U,nI64 V,.list 3 (kU.map ratL),.list 3 (kV.map ratL),.list 1 (rows.map prL)])=true:=by simp [LV.pure,pures,pures_map ratE,pures_map prE]
 have hpr:=prE.pure r
 have hpv:=pure_lst ratE 3 kV
 refine fnP Tryz.func229 ?_
 refine zg13 ?_
 refine cp am2 (c_KPoles kV V hl (by omega)) ?_
 refine st_pure rfl (.bin rfl rfl ((neqF (by first | omega | (simp only [List.length_map,prL];omega))))) ?_
 refine zg4 ?_
 exact ret1 rfl (.pure rfl)
namespace H_c_SRct
theorem zSm {p q:Prop} (k:q) (e:p=q:=by simp only [e1,e2,e3,e4,p1,p2,p3,q1,q2,q3,l1,t0,t1,r1,r2,r3,r4,Nat.zero_add,Nat.reduceMul,Nat.reduceAdd,b1,b2,b3,b4,b5,b6,i1,i2,i3,i4,i5,i6,Nat.reduceBEq,prL,any_ff,List.length_map,prL_kill,kills_map prE,dfr,dfq,take_map_len,map_snoc,len_snoc,List.length_cons,List.length_nil,List.nil_append,List.map_nil,List.take_nil,List.append_nil,List.set_cons_zero,List.set_cons_succ,Nat.reduceEqDiff,reduceIte,if_true,if_false,ptL_kill,poL_kill,kills_map ptE,kills_map poE,kills_map ratE,ratL_kill,spL_kill,LV.kill,kills];exact rfl):p:=e.mpr k
end H_c_SRct
open H_c_SRct in
theorem c_SRct (U V:Nat) (kU kV:List Rat) (rows:List (List PoR)) (hkU:kOK kU U) (hkV:kOK kV V) (hn:rows.length=kU.length-U-1) (hm:∀ r∈rows,r.length=kV.length-V-1) (hq:∀ r∈rows,∀ q∈r,okP 64 q):CallP Tryz.prog 160 [.agg [nI64 U,nI64 V,.list 3 (kU.map ratL),.list 3 (kV.map ratL),.list 1 (rows.map prL)]] (bL true):=by
 have hsp:LV.pure (.agg [nI64 U,nI64 V,.list 3 (kU.map ratL),.list 3 (kV.map ratL),.list 1 (rows.map prL)])=true:=by simp [LV.pure,pures,pures_map ratE,pures_map prE]
 have hU1:=hkU.d1
 have hU6:=hkU.d6
 have hUl:=hkU.len
 have hUm:=hkU.max
 have hV1:=hkV.d1
 have hV6:=hkV.d6
 have hVl:=hkV.len
 have hVm:=hkV.max
 have hbp:pures [.boxp (.agg [nI64 U,nI64 V,.list 3 (kU.map ratL),.list 3 (kV.map ratL),.list 1 (rows.map prL)])]=true:=by simp [pures,LV.pure,pures_map ratE,pures_map prE]
 refine fnP Tryz.func160 ?_
 refine zg7 ?_
 refine wl_regD 17 (by decide +kernel) ?_
 refine zg7 ?_
 refine cp am2 (c_KPoles kU U (by omega) (by omega)) ?_
 refine zg2 ?_
 refine st_pure (guardX (v:=true) rfl rfl ((beq_iff_eq.2 (by first | omega | (simp only [List.length_map];omega)))) rfl) faA ?_
 refine st_pure (guardX (v:=true) rfl rfl ((beq_iff_eq.2 (by first | omega | (simp only [List.length_map];omega)))) rfl) ldA ?_
 refine st_opc [1] (guardX (v:=true) rfl rfl ((beq_iff_eq.2 (by first | omega | (simp only [List.length_map];omega)))) rfl) rfl (.mk (caps:=[.boxp (.agg [nI64 U,nI64 V,.list 3 (kU.map ratL),.list 3 (kV.map ratL),.list 1 (rows.map prL)])]) (.cons (.eptr rfl rfl rfl cs (at_all cs rfl) hsp rfl) .nil) (fun x hx=>by rw [List.mem_singleton.1 hx];exact⟨rfl,rfl⟩)) rfl ?_
 refine st_callP (guardX (v:=true) rfl rfl ((beq_iff_eq.2 (by first | omega | (simp only [List.length_map];omega)))) rfl) (.cons (.pure (pure_lst prE 1 _)) (.cons (.pure (show LV.pure (.clo 229 [.boxp (.agg [nI64 U,nI64 V,.list 3 (kU.map ratL),.list 3 (kV.map ratL),.list 1 (rows.map prL)])])=true by simpa [LV.pure] using hbp)) .nil)) (c_HasW 229 [.boxp (.agg [nI64 U,nI64 V,.list 3 (kU.map ratL),.list 3 (kV.map ratL),.list 1 (rows.map prL)])] hbp (fun x hx=>by rw [List.mem_singleton.1 hx];exact⟨rfl,rfl⟩) (fun _=>false) rows (by omega) (fun x hx=>c_SRc1 U V kU kV rows x (by omega) (by omega) (hm x hx))) ?_
 refine st_pure (guardX (v:=true) rfl rfl ((beq_iff_eq.2 (by first | omega | (simp only [List.length_map];omega)))) rfl) (.not rfl) ?_
 refine st_pure rfl (.pickT rfl ((beq_iff_eq.2 (by first | omega | (simp only [List.length_map];omega))))) ?_
 refine zg4 ?_
 refine ret1 ?_ (.pure rfl)
 first | rfl | (simp only [any_ff];rfl)
namespace H_c_SCheck
theorem zSm {p q:Prop} (k:q) (e:p=q:=by simp only [e1,e2,e3,e4,p1,p2,p3,q1,q2,q3,l1,t0,t1,r1,r2,r3,r4,Nat.zero_add,Nat.reduceMul,Nat.reduceAdd,b1,b2,b3,b4,b5,b6,i1,i2,i3,i4,i5,i6,Nat.reduceBEq,prL,any_ff,dfr,List.length_map,prL_kill,kills_map prE,dfr,dfq,take_map_len,map_snoc,len_snoc,List.length_cons,List.length_nil,List.nil_append,List.map_nil,List.take_nil,List.append_nil,List.set_cons_zero,List.set_cons_succ,Nat.reduceEqDiff,reduceIte,if_true,if_false,ptL_kill,poL_kill,kills_map ptE,kills_map poE,kills_map ratE,ratL_kill,spL_kill,LV.kill,kills];exact rfl):p:=e.mpr k
end H_c_SCheck
open H_c_SCheck in
theorem c_SCheck (U V:Nat) (kU kV:List Rat) (rows:List (List PoR)) (hkU:kOK kU U) (hkV:kOK kV V) (hn:rows.length=kU.length-U-1) (hm:∀ r∈rows,r.length=kV.length-V-1) (hq:∀ r∈rows,∀ q∈r,okP 64 q):CallP Tryz.prog 88 [.agg [nI64 U,nI64 V,.list 3 (kU.map ratL),.list 3 (kV.map ratL),.list 1 (rows.map prL)]] (iL 0):=by
 have hsp:LV.pure (.agg [nI64 U,nI64 V,.list 3 (kU.map ratL),.list 3 (kV.map ratL),.list 1 (rows.map prL)])=true:=by simp [LV.pure,pures,pures_map ratE,pures_map prE]
 have hU1:=hkU.d1
 have hU6:=hkU.d6
 have hUl:=hkU.len
 have hUm:=hkU.max
 have hV1:=hkV.d1
 have hV6:=hkV.d6
 have hVl:=hkV.len
 have hVm:=hkV.max
 have hrw:rwOK rows 64:=by
  refine⟨hq,by omega,fun r hr=>by have:=hm r hr;omega,?_⟩
  rw [flat_len hm]
  exact Nat.le_trans (Nat.mul_le_mul (show rows.length≤100 by omega) (show kV.length-V-1≤100 by omega)) (by decide)
 have hfl:=hrw.f
 have hN:=sfN_len kU kV rows.flatten
 have hR:=sfN_rl (ps:=rows.flatten) hkU.sz hkV.sz (fun q hx=>by
  obtain⟨r,g1,g2⟩:=List.mem_flatten.1 hx
  exact hq r g1 q g2)
 refine fnP Tryz.func88 ?_
 refine zg9 ?_
 refine cp am1 (c_snums U V kU kV rows 64 hrw (by omega) (by omega) (by omega)) ?_
 refine zg7 ?_
 refine cp am2 (c_HasR 157 (fun _=>false) (sfN kU kV rows.flatten) (by omega) (fun x hx=>c_SChk1 x (Nat.le_trans (hR x hx) (by decide)))) ?_
 refine zg2 ?_
 refine wl_condY (b:=_) rfl (by first | rfl | exact any_ff _) ?_
 refine zg9 ?_
 refine cp am2 (c_KCheck kU U hkU) ?_
 refine zg9 ?_
 refine wl_condY (b:=_) rfl (rfl) ?_
 refine zg9 ?_
 refine cp am2 (c_KCheck kV V hkV) ?_
 refine zg9 ?_
 refine wl_condY (b:=_) rfl (rfl) ?_
 refine zg6 ?_
 refine cp am1 (c_SRct U V kU kV rows hkU hkV hn hm hq) ?_
 refine zg3 ?_
 refine wl_condY (b:=_) rfl (rfl) ?_
 refine zg12 ?_
 refine lp1 (fun(i:Nat) L=>((((((St.mk L.slot (hp [(1,⟨5,[.agg [nI64 U,nI64 V,.list 3 (kU.map ratL),.list 3 (kV.map ratL),.list 1 (rows.map prL)]],true⟩)])).put (some 1) (.eptr 1 5 0 0)).put (some 3) (.list 3 ((sfN kU kV rows.flatten).map ratL))).put (some 32) (.list 1 (rows.map prL))).put (some 33) (nI64 rows.length)).put (some 34) (nI64 i))) (fun i=>i≤rows.length) (fun i=>rows.length-i) 0 (Nat.zero_le _) ?_
 rintro i L1 hi
 refine zg6 ?_
 refine wl_if rfl (fun h35r h35=>?_) (fun h35r h35=>?_)
 ·have hi2:i<rows.length:=by omega
  have hrm:=getR_mem hi2
  have hrl:=hm _ hrm
  refine zg14 ?_
  refine cp am2 (c_HasP 162 (fun _=>false) (rows.getD i []) (by omega) (fun x hx=>c_SChk2 x ((hq _ hrm x hx).le (by decide)))) ?_
  refine zg2 ?_
  refine wl_condY (b:=_) rfl (by first | rfl | exact any_ff _) ?_
  refine zg4 ?_
  refine st_pure rfl (.bin rfl rfl (add1N (by omega))) ?_
  refine zg3 ?_
  exact nx1 (i+1) (by omega)
 ·obtain rfl:i=rows.length:=by omega
  refine zg9 ?_
  refine cp am2 (c_HasR 163 (fun _=>false) (sfN kU kV rows.flatten) (by omega) (fun x hx=>c_SChk3 x (hR x hx))) ?_
  refine zg2 ?_
  refine wl_condY (b:=_) rfl (by first | rfl | exact any_ff _) ?_
  refine zg8 ?_
  exact ret1 rfl (.pure rfl)
namespace H_c_PChk
theorem zSm {p q:Prop} (k:q) (e:p=q:=by simp only [e1,e2,e3,e4,p1,p2,p3,q1,q2,q3,l1,t0,t1,r1,r2,r3,r4,Nat.zero_add,Nat.reduceMul,Nat.reduceAdd,b1,b2,b3,b4,b5,b6,i1,i2,i3,i4,i5,i6,Nat.reduceBEq,prL,dfr,List.length_map,prL_kill,kills_map prE,dfr,dfq,take_map_len,map_snoc,len_snoc,List.length_cons,List.length_nil,List.nil_append,List.map_nil,List.take_nil,List.append_nil,List.set_cons_zero,List.set_cons_succ,Nat.reduceEqDiff,reduceIte,if_true,if_false,ptL_kill,poL_kill,kills_map ptE,kills_map poE,kills_map ratE,ratL_kill,spL_kill,LV.kill,kills];exact rfl):p:=e.mpr k
end H_c_PChk
open H_c_PChk in
theorem c_PChk (U V:Nat) (kU kV:List Rat) (rows:List (List PoR)) (hkU:kOK kU U) (hkV:kOK kV V) (hn:rows.length=kU.length-U-1) (hm:∀ r∈rows,r.length=kV.length-V-1) (hq:∀ r∈rows,∀ q∈r,okP 64 q) (hpn:rows.length=U+1) (hpm:(rows.getD 0 []).length=V+1):CallP Tryz.prog 29 [.agg [nI64 U,nI64 V,.list 3 (kU.map ratL),.list 3 (kV.map ratL),.list 1 (rows.map prL)]] (iL 0):=by
 have hsp:LV.pure (.agg [nI64 U,nI64 V,.list 3 (kU.map ratL),.list 3 (kV.map ratL),.list 1 (rows.map prL)])=true:=by simp [LV.pure,pures,pures_map ratE,pures_map prE]
 have hU1:=hkU.d1
 have hU6:=hkU.d6
 have hUl:=hkU.len
 have hUm:=hkU.max
 have hV1:=hkV.d1
 have hV6:=hkV.d6
 have hVl:=hkV.len
 have hVm:=hkV.max
 refine fnP Tryz.func29 ?_
 refine zg10 ?_
 refine cp am1 (c_SCheck U V kU kV rows hkU hkV hn hm hq) ?_
 refine zg9 ?_
 refine wl_condY (b:=_) rfl (rfl) ?_
 refine zg4 ?_
 refine wl_regD 18 (by decide +kernel) ?_
 refine zg5 ?_
 refine st_pure rfl (.bin rfl rfl (add1N (by omega))) ?_
 refine zg2 ?_
 refine st_pure (guardX (v:=false) rfl rfl ((bne_eq_false_iff_eq.2 (by first | omega | (simp only [List.length_map];omega)))) rfl) faA ?_
 refine st_pure (guardX (v:=false) rfl rfl ((bne_eq_false_iff_eq.2 (by first | omega | (simp only [List.length_map];omega)))) rfl) ldA ?_
 refine st_pure (guardX (v:=false) rfl rfl ((bne_eq_false_iff_eq.2 (by first | omega | (simp only [List.length_map];omega)))) rfl) ixA ?_
 refine st_pure (guardX (v:=false) rfl rfl ((bne_eq_false_iff_eq.2 (by first | omega | (simp only [List.length_map];omega)))) rfl) ldA ?_
 refine st_pure (guardX (v:=false) rfl rfl ((bne_eq_false_iff_eq.2 (by first | omega | (simp only [List.length_map];omega)))) rfl) lnA ?_
 refine st_pure (guardX (v:=false) rfl rfl ((bne_eq_false_iff_eq.2 (by first | omega | (simp only [List.length_map];omega)))) rfl) faA ?_
 refine st_pure (guardX (v:=false) rfl rfl ((bne_eq_false_iff_eq.2 (by first | omega | (simp only [List.length_map];omega)))) rfl) ldA ?_
 refine st_pure (guardX (v:=false) rfl rfl ((bne_eq_false_iff_eq.2 (by first | omega | (simp only [List.length_map];omega)))) rfl) (.bin rfl rfl (add1N (by omega))) ?_
 refine st_pure (guardX (v:=false) rfl rfl ((bne_eq_false_iff_eq.2 (by first | omega | (simp only [List.length_map];omega)))) rfl) (.bin rfl rfl rfl) ?_
 refine st_pure rfl (.pickF rfl ((bne_eq_false_iff_eq.2 (by first | omega | (simp only [List.length_map];omega))))) ?_
 refine zg2 ?_
 refine wl_condY (b:=_) rfl (bne_eq_false_iff_eq.2 (by first | omega | (simp only [List.length_map,prL,dfr,t0,hpm];omega))) ?_
 refine zg8 ?_
 exact ret1 rfl (.pure rfl)
def twK:List Rat:=[0,0,1,1]
def twA:List PoR:=[⟨⟨0,0,0⟩,1⟩,⟨⟨0,1,0⟩,1⟩]
def twB:List PoR:=[⟨⟨1,0,0⟩,1⟩,⟨⟨1,1,1⟩,1⟩]
def twR:List (List PoR):=[twA,twB]
theorem twK_eq:kn2 1 0 1=twK:=by decide +kernel
theorem tw_okP:∀ r∈twR,∀ q∈r,okP 1 q:=fun r hr q hq=>by
 simp only [twR,List.mem_cons,List.not_mem_nil,or_false] at hr
 rcases hr with rfl | rfl<;>simp only [twA,twB,List.mem_cons,List.not_mem_nil,or_false] at hq<;>rcases hq with rfl | rfl<;>exact⟨⟨by decide +kernel,by decide +kernel,by decide +kernel⟩,by decide +kernel,by decide +kernel⟩
theorem tw_len:∀ r∈twR,r.length=2:=fun r hr=>by
 simp only [twR,List.mem_cons,List.not_mem_nil,or_false] at hr
 rcases hr with rfl | rfl<;>rfl
theorem tw_pf:pf 1 1 1 twR:=⟨by decide,by decide,by decide,by decide,by decide,by decide,rfl,tw_len,tw_okP⟩
theorem tw_kn:kOK twK 1:=by
 have:=kn0_ok (d:=1) (T:=0) (by decide) (by decide) (by decide +kernel) (by decide +kernel)
 rwa [show kn0 1 0=twK from by decide +kernel] at this
theorem v3_ext {p q:V3} (h1:p.x=q.x) (h2:p.y=q.y) (h3:p.z=q.z):p=q:=by
 obtain⟨a,b,c⟩:=p
 obtain⟨d,e,f⟩:=q
 simp only at h1 h2 h3
 rw [h1,h2,h3]
theorem tw_nor:v3x (pdv 1 1 (1-1) 1 (dfU 1 1) twR.flatten (1-0) 0 0) (pdv 1 1 1 (1-1) (dfV 1 1) twR.flatten (1-0) 0 0)=⟨0,0,1⟩ :=
 v3_ext (by decide +kernel) (by decide +kernel) (by decide +kernel)
theorem tw_zero:eqV (thN ((twR.getD 0 []).getD 0 default).p ((twR.getD 1 []).getD 0 default).p ((twR.getD 0 []).getD 1 default).p) ⟨0,0,0⟩=false:=by decide +kernel
theorem tw_flat:flT (thN ((twR.getD 0 []).getD 0 default).p ((twR.getD 1 []).getD 0 default).p ((twR.getD 0 []).getD 1 default).p) (v3d (thN ((twR.getD 0 []).getD 0 default).p ((twR.getD 1 []).getD 0 default).p ((twR.getD 0 []).getD 1 default).p) ((twR.getD 0 []).getD 0 default).p) (twR.flatten.map (·.p)) /
  v3d (thN ((twR.getD 0 []).getD 0 default).p ((twR.getD 1 []).getD 0 default).p ((twR.getD 0 []).getD 1 default).p) (thN ((twR.getD 0 []).getD 0 default).p ((twR.getD 1 []).getD 0 default).p ((twR.getD 0 []).getD 1 default).p)=1:=by decide +kernel
namespace H_c_Unit2
theorem zSm {p q:Prop} (k:q) (e:p=q:=by simp only [e1,e2,e3,e4,p1,p2,p3,q1,q2,q3,l1,t0,t1,r1,r2,r3,r4,Nat.zero_add,Nat.reduceMul,Nat.reduceAdd,b1,b2,b3,b4,b5,b6,i1,i2,i3,i4,i5,i6,Nat.reduceBEq,List.set_cons_zero,List.set_cons_succ,Nat.reduceEqDiff,reduceIte,if_true,if_false,ptL_kill,poL_kill,kills_map ptE,kills_map poE,kills_map ratE,ratL_kill,spL_kill,LV.kill,kills];exact rfl):p:=e.mpr k
end H_c_Unit2
open H_c_Unit2 in
theorem c_Unit2 :CallP Tryz.prog 53 [iL 2] (ptL ⟨0,0,1⟩):=by
 have hI1:CallP Tryz.prog 60 [iL 1] (ratL 1):=c_FInt 1 (by decide) (by decide)
 refine fnP Tryz.func53 (ht:=(fun r=>LV.ren_pure r _ (ptE.pure _))) ?_
 refine zg13 ?_
 refine cp am1 (hI1) ?_
 refine zg11 ?_
 exact retC [] rfl rfl rfl cs (at_all cs rfl) T31 (.pure pu)
namespace H_c_twist
theorem zSm {p q:Prop} (k:q) (e:p=q:=by simp only [e1,e2,e3,e4,p1,p2,p3,q1,q2,q3,l1,t0,t1,r1,r2,r3,r4,Nat.zero_add,Nat.reduceMul,Nat.reduceAdd,b1,b2,b3,b4,b5,b6,i1,i2,i3,i4,i5,i6,Nat.reduceBEq,List.set_cons_zero,List.set_cons_succ,Nat.reduceEqDiff,reduceIte,if_true,if_false,ptL_kill,poL_kill,kills_map ptE,kills_map poE,kills_map ratE,ratL_kill,spL_kill,LV.kill,kills];exact rfl):p:=e.mpr k
end H_c_twist
open H_c_twist in
theorem c_twist :CallP Tryz.prog 52 [] (.agg [nI64 1,nI64 1,.list 3 (twK.map ratL),.list 3 (twK.map ratL),.list 1 (twR.map prL)]):=by
 have hI1:CallP Tryz.prog 60 [iL 1] (ratL 1):=c_FInt 1 (by decide) (by decide)
 refine fnP Tryz.func52 (ht:=(fun g=>LV.ren_pure g _ (by simp [LV.pure,pures,pures_map ratE,pures_map prE]))) ?_
 refine zg7 ?_
 refine cp am1 (c_Unit0) ?_
 refine cp am1 (c_Unit1) ?_
 refine zg8 ?_
 refine cp am1 (hI1) ?_
 refine zg6 ?_
 refine st_pure rfl (.build0 SL29 Z29a) ?_
 refine st_pure rfl (.build0 SL29 Z29a) ?_
 refine zg2 ?_
 refine st_alloc rfl rfl (.lit4 (a:=0) (b:=0) (c:=1) (f:=1) ratE Tryz.underlying36 (ratL_zero ▸ Z29a) T29 rfl rfl rfl rfl (by decide) (by decide)) ?_
 refine zg8 ?_
 refine s0bd (bdW rfl) ?_
 refine zg2 ?_
 refine s0bd (bdPo (p:=⟨0,1,0⟩) (r:=1) rfl rfl) ?_
 refine st_alloc rfl rfl (.lit2 (a:=⟨⟨0,0,0⟩,1⟩) (b:=⟨⟨0,1,0⟩,1⟩) (z:=⟨⟨0,0,0⟩,0⟩) poE Tryz.underlying60 (show ZeroOK _ _ (poL ⟨⟨0,0,0⟩,0⟩) from Z62) T62 rfl rfl (by decide) (by decide)) ?_
 refine zg2 ?_
 refine s0bd (bdPo (p:=⟨1,0,0⟩) (r:=1) rfl rfl) ?_
 refine zg5 ?_
 refine s0bd (bdPo (p:=⟨1,1,1⟩) (r:=1) rfl rfl) ?_
 refine st_alloc rfl rfl (.lit2 (a:=⟨⟨1,0,0⟩,1⟩) (b:=⟨⟨1,1,1⟩,1⟩) (z:=⟨⟨0,0,0⟩,0⟩) poE Tryz.underlying60 (show ZeroOK _ _ (poL ⟨⟨0,0,0⟩,0⟩) from Z62) T62 rfl rfl (by decide) (by decide)) ?_
 refine st_alloc rfl rfl (.lit (z:=prL []) (sz:=1) Tryz.underlying37 prZ T60 rfl (by decide) (by decide) (by decide) (by intro p hp;simp only [List.mem_cons,List.not_mem_nil,or_false] at hp;rcases hp with rfl | rfl<;>exact⟨by decide,rfl,(fun h=>by cases h),(fun _ h=>by cases h)⟩)) ?_
 refine st_pure rfl (.build (zs:=[.v (.int .i64 0),.v (.int .i64 0),.v (.slice none 0 0),.v (.slice none 0 0),.v (.slice none 0 0)]) SL39 Z39 (by simp only [List.forall_mem_cons];exact⟨⟨_,rfl,rfl,ne0⟩,⟨_,rfl,rfl,ne0⟩,⟨_,rfl,rfl,ne0⟩,⟨_,rfl,rfl,ne0⟩,⟨_,rfl,rfl,ne0⟩,fun _ h=>by cases h⟩)) ?_
 refine zg4 ?_
 exact retC [12,20,30,31] rfl rfl rfl cs (at_all cs rfl) T39 (.agg (.cons (.pure rfl) (.cons (.pure rfl) (.cons (imm_refm (l:=twK) ratE rfl rfl rfl) (.cons (imm_refm (l:=twK) ratE rfl rfl rfl) (.cons (.refI (blk:=⟨1,_,false⟩) rfl rfl (by decide) rfl (.cons (imm_refm (l:=twA) poE rfl rfl rfl) (.cons (imm_refm (l:=twB) poE rfl rfl rfl) .nil))) .nil))))))
namespace H_c_awake13
theorem zSm {p q:Prop} (k:q) (e:p=q:=by simp only [e1,e2,e3,e4,p1,p2,p3,q1,q2,q3,l1,t0,t1,r1,r2,r3,r4,Nat.zero_add,Nat.reduceMul,Nat.reduceAdd,b1,b2,b3,b4,b5,b6,i1,i2,i3,i4,i5,i6,Nat.reduceBEq,List.set_cons_zero,List.set_cons_succ,Nat.reduceEqDiff,reduceIte,if_true,if_false,ptL_kill,poL_kill,kills_map ptE,kills_map poE,kills_map ratE,ratL_kill,spL_kill,LV.kill,kills];exact rfl):p:=e.mpr k
end H_c_awake13
open H_c_awake13 in
theorem c_awake13 :CallP Tryz.prog 8 [] (bL true):=by
 have hsp:LV.pure (.agg [nI64 1,nI64 1,.list 3 (twK.map ratL),.list 3 (twK.map ratL),.list 1 (twR.map prL)])=true:=by simp [LV.pure,pures,pures_map ratE,pures_map prE]
 have hb1:bd3 210000000 (pdv 1 1 (1-1) 1 (dfU 1 1) twR.flatten (1-0) 0 0):=(pdv_bd tw_pf (dfS_U (U:=1) (V:=1) (by decide) (by decide)) (by decide) (wd:=1-0) (by decide +kernel) (shX_of (by decide +kernel)) (shX_of (by decide +kernel))).2.2
 have hb2:bd3 210000000 (pdv 1 1 1 (1-1) (dfV 1 1) twR.flatten (1-0) 0 0):=(pdv_bd tw_pf (dfS_V (U:=1) (V:=1) (by decide) (by decide)) (by decide) (wd:=1-0) (by decide +kernel) (shX_of (by decide +kernel)) (shX_of (by decide +kernel))).2.2
 have hD:=c_PDer 1 1 1 0 1 0 1 twR tw_pf (by decide +kernel) (by decide +kernel) (by decide +kernel) (by decide +kernel) (by decide +kernel) (by decide +kernel) 0 0 0 0 (by decide +kernel) (by decide +kernel) (shX_of (by decide +kernel)) (shX_of (by decide +kernel)) (by decide +kernel) (by decide +kernel) (by decide) (by decide +kernel) (by decide +kernel)
 rw [twK_eq] at hD
 have hN:=c_PNor 1 1 twK twK twR 0 0 _ _ 0 hb1 hb2 hD
 rw [tw_nor] at hN
 have hF:=c_PFlat 1 1 1 twK twK twR tw_pf (by decide) tw_zero
 rw [tw_flat] at hF
 have hC:CallP Tryz.prog 29 [.agg [nI64 1,nI64 1,.list 3 (twK.map ratL),.list 3 (twK.map ratL),.list 1 (twR.map prL)]] (iL 0):=c_PChk 1 1 twK twK twR tw_kn tw_kn rfl tw_len (fun r hr q hq=>(tw_okP r hr q hq).le (by decide)) rfl rfl
 have hS:CallP Tryz.prog 20 [ptL ⟨0,0,1⟩,ptL ⟨0,0,1⟩] (bL true):=c_FPtSame ⟨0,0,1⟩ ⟨by decide +kernel,by decide +kernel,by decide +kernel⟩
 refine fnP Tryz.func8 ?_
 refine zg7 ?_
 refine cp am0 (c_twist) ?_
 refine zg7 ?_
 refine st_pure rfl (.build0 SL29 Z29a) ?_
 refine st_pure rfl (.build0 SL29 Z29a) ?_
 refine cp am3 (hN) ?_
 refine zg11 ?_
 refine cp am1 (hF) ?_
 refine zg9 ?_
 refine wl_regD 22 (by decide +kernel) ?_
 refine zg1 ?_
 refine cp am1 (hC) ?_
 refine zg2 ?_
 refine st_pure (guardX (v:=true) rfl rfl ((by decide +kernel)) rfl) (.move _) ?_
 refine st_pure (guardX (v:=true) rfl rfl ((by decide +kernel)) rfl) (.bin rfl rfl rfl) ?_
 refine st_pure rfl (.pickT rfl ((by decide +kernel))) ?_
 refine zg1 ?_
 refine st_pure (guardX (v:=true) rfl rfl ((by decide +kernel)) rfl) ldA ?_
 refine st_callP (guardX (v:=true) rfl rfl ((by decide +kernel)) rfl) (.cons im0 .nil) (c_Unit2) ?_
 refine st_callP (guardX (v:=true) rfl rfl ((by decide +kernel)) rfl) (.cons im0 (.cons im0 .nil)) (hS) ?_
 refine st_pure rfl (.pickT rfl ((by decide +kernel))) ?_
 refine zg1 ?_
 refine st_pure (guardX (v:=true) rfl rfl ((by decide +kernel)) rfl) (.move _) ?_
 refine st_pure (guardX (v:=true) rfl rfl ((by decide +kernel)) rfl) (.bin rfl rfl rfl) ?_
 refine st_pure rfl (.pickT rfl ((by decide +kernel))) ?_
 refine zg1 ?_
 refine st_pure (guardX (v:=true) rfl rfl ((by decide +kernel)) rfl) ldA ?_
 refine st_callP (guardX (v:=true) rfl rfl ((by decide +kernel)) rfl) (.cons im0 .nil) (c_tx1) ?_
 refine st_pure (guardX (v:=true) rfl rfl ((by decide +kernel)) rfl) (.eqS rfl rfl) ?_
 refine st_pure rfl (.pickT rfl ((by decide +kernel))) ?_
 refine zg4 ?_
 refine ret1 (x:=bL ((⟨#[49]⟩:ByteArray).toList==(⟨#[49]⟩:ByteArray).toList)) rfl ?_
 have hbb:((⟨#[49]⟩:ByteArray).toList==(⟨#[49]⟩:ByteArray).toList)=true:=beq_self_eq_true _
 rw [hbb]
 exact .pure rfl
def pTU (l:List Int) (k n:Nat):Rat:=dtV l (sJ2 l k)
def pTV (l:List Int) (k n:Nat):Rat:=dtV l (sJ3 l k n 0)
theorem kiN_0 (l:List Int) (k:Nat):kiN l k 0=0:=Nat.le_zero.1 (kiN_in l k 0).2
theorem knX_0 (l:List Int) (d k:Nat):knX l d k 0=kn2 d (dtV l k) (dtV l k+1):=by
 unfold knX kiR
 rw [kiN_0];rfl
theorem pKU_eq (l:List Int) (k n:Nat):sKU l k n 0=kn2 (sU l k n) (pTU l k n) (pTU l k n+1):=knX_0 ..
theorem pKV_eq (l:List Int) (k n:Nat):sKV l k n 0=kn2 (sV l k n) (pTV l k n) (pTV l k n+1):=knX_0 ..
theorem sR_pf {l:List Int} {k n:Nat} (hl:l.length≤500) (hk:k≤500) (hn:0<n) (hn3:n≤3):pf 4 (sU l k n) (sV l k n) (sR l k n 0):=by
 have h:=s_in l hl hk hn (show n≤6 by omega) (show 0≤2 by omega)
 have h1:=h.un
 have h2:=h.vn
 have ha:sA l k n 0=sU l k n+1:=by unfold sA;rw [kiN_0]
 have hb:sB l k n 0=sV l k n+1:=by unfold sB;rw [kiN_0]
 exact⟨by decide,by decide,h.u1,by omega,h.v1,by omega,by rw [h.rl,ha],fun r hr=>by rw [(h.rk r hr).1,hb],fun r hr=>(h.rk r hr).2⟩
theorem par_one (T x:Rat):(T+x-T)/(T+1-T)=x:=by rw [wid1,div1];grind
theorem lt_one (T:Rat):T<T+1:=by grind
theorem bdB.le {R S:Nat} {b:Bx3} (h:bdB R b) (k:R≤S):bdB S b:=⟨h.1.le k,h.2.1.le k,h.2.2.le k⟩
def evF (U V:Nat) (f:Nat→Nat→Rat) (u v:Rat):Rat:=fE (1-v) v V (fun j=>fE (1-u) u U (fun i=>f i j))
theorem evT_F {U V:Nat} (c:List Rat) (u v:Rat):evT U V c u v=evF U V (fun i j=>c.getD (i*(V+1)+j) 0) u v:=by
 rw [evT,ev_fE (by rw [rowT_len];omega),rowT_len,Nat.add_sub_cancel]
 exact fE_congr _ _ _ _ _ fun j hj=>row_get hj u
theorem evF_congr {U V:Nat} {f g:Nat→Nat→Rat} (u v:Rat) (h:∀ i j,i≤U→j≤V→f i j=g i j):evF U V f u v=evF U V g u v :=
 fE_congr _ _ _ _ _ fun j hj=>fE_congr _ _ _ _ _ fun i hi=>h i j hi hj
theorem fE_lin4 (a b p q r s:Rat) (n:Nat) (f g h k:Nat→Rat):fE a b n (fun i=>p*f i+q*g i+r*h i+s*k i)=p*fE a b n f+q*fE a b n g+r*fE a b n h+s*fE a b n k:=by
 have e:(fun i=>p*f i+q*g i+r*h i+s*k i)=fun i=>1*(p*f i+q*g i)+1*(r*h i+s*k i):=by funext i;grind
 rw [e,fE_lin,fE_lin,fE_lin];grind
theorem evF_lin4 {U V:Nat} (p q r s:Rat) (f g h k:Nat→Nat→Rat) (u v:Rat):evF U V (fun i j=>p*f i j+q*g i j+r*h i j+s*k i j) u v=p*evF U V f u v+q*evF U V g u v+r*evF U V h u v+s*evF U V k u v:=by
 unfold evF
 rw [←fE_lin4]
 exact fE_congr _ _ _ _ _ fun j _=>fE_lin4 ..
theorem evT_sub {U V:Nat} {a b:List Rat} (ha:a.length=(U+1)*(V+1)) (u v:Rat):evT U V (zipG (·-·) a b) u v=evT U V a u v-evT U V b u v:=by
 rw [evT_F,evT_F,evT_F]
 have e:=evF_lin4 (U:=U) (V:=V) 1 (-1) 0 0 (fun i j=>a.getD (i*(V+1)+j) 0) (fun i j=>b.getD (i*(V+1)+j) 0) (fun _ _=>0) (fun _ _=>0) u v
 rw [evF_congr (g:=fun i j=>1*a.getD (i*(V+1)+j) 0+-1*b.getD (i*(V+1)+j) 0+0*0+0*0) u v fun i j hi hj=>by
  rw [zipG_get (by rw [ha];exact ix_lt hi hj)];grind]
 rw [e];grind
section
variable {R U V:Nat} {rows:List (List PoR)} (h:pf R U V rows) {x y:Rat} (x0:0≤x) (x1:x≤1) (y0:0≤y) (y1:y≤1)
include h x0 x1 y0 y1
end
end Go.Proofs.YtfpdccbgngdhkaaGreat
end
section
set_option linter.unusedVariables false
set_option linter.unusedSimpArgs false
namespace Go.Lg
theorem Weak.boxp {L:St} {t b sz:Nat} {y:LV} {m:Bool} (h:L.slot t=.eptr b sz 0 0) (hb:L.heap b=some ⟨sz,[y],m⟩) (hs:y.csize=sz) (ha:y.isAgg=true) (hp:y.pure=true) (h0:b≠0:=by decide):Weak L ((L.put (some t) (.boxp y)).kill b):=by
 have h0':([b]:List Nat).contains 0=false:=by simp;omega
 have e1:=(Weak.frz [b] h0' h (.eptr (blk:=⟨sz,[y],m && !([b]:List Nat).contains b⟩) (x:=y) (n:=sz) (ag:=true) (by simp only [St.frz,hb,Option.map_some]) rfl rfl hs (at_all hs ha) hp (by simp))).trans (Weak.kill _ b h0)
 have e2:((L.frz [b]).put (some t) (.boxp y)).kill b=(L.put (some t) (.boxp y)).kill b:=by
  unfold St.kill
  congr 1
  funext c
  rw [put_heap,put_heap]
  by_cases hcb:c=b
  ·simp [hcb]
  ·simp only [St.frz,if_neg hcb]
   cases L.heap c with
   | none=>rfl
   | some blk=>simp [hcb]
 rw [←e2]
 exact e1
theorem wl_regAW {P:Program} {L L0:St} {Q:LEx→St→Prop} {ops:Array Oper} {id:Nat} (hw:Weak L L0) (h:anyL P ops ops.size (Array.replicate ops.size false) L0 (Q .normal)):wpL P (.region id ops true) Q L:=⟨L0,hw,.inr (.inl ⟨rfl,h⟩)⟩
def hpSub:List (Nat × Blk)→List (Nat × Blk)→Prop
 | [],_=>True
 | (b,x) :: t,l=>hp l b=some x∧hpSub t l
theorem hp_sub {l':List (Nat × Blk)}:∀ {l:List (Nat × Blk)},hpSub l l'→∀ c x,hp l c=some x→hp l' c=some x
 | [],_,c,x,h=>by cases h
 | (b,y) :: t,h,c,x,hc=>by
  simp only [hp] at hc
  by_cases hb:c=b
  ·subst hb
   simp only [Nat.beq_refl,cond_true,Option.some.injEq] at hc
   subst hc
   exact h.1
  ·have:Nat.beq c b=false:=by rw [←Bool.not_eq_true,Nat.beq_eq];exact hb
   rw [this] at hc
   exact hp_sub h.2 c x hc
theorem hp_ext {l l':List (Nat × Blk)} (h:hpSub l l') (h':hpSub l' l):hp l=hp l':=by
 funext c
 cases hc:hp l c with
 | some x=>exact(hp_sub h c x hc).symm
 | none =>
  cases hc':hp l' c with
  | none=>rfl
  | some x=>rw [hp_sub h' c x hc'] at hc;cases hc
def wideOp:Op→Bool
 | .store ..=>true
 | .build ..=>true
 | .box ..=>true
 | .alloc ..=>true
 | .buildSlice ..=>true
 | .makeSlice ..=>true
 | .call ⟨.value (.func _),_,_⟩=>true
 | .call ⟨.builtin .append,_,_⟩=>true
 | op=>plainOp op
section
variable {P:Program} {H:Heap} {ρ ρ':Operand→LV}
theorem psmap {ps:Array (Nat × Operand)} (hr:∀ p∈ps.toList,ρ' p.2=ρ p.2):(ps.toList.map fun p=>(p.1,ρ p.2))=ps.toList.map fun p=>(p.1,ρ' p.2) :=
 List.map_congr_left fun p hp=>by rw [hr p hp]
theorem OpA.cong {d:Nat} {op:Op} {r:LV} {blk:Blk} (h:OpA P ρ d op r blk) (hr:∀ x∈op.operands,ρ' x=ρ x):OpA P ρ' d op r blk:=by
 cases h with
 | make hT hz hE hzs hb hl hc hnm hm hm2=>exact .make hT hz hE hzs hb ((hr _ (by simp [Op.operands])).trans hl) ((hr _ (by simp [Op.operands])).trans hc) hnm hm hm2
 | @lit T E n ps z sz hT hz hE hzs hn h0 hs0 hp =>
  have hq:∀ p∈ps.toList,ρ' p.2=ρ p.2:=fun p hp=>hr _ (by simp only [Op.operands,List.mem_toArray];exact List.mem_map.2 ⟨p,hp,rfl⟩)
  rw [psmap hq]
  exact .lit hT hz hE hzs hn h0 hs0 fun p hp'=>by rw [hq p hp'];exact hp p hp'
 | lit0 hT hE=>exact .lit0 hT hE
 | @box T x hne =>
  have e:=hr x (by simp [Op.operands])
  rw [←e]
  rw [←e] at hne
  exact .box hne
 | alloc hz=>exact .alloc hz
theorem OpP.congB {T:TypeId} {ps:Array (Nat × Operand)} {r:LV} (h:OpP P H ρ (.build T ps) r) (hr:∀ x∈(Op.build T ps).operands,ρ' x=ρ x):OpP P H ρ' (.build T ps) r:=by
 have hq:∀ p∈ps.toList,ρ' p.2=ρ p.2:=fun p hp=>hr _ (by simp only [Op.operands,List.mem_toArray];exact List.mem_map.2 ⟨p,hp,rfl⟩)
 cases h with
 | buildA hT hE hf hz hp =>
  rw [psmap hq]
  exact .buildA hT hE hf hz fun p hp'=>by rw [hq p hp'];exact hp p hp'
 | build hT hz hp =>
  rw [psmap hq]
  exact .build hT hz fun p hp'=>by rw [hq p hp'];exact hp p hp'
end
theorem kill_put (L:St) {d:Nat} {v:LV} (hv:∀ b,v.kill b=v) (b:Nat):(L.put (some d) v).kill b=(L.kill b).put (some d) v:=by
 have h1:∀ t,((L.put (some d) v).kill b).slot t=((L.kill b).put (some d) v).slot t:=fun t=>by
  rw [put_slot]
  show (((L.put (some d) v).slot t).kill b)=_
  rw [put_slot]
  split
  ·exact hv b
  ·rfl
 exact congrArg (fun f=>St.mk f (L.kill b).heap) (funext h1)
section
variable {P:Program} {ops:Array Oper}
theorem step_commW {L L2:St} {d:Nat} {v:LV} {o:Oper} (hv:∀ b,v.kill b=v) (hk:wideOp o.op=true) (hl:d∉o.looksAt ops) (hd:o.dst≠some d) (h:Step P false ops o (L.put (some d) v) L2) :
  ∃ L1,Step P false ops o L L1∧L2=L1.put (some d) v∧∀ t,o.dst≠some t→(∀ b,(L.slot t).kill b=L.slot t)→L1.slot t=L.slot t:=by
 have hev:=ev_put (L:=L) (v:=v) hl
 have hsl:∀ (M:St) (r:LV) t,M.slot t=L.slot t→o.dst≠some t→(M.put o.dst r).slot t=L.slot t:=fun M r t hM hne=>by
  cases hh:o.dst with
  | none=>exact hM
  | some e=>rw [put_slot,if_neg (fun q=>hne (by rw [hh,q]))];exact hM
 cases h with
 | skip hg hL=>exact⟨L.put o.dst (.tup []),.skip (guard_put hl hg) rfl,by rw [hL,put_commO L hd],fun t ht _=>hsl L _ t rfl ht⟩
 | @val r fr H1 hg hle hfr hov hL =>
  obtain⟨dst,op,ty,pos,after,gd⟩:=o
  have hev':∀ x∈op.operands,L.ev x=(L.put (some d) v).ev x:=fun x hx=>(hev x hx).symm
  have hov2:OpV P H1 L.ev (dst.getD 0) op r fr:=by
   cases hov with
   | pure hp =>
    by_cases hpl:plainOp op=true
    ·exact .pure (hp.cong hpl hev')
    ·by_cases hbq:∃ T ps,op=.build T ps
     ·obtain⟨T,ps,rfl⟩:=hbq
      exact .pure (hp.congB hev')
     ·cases hp with
      | ext2 hf hname hb hn he hx hr h1 h2 =>
       refine .pure (.ext2 hf hname hb hn he ?_ hr h1 h2)
       rw [←hx]
       exact List.map_congr_left fun x hxm=>hev' x (mem_args hxm)
      | build=>exact absurd ⟨_,_,rfl⟩ hbq
      | buildA=>exact absurd ⟨_,_,rfl⟩ hbq
      | _=>first | (exfalso;exact hpl rfl) | (exfalso;revert hk hpl;simp [wideOp,plainOp])
   | alloc ha=>exact .alloc (ha.cong hev')
   | call hc =>
    cases hc with
    | func ha hkk hlen hpu =>
     refine .call (.func ?_ hkk hlen hpu)
     rw [show (_:Array Operand).toList.map L.ev=_ from List.map_congr_left fun x hxm=>hev' x (mem_args hxm)]
     exact ha
    | clo=>exfalso;revert hk;simp [wideOp,plainOp]
    | mk=>exfalso;revert hk;simp [wideOp,plainOp]
  refine⟨⟨(L.put dst r).slot,H1⟩,.val (guard_put hl hg) hle hfr hov2 rfl,?_,fun t ht _=>hsl L r t rfl ht⟩
  rw [hL]
  have:=put_commO L hd v r
  exact congrArg (fun M=>St.mk (St.slot M) H1) this
 | st hg hot =>
  obtain⟨dst,op,ty,pos,after,gd⟩:=o
  cases hot with
  | store hp hb hs hm hi hy hput hT hne =>
   rename_i T p x b sz i o' blk y y'
   have e1:=hev p (by simp [Op.operands])
   have e2:=hev x (by simp [Op.operands])
   rw [e1] at hp
   rw [e2] at hput hT hne
   refine⟨_,.st (guard_put hl hg) (.store hp hb hs hm hi hy hput hT hne),?_,fun t ht _=>?_⟩
   ·exact put_commO (L.setB b _) hd v .any
   ·exact hsl (L.setB b _) .any t rfl ht
  | appX hx hb hs hm hlen hbd hb0 hT hU hz hE hzs hby hy hsz h63 hs0 =>
   rename_i T U E E' d' b sz len blk x y news z by_
   have e1:=hev x (by simp [Op.operands,Call.operands])
   have e2:=hev y (by simp [Op.operands,Call.operands])
   rw [e1] at hx
   rw [e2] at hy
   refine⟨_,.st (guard_put hl hg) (.appX hx hb hs hm hlen hbd hb0 hT hU hz hE hzs hby hy hsz h63 hs0),?_,fun t ht hf=>?_⟩
   ·rw [kill_put L hv]
    exact put_commO ((L.kill b).setB d' _) hd v _
   ·exact hsl ((L.kill b).setB d' _) _ t (hf b) ht
  | app0X hx hbd hT hU hz hE hzs hby hy hn hsz h63 hs0 =>
   rename_i T U E E' d' sz x y news z by_
   have e1:=hev x (by simp [Op.operands,Call.operands])
   have e2:=hev y (by simp [Op.operands,Call.operands])
   rw [e1] at hx
   rw [e2] at hy
   refine⟨_,.st (guard_put hl hg) (.app0X hx hbd hT hU hz hE hzs hby hy hn hsz h63 hs0),?_,fun t ht hf=>?_⟩
   ·exact put_commO (L.setB d' _) hd v _
   ·exact hsl (L.setB d' _) _ t rfl ht
  | _=>exfalso;revert hk;simp [wideOp,plainOp]
 | stM hdr hg hom =>
  obtain⟨dst,op,ty,pos,after,gd⟩:=o
  cases hom with
  | call hb hm hp ha hn hkk hm' hp' =>
   rename_i f xs ats args r b blk blk'
   have em:xs.toList.map (L.put (some d) v).ev=xs.toList.map L.ev:=List.map_congr_left fun x hxm=>hev x (mem_args hxm)
   rw [em] at ha hn
   refine⟨_,.stM hdr (guard_put hl hg) (.call hb hm hp ha hn hkk hm' hp'),?_,fun t ht _=>?_⟩
   ·exact put_commO (L.setB b _) hd v _
   ·exact hsl (L.setB b _) _ t rfl ht
  | appz hT hU hz hE hzs hb hx hy hbd h0 hs0 hm h63 =>
   rename_i T U E x y z k kl sz by_ n d'
   have e1:=hev x (by simp [Op.operands,Call.operands])
   have e2:=hev y (by simp [Op.operands,Call.operands])
   rw [e1] at hx
   rw [e2] at hy
   refine⟨_,.stM hdr (guard_put hl hg) (.appz hT hU hz hE hzs hb hx hy hbd h0 hs0 hm h63),?_,fun t ht _=>?_⟩
   ·exact put_commO (L.setB d' _) hd v _
   ·exact hsl (L.setB d' _) _ t rfl ht
def hoistOkW (ops:Array Oper) (i:Nat) (D:Array Bool):Bool :=
 D.size==ops.size && !D.getD i true && (dirs (ops.getD i default)).all (fun j=>D.getD j false) && (ops.getD i default).guard.isNone && plainOp (ops.getD i default).op &&
 (List.range ops.size).all fun j=>j==i || D.getD j true || (wideOp (ops.getD j default).op && ((ops.getD j default).dst != (ops.getD i default).dst) &&
  (match (ops.getD i default).dst with | some d=>!((ops.getD j default).looksAt ops).contains d || (dirs (ops.getD j default)).contains i | none=>false) &&
  (match (ops.getD j default).dst with | some e=>!((ops.getD i default).looksAt ops).contains e | none=>true))
def firmAll (L:St):List Operand→Prop
 | []=>True
 | x :: xs=>(∀ b,(L.ev x).kill b=L.ev x)∧firmAll L xs
theorem firmAll_mem {L:St}:∀ {l:List Operand},firmAll L l→∀ x∈l,∀ b,(L.ev x).kill b=L.ev x
 | _ :: _,h,_,.head _=>h.1
 | _ :: _,h,_,.tail _ hx=>firmAll_mem h.2 _ hx
theorem fmA {p:Prop} (h:p:=by first | exact And.intro (fun _=>rfl) trivial | exact And.intro (fun _=>rfl) (And.intro (fun _=>rfl) trivial) | exact And.intro (fun b=>LV.kill_pure b _ pu) trivial):p:=h
theorem fmV {p:Prop} (h:p:=by first | exact(fun _=>rfl) | exact(fun b=>LV.kill_pure b _ pu) | exact(fun b=>LV.kill_pure b _ (by assumption))):p:=h
theorem any_hoistW {m:Nat} {K:St→Prop} {L:St} {D:Array Bool} {d:Nat} {v:LV} (i:Nat) {o:Oper} (ho:ops[i]?=some o) (hdst:o.dst=some d) (hok:hoistOkW ops i D=true) (hv:OpP P (fun _=>none) L.ev o.op v)
  (hfv:∀ b,v.kill b=v) (hfo:firmAll L o.op.operands.toList)
  (h:anyL P ops m (D.setIfInBounds i true) (L.put (some d) v) K):anyL P ops (m+1) D L K:=by
 have getD_of:∀ i o,ops[i]?=some o→ops.getD i default=o:=fun i o h=>by rw [Array.getD_eq_getD_getElem?,h];rfl
 have hin:i<ops.size:=(Array.getElem?_eq_some_iff.1 ho).1
 let C:Array Bool→Prop:=fun D=>D.size=ops.size∧D.getD i false=false∧(∀ j∈dirs o,D.getD j false=true)∧∀ j oj,ops[j]?=some oj→j≠i→D.getD j false=false →
  wideOp oj.op=true∧oj.dst≠some d∧(d∈oj.looksAt ops→i∈dirs oj)∧∀ e,oj.dst=some e→e∉o.looksAt ops
 unfold hoistOkW at hok
 rw [getD_of i o ho,hdst] at hok
 simp only [Bool.and_eq_true,List.all_eq_true,List.mem_range,Bool.or_eq_true,beq_iff_eq,Bool.not_eq_true',Option.isNone_iff_eq_none,bne_iff_ne,ne_eq] at hok
 obtain⟨⟨⟨⟨⟨hsz,hni⟩,hrd⟩,hgd⟩,hslim⟩,hall⟩:=hok
 have hC:C D:=by
  refine⟨hsz,by rw [getD_sz (by omega) false true];exact hni,hrd,fun j oj hj hne hDj=>?_⟩
  have hjl:j<ops.size:=(Array.getElem?_eq_some_iff.1 hj).1
  have:=hall j hjl
  rw [getD_of j oj hj] at this
  rcases this with(q | q) | q
  ·exact absurd q hne
  ·rw [getD_sz (by omega) true false,hDj] at q;cases q
  ·obtain⟨⟨⟨q1,q2⟩,q3⟩,q4⟩:=q
   refine⟨q1,q2,fun hm=>?_,fun e he hm=>?_⟩
   ·rcases q3 with q | q
    ·rw [List.contains_iff_mem.2 hm] at q;cases q
    ·exact List.contains_iff_mem.1 q
   ·rw [he] at q4
    simp only [Bool.not_eq_true'] at q4
    rw [List.contains_iff_mem.2 hm] at q4;cases q4
 have hstepi:∀ L:St,OpP P (fun _=>none) L.ev o.op v→Step P false ops o L (L.put (some d) v):=fun L hv=>by
  refine .val (fr:=[]) (H1:=L.heap) (r:=v) (by unfold GuardIs;rw [hgd]) (Heap.le_refl _) (fun _ _ hh=>by cases hh) (.pure (hv.le fun b blk h=>by cases h)) ?_
  rw [hdst];rfl
 clear hsz hni hrd hall
 have hfo':∀ x∈o.op.operands,∀ b,(L.ev x).kill b=L.ev x:=fun x hx=>firmAll_mem hfo x (Array.mem_toList_iff.2 hx)
 clear hfo
 have main:∀ (n:Nat) (D:Array Bool) (L:St),C D→OpP P (fun _=>none) L.ev o.op v→(∀ x∈o.op.operands,∀ b,(L.ev x).kill b=L.ev x)→anyL P ops n (D.setIfInBounds i true) (L.put (some d) v) K→anyL P ops (n+1) D L K:=by
  intro n
  induction n with
  | zero =>
   intro D L ⟨c1,c2,c3,c4⟩ hv _ hh
   have hri:i∈Region.ready .any ops D:=(ready_spec c1).2 ⟨o,ho,by rw [getD_sz (by omega) true false];exact c2,c3⟩
   refine⟨fun hr=>(by rw [hr] at hri;cases hri),fun j hj=>?_⟩
   by_cases hji:j=i
   ·subst hji
    exact⟨o,_,ho,hstepi L hv,hh⟩
   ·exfalso
    obtain⟨oj,h1,h2,h3⟩:=(ready_spec c1).1 hj
    have:j∈Region.ready .any ops (D.setIfInBounds i true):=(ready_spec (by simpa using c1)).2 ⟨oj,h1,by
     rw [Array.getD_eq_getD_getElem?,Array.getElem?_setIfInBounds_ne (Ne.symm hji),←Array.getD_eq_getD_getElem?];exact h2,fun k hk=>by
     by_cases hki:i=k
     ·subst hki
      rw [Array.getD_eq_getD_getElem?,Array.getElem?_setIfInBounds_self_of_lt (by omega)];rfl
     ·rw [Array.getD_eq_getD_getElem?,Array.getElem?_setIfInBounds_ne hki,←Array.getD_eq_getD_getElem?];exact h3 k hk⟩
    rw [hh.1] at this;cases this
  | succ n ih =>
   intro D L ⟨c1,c2,c3,c4⟩ hv hfo hh
   have hri:i∈Region.ready .any ops D:=(ready_spec c1).2 ⟨o,ho,by rw [getD_sz (by omega) true false];exact c2,c3⟩
   refine⟨fun hr=>(by rw [hr] at hri;cases hri),fun j hj=>?_⟩
   by_cases hji:j=i
   ·subst hji
    exact⟨o,_,ho,hstepi L hv,hh⟩
   ·obtain⟨oj,h1,h2,h3⟩:=(ready_spec c1).1 hj
    have hjl:j<ops.size:=(Array.getElem?_eq_some_iff.1 h1).1
    have hDj:D.getD j false=false:=by rw [getD_sz (by omega) false true];exact h2
    have hji2:j∈Region.ready .any ops (D.setIfInBounds i true):=(ready_spec (by simpa using c1)).2 ⟨oj,h1,by
     rw [Array.getD_eq_getD_getElem?,Array.getElem?_setIfInBounds_ne (Ne.symm hji),←Array.getD_eq_getD_getElem?];exact h2,fun k hk=>by
     by_cases hki:i=k
     ·subst hki
      rw [Array.getD_eq_getD_getElem?,Array.getElem?_setIfInBounds_self_of_lt (by omega)];rfl
     ·rw [Array.getD_eq_getD_getElem?,Array.getElem?_setIfInBounds_ne hki,←Array.getD_eq_getD_getElem?];exact h3 k hk⟩
    obtain⟨oj',L2,g1,g2,g3⟩:=hh.2 j hji2
    rw [h1] at g1;cases g1
    obtain⟨k1,k2,k3,k4⟩:=c4 j oj h1 hji hDj
    have hnl:d∉oj.looksAt ops:=fun hm=>by
     have:=h3 i (k3 hm)
     rw [c2] at this;cases this
    obtain⟨L1,s1,s2,s3⟩:=step_commW hfv k1 hnl k2 g2
    have hsame:∀ x∈o.op.operands,L1.ev x=L.ev x:=fun x hx=>by
     cases x with
     | tmp t =>
      have ht:t∈o.looksAt ops:=by
       unfold Oper.looksAt
       simp only [List.mem_append,List.mem_filterMap]
       exact .inl ⟨.tmp t,by simpa using hx,rfl⟩
      exact s3 t (fun q=>k4 t q ht) (hfo _ hx)
     | const v=>rfl
     | func f=>rfl
     | global f=>rfl
    refine⟨oj,L1,h1,s1,ih (D.setIfInBounds j true) L1 ⟨by simpa using c1,?_,fun k hk=>?_,fun k ok hk hne hDk=>?_⟩ (hv.cong hslim hsame) (fun x hx b=>by rw [hsame x hx];exact hfo x hx b) ?_⟩
    ·rw [Array.getD_eq_getD_getElem?,Array.getElem?_setIfInBounds_ne hji,←Array.getD_eq_getD_getElem?];exact c2
    ·by_cases hjk:j=k
     ·subst hjk
      rw [Array.getD_eq_getD_getElem?,Array.getElem?_setIfInBounds_self_of_lt (by omega)];rfl
     ·rw [Array.getD_eq_getD_getElem?,Array.getElem?_setIfInBounds_ne hjk,←Array.getD_eq_getD_getElem?];exact c3 k hk
    ·by_cases hjk:j=k
     ·subst hjk
      rw [Array.getD_eq_getD_getElem?,Array.getElem?_setIfInBounds_self_of_lt (by omega)] at hDk
      cases hDk
     ·rw [Array.getD_eq_getD_getElem?,Array.getElem?_setIfInBounds_ne hjk,←Array.getD_eq_getD_getElem?] at hDk
      exact c4 k ok hk hne hDk
    ·rw [←s2]
     have:(D.setIfInBounds j true).setIfInBounds i true=(D.setIfInBounds i true).setIfInBounds j true:=by
      refine Array.ext_getElem? fun k=>?_
      by_cases q1:i=k
      ·subst q1
       rw [Array.getElem?_setIfInBounds_self_of_lt (by simp;omega),Array.getElem?_setIfInBounds_ne hji,Array.getElem?_setIfInBounds_self_of_lt (by omega)]
      ·by_cases q2:j=k
       ·subst q2
        rw [Array.getElem?_setIfInBounds_ne q1,Array.getElem?_setIfInBounds_self_of_lt (by omega),Array.getElem?_setIfInBounds_self_of_lt (by simp;omega)]
       ·rw [Array.getElem?_setIfInBounds_ne q1,Array.getElem?_setIfInBounds_ne q2,Array.getElem?_setIfInBounds_ne q2,Array.getElem?_setIfInBounds_ne q1]
     rw [this];exact g3
 exact main m D L hC hv hfo' h
end
end Go.Lg
end
section
set_option linter.unusedVariables false
set_option linter.unusedSimpArgs false
set_option maxHeartbeats 8000000
set_option maxRecDepth 100000
attribute [local irreducible] Go.Lg.opsL Go.Lg.wpL Go.Lg.thenL Go.Lg.blockL
namespace Go.Proofs.YtfpdccbgngdhkaaGreat
open Go.Lg
def swR (V:Nat) (rows:List (List PoR)):List (List PoR):=(List.range (V+1)).map fun j=>rows.map fun r=>r.getD j default
theorem swR_len (V:Nat) (rows:List (List PoR)):(swR V rows).length=V+1:=by simp [swR]
theorem swR_at {V:Nat} (rows:List (List PoR)) {j:Nat} (h:j<V+1):(swR V rows)[j]?=some (rows.map fun r=>r.getD j default):=by
 rw [swR,List.getElem?_map,List.getElem?_range h];rfl
theorem swR_getD {V:Nat} (rows:List (List PoR)) {j:Nat} (h:j<V+1):(swR V rows).getD j []=rows.map fun r=>r.getD j default:=by
 rw [List.getD_eq_getElem?_getD,swR_at rows h];rfl
theorem swR_take {V:Nat} (rows:List (List PoR)) {j:Nat} (h:j<V+1):(swR V rows).take j++[rows.map fun r=>r.getD j default]=(swR V rows).take (j+1):=by
 rw [List.take_add_one,swR_at rows h];rfl
theorem mapT {α β:Type} [Inhabited α] (f:α→β) (l:List α) (d:α) {i:Nat} (h:i<l.length):(l.map f).take i++[f (l.getD i d)]=(l.map f).take (i+1):=by
 rw [List.take_add_one,List.getElem?_map,List.getD_eq_getElem?_getD,List.getElem?_eq_getElem h];rfl
theorem swR_pf {R U V:Nat} {rows:List (List PoR)} (h:pf R U V rows):pf R V U (swR V rows) where
 r1:=h.r1
 rB:=h.rB
 u1:=h.v1
 u3:=h.v3
 v1:=h.u1
 v3:=h.u3
 n:=swR_len ..
 m:=fun r hr=>by
  obtain⟨j,_,rfl⟩:=List.mem_map.1 hr
  rw [List.length_map,h.n]
 ok:=fun r hr q hq=>by
  obtain⟨j,hj,rfl⟩:=List.mem_map.1 hr
  obtain⟨r',hr',rfl⟩:=List.mem_map.1 hq
  have hj2:j<r'.length:=by rw [h.m r' hr'];exact List.mem_range.1 hj
  exact h.ok r' hr' _ (getD_memP hj2)
namespace H_c_FSwap
theorem zSm {p q:Prop} (k:q) (e:p=q:=by simp only [e1,e2,e3,e4,p1,p2,p3,q1,q2,q3,l1,t0,t1,r1,r2,r3,r4,Nat.zero_add,Nat.reduceMul,Nat.reduceAdd,b1,b2,b3,b4,b5,b6,i1,i2,i3,i4,i5,i6,Nat.reduceBEq,prL,etk,eto,esw,egr,kills_map ratE,kills_map prE,List.length_map,List.take_nil,List.nil_append,len_snoc,prL_kill,kills_map prE,dfr,dfq,take_map_len,map_snoc,len_snoc,List.length_cons,List.length_nil,List.nil_append,List.map_nil,List.take_nil,List.append_nil,List.set_cons_zero,List.set_cons_succ,Nat.reduceEqDiff,reduceIte,if_true,if_false,ptL_kill,poL_kill,kills_map ptE,kills_map poE,kills_map ratE,ratL_kill,spL_kill,LV.kill,kills];exact rfl):p:=e.mpr k
end H_c_FSwap
open H_c_FSwap in
theorem c_FSwap (R U V:Nat) (kU kV:List Rat) (rows:List (List PoR)) (h:pf R U V rows) (hku:kU.length≤100) (hkv:kV.length≤100):CallP Tryz.prog 15 [.agg [nI64 U,nI64 V,.list 3 (kU.map ratL),.list 3 (kV.map ratL),.list 1 (rows.map prL)]] (.agg [nI64 V,nI64 U,.list 3 (kV.map ratL),.list 3 (kU.map ratL),.list 1 ((swR V rows).map prL)]):=by
 have hsp:LV.pure (.agg [nI64 U,nI64 V,.list 3 (kU.map ratL),.list 3 (kV.map ratL),.list 1 (rows.map prL)])=true:=by simp [LV.pure,pures,pures_map ratE,pures_map prE]
 have hpv:=pures_map ratE kV
 have hpu:=pures_map ratE kU
 have hpr:=pures_map prE rows
 have hu3:=h.u3
 have hv3:=h.v3
 have hrn:=h.n
 have hr0:=h.r0 (Nat.zero_le U)
 have hsl:=swR_len V rows
 refine fnP Tryz.func15 (ht:=(fun g=>LV.ren_pure g _ (by simp [LV.pure,pures,pures_map ratE,pures_map prE]))) ?_
 have etk:True:=trivial
 have eto:True:=trivial
 have esw:True:=trivial
 have egr:True:=trivial
 refine zg7 ?_
 refine wl_cut (fun L=>∃  (L1:St),(True)∧L=((((St.mk L1.slot (hp [(2,⟨5,[.agg [.v (.int .i64 0),.v (.int .i64 0),.v (.slice none 0 0),.v (.slice none 0 0),.v (.slice none 0 0)]],true⟩),(3,⟨5,[.agg [nI64 V,nI64 U,.ref 11 3 0 kV.length,.ref 15 3 0 kU.length,.v (.slice none 0 0)]],true⟩),(11,⟨3,kV.map ratL,true⟩),(15,⟨3,kU.map ratL,true⟩)])).put (some 1) (.boxp (.agg [nI64 U,nI64 V,.list 3 (kU.map ratL),.list 3 (kV.map ratL),.list 1 (rows.map prL)]))).put (some 2) (.eptr 2 5 0 0)).put (some 3) (.eptr 3 5 0 0))) ?_ ?_
 ·refine wl_regAW (Weak.boxp (t:=1) (b:=1) rfl rfl cs rfl hsp) ?_
  refine any_hoistW 0 rfl rfl (by decide +kernel) faA fmV fmA ?_
  refine any_hoistW 1 rfl rfl (by decide +kernel) ldA fmV fmA ?_
  refine any_hoistW 2 rfl rfl (by decide +kernel) faA fmV fmA ?_
  refine any_hoistW 3 rfl rfl (by decide +kernel) ldA fmV fmA ?_
  refine any_hoistW 5 rfl rfl (by decide +kernel) faA fmV fmA ?_
  refine any_hoistW 6 rfl rfl (by decide +kernel) (.ldbx rfl (pure_lst ratE 3 kV) rfl rfl) fmV fmA ?_
  refine any_hoistW 9 rfl rfl (by decide +kernel) faA fmV fmA ?_
  refine any_hoistW 10 rfl rfl (by decide +kernel) (.ldbx rfl (pure_lst ratE 3 kU) rfl rfl) fmV fmA ?_
  refine any_3 4 8 13 _ _ _ (by decide +kernel) rfl rfl rfl ?_ ?_ ?_
  ·refine zg1 ?_
   refine st_nil ?_
   refine any_3 7 8 13 _ _ _ (by decide +kernel) rfl rfl rfl ?_ ?_ ?_
   ·refine st_store rfl (.appX (d:=11) (news:=kV.map ratL) rfl rfl rfl rfl (by simp) (.inl rfl) (by decide) Tryz.underlying36 Tryz.underlying36 Z29a T29 rfl B29 (.inr (.inl rfl)) (by simp;omega) (by simp;omega) (by decide)) ?_
    refine st_nil ?_
    refine any_2 8 13 _ _ (by decide +kernel) rfl rfl ?_ ?_
    ·refine zg1 ?_
     refine st_nil ?_
     refine any_2 11 13 _ _ (by decide +kernel) rfl rfl ?_ ?_
     ·refine st_store rfl (.appX (d:=15) (news:=kU.map ratL) rfl rfl rfl rfl (by simp) (.inl rfl) (by decide) Tryz.underlying36 Tryz.underlying36 Z29a T29 rfl B29 (.inr (.inl rfl)) (by simp;omega) (by simp;omega) (by decide)) ?_
      refine st_nil ?_
      refine any_2 12 13 _ _ (by decide +kernel) rfl rfl ?_ ?_
      ·refine zg1 ?_
       refine st_nil ?_
       refine any_1 13 _ (by decide +kernel) rfl ?_
       refine zg1 ?_
       refine st_nil ?_
       refine any_1 14 _ (by decide +kernel) rfl ?_
       refine zg1 ?_
       refine st_nil ?_
       refine any_0 (by decide +kernel) ?_
       refine zg1 ?_
       exact⟨_,trivial,((put_id' (put_id' (put_id' (mk_id' (by first | exact cl | (refine zSm ?_;refine hp_ext ?_ ?_<;>repeat (first | exact trivial | refine And.intro rfl ?_)))) cl) cl) cl)).symm⟩
      ·refine zg1 ?_
       refine st_nil ?_
       refine any_1 12 _ (by decide +kernel) rfl ?_
       refine zg1 ?_
       refine st_nil ?_
       refine any_1 14 _ (by decide +kernel) rfl ?_
       refine zg1 ?_
       refine st_nil ?_
       refine any_0 (by decide +kernel) ?_
       refine zg1 ?_
       exact⟨_,trivial,((put_id' (put_id' (put_id' (mk_id' (by first | exact cl | (refine zSm ?_;refine hp_ext ?_ ?_<;>repeat (first | exact trivial | refine And.intro rfl ?_)))) cl) cl) cl)).symm⟩
     ·refine zg1 ?_
      refine st_nil ?_
      refine any_1 11 _ (by decide +kernel) rfl ?_
      refine st_store rfl (.appX (d:=15) (news:=kU.map ratL) rfl rfl rfl rfl (by simp) (.inl rfl) (by decide) Tryz.underlying36 Tryz.underlying36 Z29a T29 rfl B29 (.inr (.inl rfl)) (by simp;omega) (by simp;omega) (by decide)) ?_
      refine st_nil ?_
      refine any_1 12 _ (by decide +kernel) rfl ?_
      refine zg1 ?_
      refine st_nil ?_
      refine any_1 14 _ (by decide +kernel) rfl ?_
      refine zg1 ?_
      refine st_nil ?_
      refine any_0 (by decide +kernel) ?_
      refine zg1 ?_
      exact⟨_,trivial,((put_id' (put_id' (put_id' (mk_id' (by first | exact cl | (refine zSm ?_;refine hp_ext ?_ ?_<;>repeat (first | exact trivial | refine And.intro rfl ?_)))) cl) cl) cl)).symm⟩
    ·refine zg1 ?_
     refine st_nil ?_
     refine any_1 8 _ (by decide +kernel) rfl ?_
     refine zg1 ?_
     refine st_nil ?_
     refine any_1 11 _ (by decide +kernel) rfl ?_
     refine st_store rfl (.appX (d:=15) (news:=kU.map ratL) rfl rfl rfl rfl (by simp) (.inl rfl) (by decide) Tryz.underlying36 Tryz.underlying36 Z29a T29 rfl B29 (.inr (.inl rfl)) (by simp;omega) (by simp;omega) (by decide)) ?_
     refine st_nil ?_
     refine any_1 12 _ (by decide +kernel) rfl ?_
     refine zg1 ?_
     refine st_nil ?_
     refine any_1 14 _ (by decide +kernel) rfl ?_
     refine zg1 ?_
     refine st_nil ?_
     refine any_0 (by decide +kernel) ?_
     refine zg1 ?_
     exact⟨_,trivial,((put_id' (put_id' (put_id' (mk_id' (by first | exact cl | (refine zSm ?_;refine hp_ext ?_ ?_<;>repeat (first | exact trivial | refine And.intro rfl ?_)))) cl) cl) cl)).symm⟩
   ·refine zg1 ?_
    refine st_nil ?_
    refine any_2 7 13 _ _ (by decide +kernel) rfl rfl ?_ ?_
    ·refine st_store rfl (.appX (d:=11) (news:=kV.map ratL) rfl rfl rfl rfl (by simp) (.inl rfl) (by decide) Tryz.underlying36 Tryz.underlying36 Z29a T29 rfl B29 (.inr (.inl rfl)) (by simp;omega) (by simp;omega) (by decide)) ?_
     refine st_nil ?_
     refine any_2 11 13 _ _ (by decide +kernel) rfl rfl ?_ ?_
     ·refine st_store rfl (.appX (d:=15) (news:=kU.map ratL) rfl rfl rfl rfl (by simp) (.inl rfl) (by decide) Tryz.underlying36 Tryz.underlying36 Z29a T29 rfl B29 (.inr (.inl rfl)) (by simp;omega) (by simp;omega) (by decide)) ?_
      refine st_nil ?_
      refine any_2 12 13 _ _ (by decide +kernel) rfl rfl ?_ ?_
      ·refine zg1 ?_
       refine st_nil ?_
       refine any_1 13 _ (by decide +kernel) rfl ?_
       refine zg1 ?_
       refine st_nil ?_
       refine any_1 14 _ (by decide +kernel) rfl ?_
       refine zg1 ?_
       refine st_nil ?_
       refine any_0 (by decide +kernel) ?_
       refine zg1 ?_
       exact⟨_,trivial,((put_id' (put_id' (put_id' (mk_id' (by first | exact cl | (refine zSm ?_;refine hp_ext ?_ ?_<;>repeat (first | exact trivial | refine And.intro rfl ?_)))) cl) cl) cl)).symm⟩
      ·refine zg1 ?_
       refine st_nil ?_
       refine any_1 12 _ (by decide +kernel) rfl ?_
       refine zg1 ?_
       refine st_nil ?_
       refine any_1 14 _ (by decide +kernel) rfl ?_
       refine zg1 ?_
       refine st_nil ?_
       refine any_0 (by decide +kernel) ?_
       refine zg1 ?_
       exact⟨_,trivial,((put_id' (put_id' (put_id' (mk_id' (by first | exact cl | (refine zSm ?_;refine hp_ext ?_ ?_<;>repeat (first | exact trivial | refine And.intro rfl ?_)))) cl) cl) cl)).symm⟩
     ·refine zg1 ?_
      refine st_nil ?_
      refine any_1 11 _ (by decide +kernel) rfl ?_
      refine st_store rfl (.appX (d:=15) (news:=kU.map ratL) rfl rfl rfl rfl (by simp) (.inl rfl) (by decide) Tryz.underlying36 Tryz.underlying36 Z29a T29 rfl B29 (.inr (.inl rfl)) (by simp;omega) (by simp;omega) (by decide)) ?_
      refine st_nil ?_
      refine any_1 12 _ (by decide +kernel) rfl ?_
      refine zg1 ?_
      refine st_nil ?_
      refine any_1 14 _ (by decide +kernel) rfl ?_
      refine zg1 ?_
      refine st_nil ?_
      refine any_0 (by decide +kernel) ?_
      refine zg1 ?_
      exact⟨_,trivial,((put_id' (put_id' (put_id' (mk_id' (by first | exact cl | (refine zSm ?_;refine hp_ext ?_ ?_<;>repeat (first | exact trivial | refine And.intro rfl ?_)))) cl) cl) cl)).symm⟩
    ·refine zg1 ?_
     refine st_nil ?_
     refine any_1 7 _ (by decide +kernel) rfl ?_
     refine st_store rfl (.appX (d:=11) (news:=kV.map ratL) rfl rfl rfl rfl (by simp) (.inl rfl) (by decide) Tryz.underlying36 Tryz.underlying36 Z29a T29 rfl B29 (.inr (.inl rfl)) (by simp;omega) (by simp;omega) (by decide)) ?_
     refine st_nil ?_
     refine any_1 11 _ (by decide +kernel) rfl ?_
     refine st_store rfl (.appX (d:=15) (news:=kU.map ratL) rfl rfl rfl rfl (by simp) (.inl rfl) (by decide) Tryz.underlying36 Tryz.underlying36 Z29a T29 rfl B29 (.inr (.inl rfl)) (by simp;omega) (by simp;omega) (by decide)) ?_
     refine st_nil ?_
     refine any_1 12 _ (by decide +kernel) rfl ?_
     refine zg1 ?_
     refine st_nil ?_
     refine any_1 14 _ (by decide +kernel) rfl ?_
     refine zg1 ?_
     refine st_nil ?_
     refine any_0 (by decide +kernel) ?_
     refine zg1 ?_
     exact⟨_,trivial,((put_id' (put_id' (put_id' (mk_id' (by first | exact cl | (refine zSm ?_;refine hp_ext ?_ ?_<;>repeat (first | exact trivial | refine And.intro rfl ?_)))) cl) cl) cl)).symm⟩
   ·refine zg1 ?_
    refine st_nil ?_
    refine any_2 7 8 _ _ (by decide +kernel) rfl rfl ?_ ?_
    ·refine st_store rfl (.appX (d:=11) (news:=kV.map ratL) rfl rfl rfl rfl (by simp) (.inl rfl) (by decide) Tryz.underlying36 Tryz.underlying36 Z29a T29 rfl B29 (.inr (.inl rfl)) (by simp;omega) (by simp;omega) (by decide)) ?_
     refine st_nil ?_
     refine any_1 8 _ (by decide +kernel) rfl ?_
     refine zg1 ?_
     refine st_nil ?_
     refine any_1 11 _ (by decide +kernel) rfl ?_
     refine st_store rfl (.appX (d:=15) (news:=kU.map ratL) rfl rfl rfl rfl (by simp) (.inl rfl) (by decide) Tryz.underlying36 Tryz.underlying36 Z29a T29 rfl B29 (.inr (.inl rfl)) (by simp;omega) (by simp;omega) (by decide)) ?_
     refine st_nil ?_
     refine any_1 12 _ (by decide +kernel) rfl ?_
     refine zg1 ?_
     refine st_nil ?_
     refine any_1 14 _ (by decide +kernel) rfl ?_
     refine zg1 ?_
     refine st_nil ?_
     refine any_0 (by decide +kernel) ?_
     refine zg1 ?_
     exact⟨_,trivial,((put_id' (put_id' (put_id' (mk_id' (by first | exact cl | (refine zSm ?_;refine hp_ext ?_ ?_<;>repeat (first | exact trivial | refine And.intro rfl ?_)))) cl) cl) cl)).symm⟩
    ·refine zg1 ?_
     refine st_nil ?_
     refine any_1 7 _ (by decide +kernel) rfl ?_
     refine st_store rfl (.appX (d:=11) (news:=kV.map ratL) rfl rfl rfl rfl (by simp) (.inl rfl) (by decide) Tryz.underlying36 Tryz.underlying36 Z29a T29 rfl B29 (.inr (.inl rfl)) (by simp;omega) (by simp;omega) (by decide)) ?_
     refine st_nil ?_
     refine any_1 11 _ (by decide +kernel) rfl ?_
     refine st_store rfl (.appX (d:=15) (news:=kU.map ratL) rfl rfl rfl rfl (by simp) (.inl rfl) (by decide) Tryz.underlying36 Tryz.underlying36 Z29a T29 rfl B29 (.inr (.inl rfl)) (by simp;omega) (by simp;omega) (by decide)) ?_
     refine st_nil ?_
     refine any_1 12 _ (by decide +kernel) rfl ?_
     refine zg1 ?_
     refine st_nil ?_
     refine any_1 14 _ (by decide +kernel) rfl ?_
     refine zg1 ?_
     refine st_nil ?_
     refine any_0 (by decide +kernel) ?_
     refine zg1 ?_
     exact⟨_,trivial,((put_id' (put_id' (put_id' (mk_id' (by first | exact cl | (refine zSm ?_;refine hp_ext ?_ ?_<;>repeat (first | exact trivial | refine And.intro rfl ?_)))) cl) cl) cl)).symm⟩
  ·refine zg1 ?_
   refine st_nil ?_
   refine any_2 4 13 _ _ (by decide +kernel) rfl rfl ?_ ?_
   ·refine zg1 ?_
    refine st_nil ?_
    refine any_2 7 13 _ _ (by decide +kernel) rfl rfl ?_ ?_
    ·refine st_store rfl (.appX (d:=11) (news:=kV.map ratL) rfl rfl rfl rfl (by simp) (.inl rfl) (by decide) Tryz.underlying36 Tryz.underlying36 Z29a T29 rfl B29 (.inr (.inl rfl)) (by simp;omega) (by simp;omega) (by decide)) ?_
     refine st_nil ?_
     refine any_2 11 13 _ _ (by decide +kernel) rfl rfl ?_ ?_
     ·refine st_store rfl (.appX (d:=15) (news:=kU.map ratL) rfl rfl rfl rfl (by simp) (.inl rfl) (by decide) Tryz.underlying36 Tryz.underlying36 Z29a T29 rfl B29 (.inr (.inl rfl)) (by simp;omega) (by simp;omega) (by decide)) ?_
      refine st_nil ?_
      refine any_2 12 13 _ _ (by decide +kernel) rfl rfl ?_ ?_
      ·refine zg1 ?_
       refine st_nil ?_
       refine any_1 13 _ (by decide +kernel) rfl ?_
       refine zg1 ?_
       refine st_nil ?_
       refine any_1 14 _ (by decide +kernel) rfl ?_
       refine zg1 ?_
       refine st_nil ?_
       refine any_0 (by decide +kernel) ?_
       refine zg1 ?_
       exact⟨_,trivial,((put_id' (put_id' (put_id' (mk_id' (by first | exact cl | (refine zSm ?_;refine hp_ext ?_ ?_<;>repeat (first | exact trivial | refine And.intro rfl ?_)))) cl) cl) cl)).symm⟩
      ·refine zg1 ?_
       refine st_nil ?_
       refine any_1 12 _ (by decide +kernel) rfl ?_
       refine zg1 ?_
       refine st_nil ?_
       refine any_1 14 _ (by decide +kernel) rfl ?_
       refine zg1 ?_
       refine st_nil ?_
       refine any_0 (by decide +kernel) ?_
       refine zg1 ?_
       exact⟨_,trivial,((put_id' (put_id' (put_id' (mk_id' (by first | exact cl | (refine zSm ?_;refine hp_ext ?_ ?_<;>repeat (first | exact trivial | refine And.intro rfl ?_)))) cl) cl) cl)).symm⟩
     ·refine zg1 ?_
      refine st_nil ?_
      refine any_1 11 _ (by decide +kernel) rfl ?_
      refine st_store rfl (.appX (d:=15) (news:=kU.map ratL) rfl rfl rfl rfl (by simp) (.inl rfl) (by decide) Tryz.underlying36 Tryz.underlying36 Z29a T29 rfl B29 (.inr (.inl rfl)) (by simp;omega) (by simp;omega) (by decide)) ?_
      refine st_nil ?_
      refine any_1 12 _ (by decide +kernel) rfl ?_
      refine zg1 ?_
      refine st_nil ?_
      refine any_1 14 _ (by decide +kernel) rfl ?_
      refine zg1 ?_
      refine st_nil ?_
      refine any_0 (by decide +kernel) ?_
      refine zg1 ?_
      exact⟨_,trivial,((put_id' (put_id' (put_id' (mk_id' (by first | exact cl | (refine zSm ?_;refine hp_ext ?_ ?_<;>repeat (first | exact trivial | refine And.intro rfl ?_)))) cl) cl) cl)).symm⟩
    ·refine zg1 ?_
     refine st_nil ?_
     refine any_1 7 _ (by decide +kernel) rfl ?_
     refine st_store rfl (.appX (d:=11) (news:=kV.map ratL) rfl rfl rfl rfl (by simp) (.inl rfl) (by decide) Tryz.underlying36 Tryz.underlying36 Z29a T29 rfl B29 (.inr (.inl rfl)) (by simp;omega) (by simp;omega) (by decide)) ?_
     refine st_nil ?_
     refine any_1 11 _ (by decide +kernel) rfl ?_
     refine st_store rfl (.appX (d:=15) (news:=kU.map ratL) rfl rfl rfl rfl (by simp) (.inl rfl) (by decide) Tryz.underlying36 Tryz.underlying36 Z29a T29 rfl B29 (.inr (.inl rfl)) (by simp;omega) (by simp;omega) (by decide)) ?_
     refine st_nil ?_
     refine any_1 12 _ (by decide +kernel) rfl ?_
     refine zg1 ?_
     refine st_nil ?_
     refine any_1 14 _ (by decide +kernel) rfl ?_
     refine zg1 ?_
     refine st_nil ?_
     refine any_0 (by decide +kernel) ?_
     refine zg1 ?_
     exact⟨_,trivial,((put_id' (put_id' (put_id' (mk_id' (by first | exact cl | (refine zSm ?_;refine hp_ext ?_ ?_<;>repeat (first | exact trivial | refine And.intro rfl ?_)))) cl) cl) cl)).symm⟩
   ·refine zg1 ?_
    refine st_nil ?_
    refine any_1 4 _ (by decide +kernel) rfl ?_
    refine zg1 ?_
    refine st_nil ?_
    refine any_1 7 _ (by decide +kernel) rfl ?_
    refine st_store rfl (.appX (d:=11) (news:=kV.map ratL) rfl rfl rfl rfl (by simp) (.inl rfl) (by decide) Tryz.underlying36 Tryz.underlying36 Z29a T29 rfl B29 (.inr (.inl rfl)) (by simp;omega) (by simp;omega) (by decide)) ?_
    refine st_nil ?_
    refine any_1 11 _ (by decide +kernel) rfl ?_
    refine st_store rfl (.appX (d:=15) (news:=kU.map ratL) rfl rfl rfl rfl (by simp) (.inl rfl) (by decide) Tryz.underlying36 Tryz.underlying36 Z29a T29 rfl B29 (.inr (.inl rfl)) (by simp;omega) (by simp;omega) (by decide)) ?_
    refine st_nil ?_
    refine any_1 12 _ (by decide +kernel) rfl ?_
    refine zg1 ?_
    refine st_nil ?_
    refine any_1 14 _ (by decide +kernel) rfl ?_
    refine zg1 ?_
    refine st_nil ?_
    refine any_0 (by decide +kernel) ?_
    refine zg1 ?_
    exact⟨_,trivial,((put_id' (put_id' (put_id' (mk_id' (by first | exact cl | (refine zSm ?_;refine hp_ext ?_ ?_<;>repeat (first | exact trivial | refine And.intro rfl ?_)))) cl) cl) cl)).symm⟩
  ·refine zg1 ?_
   refine st_nil ?_
   refine any_2 4 8 _ _ (by decide +kernel) rfl rfl ?_ ?_
   ·refine zg1 ?_
    refine st_nil ?_
    refine any_2 7 8 _ _ (by decide +kernel) rfl rfl ?_ ?_
    ·refine st_store rfl (.appX (d:=11) (news:=kV.map ratL) rfl rfl rfl rfl (by simp) (.inl rfl) (by decide) Tryz.underlying36 Tryz.underlying36 Z29a T29 rfl B29 (.inr (.inl rfl)) (by simp;omega) (by simp;omega) (by decide)) ?_
     refine st_nil ?_
     refine any_1 8 _ (by decide +kernel) rfl ?_
     refine zg1 ?_
     refine st_nil ?_
     refine any_1 11 _ (by decide +kernel) rfl ?_
     refine st_store rfl (.appX (d:=15) (news:=kU.map ratL) rfl rfl rfl rfl (by simp) (.inl rfl) (by decide) Tryz.underlying36 Tryz.underlying36 Z29a T29 rfl B29 (.inr (.inl rfl)) (by simp;omega) (by simp;omega) (by decide)) ?_
     refine st_nil ?_
     refine any_1 12 _ (by decide +kernel) rfl ?_
     refine zg1 ?_
     refine st_nil ?_
     refine any_1 14 _ (by decide +kernel) rfl ?_
     refine zg1 ?_
     refine st_nil ?_
     refine any_0 (by decide +kernel) ?_
     refine zg1 ?_
     exact⟨_,trivial,((put_id' (put_id' (put_id' (mk_id' (by first | exact cl | (refine zSm ?_;refine hp_ext ?_ ?_<;>repeat (first | exact trivial | refine And.intro rfl ?_)))) cl) cl) cl)).symm⟩
    ·refine zg1 ?_
     refine st_nil ?_
     refine any_1 7 _ (by decide +kernel) rfl ?_
     refine st_store rfl (.appX (d:=11) (news:=kV.map ratL) rfl rfl rfl rfl (by simp) (.inl rfl) (by decide) Tryz.underlying36 Tryz.underlying36 Z29a T29 rfl B29 (.inr (.inl rfl)) (by simp;omega) (by simp;omega) (by decide)) ?_
     refine st_nil ?_
     refine any_1 11 _ (by decide +kernel) rfl ?_
     refine st_store rfl (.appX (d:=15) (news:=kU.map ratL) rfl rfl rfl rfl (by simp) (.inl rfl) (by decide) Tryz.underlying36 Tryz.underlying36 Z29a T29 rfl B29 (.inr (.inl rfl)) (by simp;omega) (by simp;omega) (by decide)) ?_
     refine st_nil ?_
     refine any_1 12 _ (by decide +kernel) rfl ?_
     refine zg1 ?_
     refine st_nil ?_
     refine any_1 14 _ (by decide +kernel) rfl ?_
     refine zg1 ?_
     refine st_nil ?_
     refine any_0 (by decide +kernel) ?_
     refine zg1 ?_
     exact⟨_,trivial,((put_id' (put_id' (put_id' (mk_id' (by first | exact cl | (refine zSm ?_;refine hp_ext ?_ ?_<;>repeat (first | exact trivial | refine And.intro rfl ?_)))) cl) cl) cl)).symm⟩
   ·refine zg1 ?_
    refine st_nil ?_
    refine any_1 4 _ (by decide +kernel) rfl ?_
    refine zg1 ?_
    refine st_nil ?_
    refine any_1 7 _ (by decide +kernel) rfl ?_
    refine st_store rfl (.appX (d:=11) (news:=kV.map ratL) rfl rfl rfl rfl (by simp) (.inl rfl) (by decide) Tryz.underlying36 Tryz.underlying36 Z29a T29 rfl B29 (.inr (.inl rfl)) (by simp;omega) (by simp;omega) (by decide)) ?_
    refine st_nil ?_
    refine any_1 11 _ (by decide +kernel) rfl ?_
    refine st_store rfl (.appX (d:=15) (news:=kU.map ratL) rfl rfl rfl rfl (by simp) (.inl rfl) (by decide) Tryz.underlying36 Tryz.underlying36 Z29a T29 rfl B29 (.inr (.inl rfl)) (by simp;omega) (by simp;omega) (by decide)) ?_
    refine st_nil ?_
    refine any_1 12 _ (by decide +kernel) rfl ?_
    refine zg1 ?_
    refine st_nil ?_
    refine any_1 14 _ (by decide +kernel) rfl ?_
    refine zg1 ?_
    refine st_nil ?_
    refine any_0 (by decide +kernel) ?_
    refine zg1 ?_
    exact⟨_,trivial,((put_id' (put_id' (put_id' (mk_id' (by first | exact cl | (refine zSm ?_;refine hp_ext ?_ ?_<;>repeat (first | exact trivial | refine And.intro rfl ?_)))) cl) cl) cl)).symm⟩
 ·rintro _ ⟨LR1,-,rfl⟩
  refine zg8 ?_
  refine wl_weak ((Weak.cell 3 rfl (fun Z μ w cs h=>rep_srf 100 1 _ _ _ _ Z μ w cs h)).trans (Weak.newB _ 100 1 rfl)) ?_
  refine lp1 (fun(j:Nat) L=>(((((St.mk L.slot (hp [(2,⟨5,[.agg [.v (.int .i64 0),.v (.int .i64 0),.v (.slice none 0 0),.v (.slice none 0 0),.v (.slice none 0 0)]],true⟩),(3,⟨5,[.agg [nI64 V,nI64 U,.ref 11 3 0 kV.length,.ref 15 3 0 kU.length,.ref 100 1 0 j]],true⟩),(11,⟨3,kV.map ratL,true⟩),(15,⟨3,kU.map ratL,true⟩),(100,⟨1,((swR V rows).take j).map prL,true⟩)])).put (some 1) (.boxp (.agg [nI64 U,nI64 V,.list 3 (kU.map ratL),.list 3 (kV.map ratL),.list 1 (rows.map prL)]))).put (some 2) (.eptr 2 5 0 0)).put (some 3) (.eptr 3 5 0 0)).put (some 4) (nI64 j))) (fun j=>j≤V+1) (fun j=>V+1-j) 0 (Nat.zero_le _) ?_
  rintro j L1 hj
  refine zg12 ?_
  refine wl_if rfl (fun h26r h26=>?_) (fun h26r h26=>?_)
  ·have hj2:j<V+1:=by omega
   have eto:(((swR V rows).take j).map prL).take j=((swR V rows).take j).map prL:=List.take_of_length_le (by simp;omega)
   have esw:((swR V rows).take j).map prL++[LV.list 12 ((rows.map fun r=>r.getD j default).map poL)]=((swR V rows).take (j+1)).map prL:=by
    show ((swR V rows).take j).map prL++[prL (rows.map fun r=>r.getD j default)]=_
    rw [map_snoc,swR_take rows hj2]
   refine zg16 ?_
   refine wl_weak (Weak.own (t:=5) 95 12 rfl rfl) ?_
   refine lp1 (fun(i:Nat) L=>(((((((St.mk L.slot (hp [(2,⟨5,[.agg [.v (.int .i64 0),.v (.int .i64 0),.v (.slice none 0 0),.v (.slice none 0 0),.v (.slice none 0 0)]],true⟩),(3,⟨5,[.agg [nI64 V,nI64 U,.ref 11 3 0 kV.length,.ref 15 3 0 kU.length,.ref 100 1 0 j]],true⟩),(11,⟨3,kV.map ratL,true⟩),(15,⟨3,kU.map ratL,true⟩),(100,⟨1,((swR V rows).take j).map prL,true⟩),(95,⟨12,((rows.map fun r=>r.getD j default).take i).map poL,true⟩)])).put (some 1) (.boxp (.agg [nI64 U,nI64 V,.list 3 (kU.map ratL),.list 3 (kV.map ratL),.list 1 (rows.map prL)]))).put (some 2) (.eptr 2 5 0 0)).put (some 3) (.eptr 3 5 0 0)).put (some 4) (nI64 j)).put (some 5) (.ref 95 12 0 i)).put (some 6) (nI64 i))) (fun i=>i≤U+1) (fun i=>U+1-i) 0 (Nat.zero_le _) ?_
   rintro i L2 hi
   refine zg10 ?_
   refine wl_if rfl (fun h33r h33=>?_) (fun h33r h33=>?_)
   ·have hi2:i<U+1:=by omega
    have hri:=h.r0 (Nat.le_of_lt_succ hi2)
    have etk:(((rows.map fun r=>r.getD j default).take i).map poL).take i=((rows.map fun r=>r.getD j default).take i).map poL:=List.take_of_length_le (by simp;omega)
    have egr:=mapT (fun r:List PoR=>r.getD j default) rows [] (i:=i) (by omega)
    refine zg15 ?_
    refine st_store rfl (.appX (d:=95) (news:=[poL ((rows.getD i []).getD j default)]) rfl rfl rfl rfl (by simp;omega) (.inl rfl) (by decide) Tryz.underlying60 Tryz.underlying60 Z62 T62 cs B62 (.inl ⟨45,0,_,rfl,by decide,rfl,rfl,by simp,rfl,by simp [pures,poE.pure]⟩) (by simp;omega) (by simp;omega) (by decide)) ?_
    refine zg4 ?_
    refine wl_regW (Weak.kill _ 45) ?_
    refine zg1 ?_
    refine st_pure rfl (.bin rfl rfl (add1N (by omega))) ?_
    refine zg3 ?_
    exact nx1 (i+1) (by omega)
   ·obtain rfl:i=U+1:=by omega
    rw [(List.take_of_length_le (by rw [List.length_map];omega):(rows.map fun r=>r.getD j default).take (U+1)=(rows.map fun r=>r.getD j default))]
    refine zg5 ?_
    refine wl_regW (Weak.hand (t:=5) (b:=95) poE rfl rfl (by simp;omega)) ?_
    refine zg4 ?_
    refine st_store rfl (.appX (d:=100) (news:=[prL (rows.map fun r=>r.getD j default)]) rfl rfl rfl rfl (by simp only [kills_map prE,List.length_map,List.length_take,List.length_cons,List.length_nil];omega) (.inl rfl) (by decide) Tryz.underlying37 Tryz.underlying37 prZ T60 cs B60 (.inl ⟨50,0,_,rfl,by decide,rfl,rfl,by simp,rfl,by simp [pures,prE.pure]⟩) (by simp only [kills_map prE,List.length_map,List.length_take,List.length_cons,List.length_nil];omega) (by simp only [kills_map prE,List.length_map,List.length_take,List.length_cons,List.length_nil];omega) (by decide)) ?_
    refine zg5 ?_
    refine wl_regW (Weak.kill _ 50) ?_
    refine zg1 ?_
    refine st_pure rfl (.bin rfl rfl (add1N (by omega))) ?_
    refine zg3 ?_
    exact nx1 (j+1) (by omega)
  ·obtain rfl:j=V+1:=by omega
   rw [List.take_of_length_le (by omega:(swR V rows).length≤V+1)]
   refine zg12 ?_
   exact retC [11,15,100] rfl rfl rfl cs (at_all cs rfl) T39 (.agg (.cons (.pure rfl) (.cons (.pure rfl) (.cons (imm_refm ratE rfl rfl rfl) (.cons (imm_refm ratE rfl rfl rfl) (.cons (imm_refm prE rfl rfl (swR_len V rows).symm) .nil))))))
theorem cvR.wp {po:List PoR} {d R:Nat} (h:cvR po d R) {x:Rat} (h0:0≤x) (h1:x≤1):0<evP (wtP po) x:=by
 have hl:=wtP_len po
 have hp:0<(wtP po).length:=by rw [hl,h.hl];omega
 have hb:=ev_bnd (p:=wtP po) h0 h1 hp
 unfold hasR at hb
 simp only [Bool.and_eq_true,decide_eq_true_eq] at hb
 refine lt_le_trans ?_ hb.1
 obtain⟨i,hi,e⟩:=((bk_spec (wtP po) (wtP po).length).2 hp).1
 show 0<(bkP (wtP po) (wtP po).length).1
 rw [e]
 obtain⟨q,hq,hw⟩:=List.mem_map.1 (getD_mem (p:=wtP po) hi)
 rw [←hw]
 exact(h.ok q hq).2.2
theorem flat_get {m:Nat}:∀ {rows:List (List PoR)},(∀ r∈rows,r.length=m)→∀ i j,i<rows.length→j<m→rows.flatten.getD (i*m+j) default=(rows.getD i []).getD j default
 | [],_,i,j,hi,_=>absurd hi (by simp)
 | r :: rs,h,0,j,hi,hj=>by
  have hr:=h r (List.mem_cons_self ..)
  rw [List.flatten_cons,Nat.zero_mul,Nat.zero_add,List.getD_eq_getElem?_getD,List.getElem?_append_left (by omega)]
  rfl
 | r :: rs,h,i+1,j,hi,hj=>by
  have hr:=h r (List.mem_cons_self ..)
  rw [List.flatten_cons,List.getD_eq_getElem?_getD,List.getElem?_append_right (by rw [hr,Nat.succ_mul];omega),hr,show (i+1)*m+j-m=i*m+j by rw [Nat.succ_mul];omega,←List.getD_eq_getElem?_getD,
   flat_get (fun x hx=>h x (List.mem_cons_of_mem _ hx)) i j (by simpa using hi) hj]
  rfl
section
variable {R U V:Nat} {rows:List (List PoR)} (h:pf R U V rows)
include h
theorem pf.cv {i:Nat} (hi:i≤U):cvR (rows.getD i []) V R where
 hl:=h.r0 hi
 hd:=h.v1
 h6:=by have:=h.v3;omega
 ok:=fun q hq=>h.ok _ (getR_mem (by rw [h.n];omega)) q hq
theorem pcol_get {i j:Nat} (hi:i≤U) (hj:j≤V):((swR V rows).getD j []).getD i default=rows.flatten.getD (i*(V+1)+j) default:=by
 rw [flat_get h.m i j (by rw [h.n];omega) (by omega),swR_getD rows (by omega),List.getD_eq_getElem?_getD,List.getElem?_map,List.getD_eq_getElem?_getD (l:=rows),List.getElem?_eq_getElem (show i<rows.length by rw [h.n];omega)]
 rfl
end
section
variable {R U V:Nat} {rows:List (List PoR)} (h:pf R U V rows) {x:Rat} (x0:0≤x) (x1:x≤1)
include h x0 x1
end
namespace H_c_FRow
theorem zSm {p q:Prop} (k:q) (e:p=q:=by simp only [e1,e2,e3,e4,p1,p2,p3,q1,q2,q3,l1,t0,t1,r1,r2,r3,r4,Nat.zero_add,Nat.reduceMul,Nat.reduceAdd,b1,b2,b3,b4,b5,b6,i1,i2,i3,i4,i5,i6,Nat.reduceBEq,prL,prL_kill,kills_map prE,dfr,dfq,take_map_len,map_snoc,len_snoc,List.length_cons,List.length_nil,List.nil_append,List.map_nil,List.take_nil,List.append_nil,List.set_cons_zero,List.set_cons_succ,Nat.reduceEqDiff,reduceIte,if_true,if_false,ptL_kill,poL_kill,kills_map ptE,kills_map poE,kills_map ratE,ratL_kill,spL_kill,LV.kill,kills];exact rfl):p:=e.mpr k
end H_c_FRow
open H_c_FRow in
theorem c_FRow (U V:Nat) (kU kV:List Rat) (rows:List (List PoR)) (i:Nat) (hi:i<rows.length) (hn:rows.length≤100):CallP Tryz.prog 75 [.agg [nI64 U,nI64 V,.list 3 (kU.map ratL),.list 3 (kV.map ratL),.list 1 (rows.map prL)],nI64 i] (.agg [nI64 V,.list 3 (kV.map ratL),.list 12 ((rows.getD i []).map poL)]):=by
 have hsp:LV.pure (.agg [nI64 U,nI64 V,.list 3 (kU.map ratL),.list 3 (kV.map ratL),.list 1 (rows.map prL)])=true:=by simp [LV.pure,pures,pures_map ratE,pures_map prE]
 have hpv:=pures_map ratE kV
 have hpu:=pures_map ratE kU
 have hpr:=pures_map prE rows
 have hpo:=pures_map poE (rows.getD i [])
 have hcp:LV.pure (.agg [nI64 V,.list 3 (kV.map ratL),.list 12 ((rows.getD i []).map poL)])=true:=by simp [LV.pure,pures,pures_map ratE,pures_map poE]
 refine fnP Tryz.func75 (ht:=(fun g=>LV.ren_pure g _ (by simp [LV.pure,pures,pures_map ratE,pures_map poE]))) ?_
 refine zg7 ?_
 refine wl_regD 10 (by decide +kernel) ?_
 refine zg14 ?_
 exact retC [] rfl rfl rfl cs (at_all cs rfl) T113 (.pure hcp)
end Go.Proofs.YtfpdccbgngdhkaaGreat
end
