/- Texts Y3, Y0, Y4, Y5, Y6, Y7, Y8, Y9 of this proof, joined. -/
import Derived.Test.YtfpdccbgngdhkaaGreatQH6
set_option linter.unusedVariables false
set_option linter.unusedSimpArgs false
section
set_option linter.unusedVariables false
set_option linter.unusedSimpArgs false
set_option maxHeartbeats 8000000
set_option maxRecDepth 100000
attribute [local irreducible] Go.Lg.opsL Go.Lg.wpL Go.Lg.thenL Go.Lg.blockL
namespace Go.Proofs.YtfpdccbgngdhkaaGreat
open Go.Lg
structure pf (R U V:Nat) (rows:List (List PoR)):Prop where
 r1:1≤R
 rB:R≤1000000
 u1:1≤U
 u3:U≤3
 v1:1≤V
 v3:V≤3
 n:rows.length=U+1
 m:∀ r∈rows,r.length=V+1
 ok:∀ r∈rows,∀ q∈r,okP R q
theorem flat_len {rows:List (List PoR)} {m:Nat} (h:∀ r∈rows,r.length=m):rows.flatten.length=rows.length*m:=by
 induction rows with
 | nil=>simp
 | cons r rs ih =>
  rw [List.flatten_cons,List.length_append,ih fun x hx=>h x (List.mem_cons_of_mem _ hx),h r (List.mem_cons_self ..),List.length_cons,Nat.succ_mul,Nat.add_comm]
section
variable {R U V:Nat} {rows:List (List PoR)} (h:pf R U V rows)
include h
theorem pf.len:rows.flatten.length=(U+1)*(V+1):=by rw [flat_len h.m,h.n]
theorem pf.l16:rows.flatten.length≤16:=by
 rw [h.len]
 have h1:=h.u3
 have h2:=h.v3
 exact Nat.le_trans (Nat.mul_le_mul (show U+1≤4 by omega) (show V+1≤4 by omega)) (by decide)
theorem pf.fok:∀ q∈rows.flatten,okP R q:=fun q hq=>by
 obtain⟨r,h1,h2⟩:=List.mem_flatten.1 hq
 exact h.ok r h1 q h2
theorem pf.rw:rwOK rows R:=by
 have h1:=h.u3
 have h2:=h.v3
 have h3:=h.n
 have h4:=h.l16
 exact⟨h.ok,by omega,fun r hr=>by have:=h.m r hr;omega,by omega⟩
theorem pf.nl (k:Nat):(nmP rows.flatten k).length=(U+1)*(V+1):=by rw [nmP_len,h.len]
theorem pf.wl:(wtP rows.flatten).length=(U+1)*(V+1):=by rw [wtP_len,h.len]
theorem pf.nr (k:Nat):∀ x∈nmP rows.flatten k,rl x≤2*R:=nmP_rl h.fok k
theorem pf.wr:∀ x∈wtP rows.flatten,rl x≤R:=wtP_rl h.fok
end
theorem sx_rlR {U V i j R:Nat} {c:List Rat} (hU:U≤40) (hV:V≤40) (hc:c.length=(U+1)*(V+1)) (hi:i≤U) (hR:1≤R) (h:∀ x∈c,rl x≤R):rl (sx U V c i j)≤R+4:=by
 have h1:=chsQ_rl (n:=U) i hU
 have h2:=chsQ_rl (n:=V) j hV
 have h3:=getD_rl (S:=R) hR (fun x hx=>h x (rwL_mem (V:=V) (i:=i) hx)) j
 have h4:=rl_mul (cR V j) ((rwL V c i).getD j 0)
 have h5:=rl_mul (cR U i) (cR V j*(rwL V c i).getD j 0)
 rw [sx,sq,rwL_len hc hi,Nat.add_sub_cancel]
 unfold cR at *
 omega
theorem tm_rlR {S U1 V1 U2 V2:Nat} {a b:List Rat} (ha:a.length=(U1+1)*(V1+1)) (hb:b.length=(U2+1)*(V2+1)) (hU1:U1≤3) (hV1:V1≤3) (hU2:U2≤3) (hV2:V2≤3) (hS:1≤S) (haR:∀ x∈a,rl x≤S) (hbR:∀ x∈b,rl x≤S):∀ x∈tmL U1 V1 U2 V2 a b,rl x≤224*S+1200:=by
 intro x hx
 have ht:=tm_len U1 V1 U2 V2 a b
 obtain⟨k,hk,rfl⟩:=List.getElem_of_mem hx
 rw [ht] at hk
 have h1:k/(V1+V2+1)<U1+U2+1:=Nat.div_lt_of_lt_mul (by rw [Nat.mul_comm];exact hk)
 have h2:=Nat.mod_lt k (show V1+V2+1 > 0 by omega)
 have e:k=k/(V1+V2+1)*(V1+V2+1)+k % (V1+V2+1):=by rw [Nat.mul_comm];exact(Nat.div_add_mod k _).symm
 have e2:(tmL U1 V1 U2 V2 a b)[k]=(tmL U1 V1 U2 V2 a b).getD k 0:=by rw [List.getD_eq_getElem?_getD,List.getElem?_eq_getElem (by rw [ht];exact hk)];rfl
 rw [e2,e]
 generalize k/(V1+V2+1)=r at *
 generalize k % (V1+V2+1)=s at *
 rw [tm_get ha hb (by omega) (by omega)]
 have c1:=chsQ_rl (n:=U1+U2) r (by omega)
 have c2:=chsQ_rl (n:=V1+V2) s (by omega)
 have c3:=rl_mul (cR (U1+U2) r) (cR (V1+V2) s)
 have hcf:∀ i,i<U1+1→∀ k,k<U2+1→rl (if i+k=r then cf (sx U1 V1 a i) (sx U2 V2 b k) s else 0)≤14*S+64:=fun i hi k hk=>by
  split
  ·have:=sm_rlT (B:=2*S+8) (s+1) (fun j=>sx U1 V1 a i j*sx U2 V2 b k (s-j)) (fun j _=>by
    have g1:=sx_rlR (j:=j) (show U1≤40 by omega) (show V1≤40 by omega) ha (show i≤U1 by omega) hS haR
    have g2:=sx_rlR (j:=s-j) (show U2≤40 by omega) (show V2≤40 by omega) hb (show k≤U2 by omega) hS hbR
    have g3:=rl_mul (sx U1 V1 a i j) (sx U2 V2 b k (s-j))
    omega)
   refine Nat.le_trans this ?_
   have:(s+1)*(2*S+8+1)≤7*(2*S+8+1):=Nat.mul_le_mul (by omega) (Nat.le_refl _)
   omega
  ·show rl 0≤_
   rw [show rl 0=1 from rfl];omega
 have h3:=sm_rlT (B:=56*S+261) (U1+1) _ (fun i hi=>Nat.le_trans (sm_rlT (B:=14*S+64) (U2+1) _ (hcf i hi)) (by
  have:(U2+1)*(14*S+64+1)≤4*(14*S+64+1):=Nat.mul_le_mul (by omega) (Nat.le_refl _)
  omega))
 have h4:=rl_div (tpS U1 V1 U2 V2 a b r s) (cR (U1+U2) r*cR (V1+V2) s)
 have h5:rl (tpS U1 V1 U2 V2 a b r s)≤1+(U1+1)*(56*S+261+1):=h3
 have h6:(U1+1)*(56*S+261+1)≤4*(56*S+261+1):=Nat.mul_le_mul (by omega) (Nat.le_refl _)
 unfold cR at *
 omega
def sgN (U V Ud Vd:Nat) (D:List Rat→List Rat) (F:List PoR) (k:Nat):List Rat:=zipG (·-·) (tmL Ud Vd U V (D (nmP F k)) (wtP F)) (tmL U V Ud Vd (nmP F k) (D (wtP F)))
structure dfS (U V Ud Vd:Nat) (D:List Rat→List Rat):Prop where
 u:Ud≤3
 v:Vd≤3
 l:∀ c:List Rat,c.length=(U+1)*(V+1)→(D c).length=(Ud+1)*(Vd+1)
 r:∀ (R:Nat) (c:List Rat),1≤R→c.length=(U+1)*(V+1)→(∀ x∈c,rl x≤R)→∀ x∈D c,rl x≤2*R+4
theorem dfS_U {U V:Nat} (hU:U≤3) (hV:V≤3):dfS U V (U-1) V (dfU U V) :=
 ⟨by omega,hV,fun c _=>dfU_len U V c,fun R c hR hc h=>dfU_rl (R:=R) hc (by omega) hR h⟩
theorem dfS_V {U V:Nat} (hU:U≤3) (hV:V≤3):dfS U V U (V-1) (dfV U V) :=
 ⟨hU,by omega,fun c hc=>dfV_len hc,fun R c hR hc h=>dfV_rl (R:=R) hc (by omega) hR h⟩
section
variable {R U V Ud Vd:Nat} {rows:List (List PoR)} {D:List Rat→List Rat} (h:pf R U V rows) (hd:dfS U V Ud Vd D) (k:Nat)
theorem sg_m1 (h:pf R U V rows) (hd:dfS U V Ud Vd D) (k:Nat):(tmL Ud Vd U V (D (nmP rows.flatten k)) (wtP rows.flatten)).length=(Ud+U+1)*(Vd+V+1)∧∀ x∈tmL Ud Vd U V (D (nmP rows.flatten k)) (wtP rows.flatten),rl x≤900*R+2100 :=
 ⟨tm_len ..,fun x hx=>by
  have hr:=h.r1
  have:=tm_rlR (S:=4*R+4) (hd.l _ (h.nl k)) h.wl hd.u hd.v h.u3 h.v3 (by omega) (fun x hx=>by have:=hd.r _ _ (show 1≤2*R by omega) (h.nl k) (h.nr k) x hx;omega) (fun x hx=>by have:=h.wr x hx;omega) x hx
  omega⟩
theorem sg_m2 (h:pf R U V rows) (hd:dfS U V Ud Vd D) (k:Nat):(tmL U V Ud Vd (nmP rows.flatten k) (D (wtP rows.flatten))).length=(Ud+U+1)*(Vd+V+1)∧∀ x∈tmL U V Ud Vd (nmP rows.flatten k) (D (wtP rows.flatten)),rl x≤900*R+2100 :=
 ⟨by rw [tm_len,Nat.add_comm U Ud,Nat.add_comm V Vd],fun x hx=>by
  have hr:=h.r1
  have:=tm_rlR (S:=4*R+4) (h.nl k) (hd.l _ h.wl) h.u3 h.v3 hd.u hd.v (by omega) (fun x hx=>by have:=h.nr k x hx;omega) (fun x hx=>by have:=hd.r _ _ hr h.wl h.wr x hx;omega) x hx
  omega⟩
theorem sg_len (h:pf R U V rows) (hd:dfS U V Ud Vd D) (k:Nat):(sgN U V Ud Vd D rows.flatten k).length=(Ud+U+1)*(Vd+V+1):=by rw [sgN,zipG_len];exact(sg_m1 h hd k).1
theorem sg_rl (h:pf R U V rows) (hd:dfS U V Ud Vd D) (k:Nat):∀ x∈sgN U V Ud Vd D rows.flatten k,rl x≤1800*R+4201:=fun x hx=>by
 have:=zipS_rl (R:=900*R+2100) rl_sub (by omega) (sg_m1 h hd k).2 (sg_m2 h hd k).2 x hx
 omega
theorem sq_le {a b:Nat} (ha:a≤6) (hb:b≤6):(a+1)*(b+1)≤49:=Nat.le_trans (Nat.mul_le_mul (show a+1≤7 by omega) (show b+1≤7 by omega)) (by decide)
theorem sg_l49 (h:pf R U V rows) (hd:dfS U V Ud Vd D) (k:Nat):(sgN U V Ud Vd D rows.flatten k).length≤49:=by
 have h1:=h.u3
 have h2:=h.v3
 have h3:=hd.u
 have h4:=hd.v
 rw [sg_len h hd k]
 exact sq_le (by omega) (by omega)
end
def shX (x:Rat):Prop:=rl (1-x)+rl x+1≤20
theorem evT_sz {R U V:Nat} {c:List Rat} {u v:Rat} (hc:c.length=(U+1)*(V+1)) (hU:U≤6) (hV:V≤6) (hR1:1≤R) (hR:R≤100000) (h:∀ x∈c,rl x≤R) (hu:shX u) (hv:shX v) :
  (∀ j,j≤V→HS (rwL U (swL U V c) j) u)∧HS (rowT U V c u) v∧(∀ i,i≤U→HS (rwL V c i) v)∧HS (colT U V c v) u∧rl (evT U V c u v)≤4100*(R+30):=by
 unfold shX at hu hv
 have h1:∀ j,j≤V→∀ x∈rwL U (swL U V c) j,rl x≤R:=fun j _ x hx=>h x (sw_mem hc (rwL_mem hx))
 have h2:∀ j,j≤V→(rwL U (swL U V c) j).length=U+1:=fun j hj=>rwL_len (swL_len U V c) hj
 have h3:∀ i,i≤U→∀ x∈rwL V c i,rl x≤R:=fun j _ x hx=>h x (rwL_mem hx)
 have h4:∀ i,i≤U→(rwL V c i).length=V+1:=fun j hj=>rwL_len hc hj
 have p6:∀ n,n≤6→2 ^ n≤64:=fun n hn=>Nat.pow_le_pow_right (n:=2) (by decide) hn
 have hrow:∀ x∈rowT U V c u,rl x≤(R+20)*64:=rs_mem (U:=V) (fun j hj x hx=>by
  rw [List.mem_singleton.1 hx]
  have:=ev_rl (p:=rwL U (swL U V c) j) (t:=u) (by rw [h2 j hj];omega) hR1 (h1 j hj)
  rw [h2 j hj,Nat.add_sub_cancel] at this
  exact Nat.le_trans this (Nat.mul_le_mul (by omega) (p6 U hU))) (Nat.le_refl _)
 have hcol:∀ x∈colT U V c v,rl x≤(R+20)*64:=rs_mem (U:=U) (fun i hi x hx=>by
  rw [List.mem_singleton.1 hx]
  have:=ev_rl (p:=rwL V c i) (t:=v) (by rw [h4 i hi];omega) hR1 (h3 i hi)
  rw [h4 i hi,Nat.add_sub_cancel] at this
  exact Nat.le_trans this (Nat.mul_le_mul (by omega) (p6 V hV))) (Nat.le_refl _)
 refine⟨fun j hj=>hs_ofL (by rw [h2 j hj];omega) (fun y hy=>by have:=h1 j hj y hy;omega) (by omega),hs_ofL (by rw [rowT_len];omega) (fun y hy=>by have:=hrow y hy;omega) (by omega),
  fun j hj=>hs_ofL (by rw [h4 j hj];omega) (fun y hy=>by have:=h3 j hj y hy;omega) (by omega),hs_ofL (by rw [colT_len];omega) (fun y hy=>by have:=hcol y hy;omega) (by omega),?_⟩
 have:=ev_rl (p:=rowT U V c u) (t:=v) (by rw [rowT_len];omega) (show 1≤(R+20)*64 by omega) hrow
 rw [rowT_len,Nat.add_sub_cancel] at this
 refine Nat.le_trans this (Nat.le_trans (Nat.mul_le_mul (show _≤(R+20)*64+20 by omega) (p6 V hV)) ?_)
 omega
namespace H_c_Sends
theorem zSm {p q:Prop} (k:q) (e:p=q:=by simp only [e1,e2,e3,e4,p1,p2,p3,q1,q2,q3,l1,t0,t1,r1,r2,r3,r4,Nat.zero_add,Nat.reduceMul,Nat.reduceAdd,b1,b2,b3,b4,b5,b6,i1,i2,i3,i4,i5,i6,Nat.reduceBEq,dfq,hkl,hlo,hhi,List.length_map,List.set_cons_zero,List.set_cons_succ,Nat.reduceEqDiff,reduceIte,if_true,if_false,ptL_kill,poL_kill,kills_map ptE,kills_map poE,kills_map ratE,ratL_kill,spL_kill,LV.kill,kills];exact rfl):p:=e.mpr k
end H_c_Sends
open H_c_Sends in
theorem c_Sends (d:Nat) (a b:Rat) (ha:rl a≤100) (hb:rl b≤100) (hab:a<b) (h9:d≤6):CallP Tryz.prog 129 [.list 3 ((kn2 d a b).map ratL)] (spL (a,b)):=by
 have hkl:=kn2_len d a b
 have hlo:=kn2_lo d a b
 have hhi:=kn2_hi d a b
 have hkp:=pure_lst ratE 3 (kn2 d a b)
 have hS:=c_SOf a b (by omega)
 rw [mn_lt2 hab,mx_lt2 hab] at hS
 refine fnP Tryz.func129 ?_
 refine zg13 ?_
 refine wl_if rfl (fun h5r h5=>?_) (fun h5r h5=>?_)
 ·omega
 ·refine zg3 ?_
  refine wl_regD 10 (by decide +kernel) ?_
  refine zg6 ?_
  refine st_pure rfl (.bin rfl rfl (sub1N (by omega) (by omega))) ?_
  refine zg2 ?_
  try simp only [t1,dfq,hkl,hlo,hhi,List.length_map]
  refine cp am2 (hS) ?_
  refine zg4 ?_
  exact retC [] rfl rfl rfl (spE.csize _) (spL_all _) T42 (.pure (spE.pure _))
namespace H_c_PDom
theorem zSm {p q:Prop} (k:q) (e:p=q:=by simp only [e1,e2,e3,e4,p1,p2,p3,q1,q2,q3,l1,t0,t1,r1,r2,r3,r4,Nat.zero_add,Nat.reduceMul,Nat.reduceAdd,b1,b2,b3,b4,b5,b6,i1,i2,i3,i4,i5,i6,Nat.reduceBEq,prL_kill,kills_map prE,dfr,dfq,take_map_len,map_snoc,len_snoc,List.length_cons,List.length_nil,List.nil_append,List.map_nil,List.take_nil,List.append_nil,List.set_cons_zero,List.set_cons_succ,Nat.reduceEqDiff,reduceIte,if_true,if_false,ptL_kill,poL_kill,kills_map ptE,kills_map poE,kills_map ratE,ratL_kill,spL_kill,LV.kill,kills];exact rfl):p:=e.mpr k
end H_c_PDom
open H_c_PDom in
theorem c_PDom (U V:Nat) (ua ub va vb:Rat) (rows:List (List PoR)) (hua:rl ua≤100) (hub:rl ub≤100) (hva:rl va≤100) (hvb:rl vb≤100) (hu:ua<ub) (hv:va<vb) (hU:U≤6) (hV:V≤6):CallP Tryz.prog 64 [.agg [nI64 U,nI64 V,.list 3 ((kn2 U ua ub).map ratL),.list 3 ((kn2 V va vb).map ratL),.list 1 (rows.map prL)]] (.tup [spL (ua,ub),spL (va,vb)]):=by
 have hsp:LV.pure (.agg [nI64 U,nI64 V,.list 3 ((kn2 U ua ub).map ratL),.list 3 ((kn2 V va vb).map ratL),.list 1 (rows.map prL)])=true:=by simp [LV.pure,pures,pures_map ratE,pures_map prE]
 have hku:=pure_lst ratE 3 (kn2 U ua ub)
 have hkv:=pure_lst ratE 3 (kn2 V va vb)
 refine fnP Tryz.func64 (ht:=(tame2 (spE.pure _) (spE.pure _))) ?_
 refine zg8 ?_
 refine wl_regD 6 (by decide +kernel) ?_
 refine zg2 ?_
 refine cp am1 (c_Sends U ua ub hua hub hu hU) ?_
 refine zg2 ?_
 refine cp am1 (c_Sends V va vb hva hvb hv hV) ?_
 refine zg5 ?_
 exact retCC [] rfl rfl rfl (spE.csize _) (spL_all _) T42 (.pure (spE.pure _)) rfl rfl (spE.csize _) (spL_all _) T42 (.pure (spE.pure _))
namespace H_c_FDom12
theorem zSm {p q:Prop} (k:q) (e:p=q:=by simp only [e1,e2,e3,e4,p1,p2,p3,q1,q2,q3,l1,t0,t1,r1,r2,r3,r4,Nat.zero_add,Nat.reduceMul,Nat.reduceAdd,b1,b2,b3,b4,b5,b6,i1,i2,i3,i4,i5,i6,Nat.reduceBEq,hlu,hlou,hhiu,hlv,hlov,hhiv,prL_kill,kills_map prE,dfr,dfq,take_map_len,map_snoc,len_snoc,List.length_cons,List.length_nil,List.nil_append,List.map_nil,List.take_nil,List.append_nil,List.set_cons_zero,List.set_cons_succ,Nat.reduceEqDiff,reduceIte,if_true,if_false,ptL_kill,poL_kill,kills_map ptE,kills_map poE,kills_map ratE,ratL_kill,spL_kill,LV.kill,kills];exact rfl):p:=e.mpr k
end H_c_FDom12
open H_c_FDom12 in
theorem c_FDom12 (U V:Nat) (ua ub va vb:Rat) (rows:List (List PoR)) (hua:rl ua≤100) (hub:rl ub≤100) (hva:rl va≤100) (hvb:rl vb≤100) (hu:ua<ub) (hv:va<vb) (hU:U≤6) (hV:V≤6):CallP Tryz.prog 12 [.agg [nI64 U,nI64 V,.list 3 ((kn2 U ua ub).map ratL),.list 3 ((kn2 V va vb).map ratL),.list 1 (rows.map prL)]] (.tup [spL (ua,ub),spL (va,vb)]):=by
 have hsp:LV.pure (.agg [nI64 U,nI64 V,.list 3 ((kn2 U ua ub).map ratL),.list 3 ((kn2 V va vb).map ratL),.list 1 (rows.map prL)])=true:=by simp [LV.pure,pures,pures_map ratE,pures_map prE]
 have hku:=pure_lst ratE 3 (kn2 U ua ub)
 have hkv:=pure_lst ratE 3 (kn2 V va vb)
 have hlu:=kn2_len U ua ub
 have hlou:=kn2_lo U ua ub
 have hhiu:=kn2_hi U ua ub
 have hlv:=kn2_len V va vb
 have hlov:=kn2_lo V va vb
 have hhiv:=kn2_hi V va vb
 refine fnP Tryz.func12 (ht:=(tame2 (spE.pure _) (spE.pure _))) ?_
 refine zg8 ?_
 refine wl_regH rfl 26 2 [13,14,15,16,17,18,19,20,21,22,23,24,25] (by decide +kernel) rfl ?_
 simp only [List.take_succ_cons,List.take_zero,e1,e2,e3,e4,p1,p2,p3,q1,q2,q3,l1,t0,t1,r1,r2,r3,r4,Nat.zero_add,Nat.reduceMul,Nat.reduceAdd,b1,b2,b3,b4,b5,b6,i1,i2,i3,i4,i5,i6,Nat.reduceBEq,bh7,dh1,dh2,dh3]
 refine zg9 ?_
 refine st_pure rfl (.bin rfl rfl (sub1N (by omega) (by omega))) ?_
 refine zg12 ?_
 refine st_pure rfl (.bin rfl rfl (sub1N (by omega) (by omega))) ?_
 refine zg3 ?_
 refine st_unhide rfl rfl (fun om h=>by cases h;exact⟨_,_,_,_,_,rfl,rfl⟩) ?_
 simp only [List.drop_succ_cons,List.drop_zero]
 refine zg5 ?_
 exact retCC [] rfl rfl rfl (spE.csize _) (spL_all _) T42 (.pure (spE.pure _)) rfl rfl (spE.csize _) (spL_all _) T42 (.pure (spE.pure _))
namespace H_c_Pown
theorem zSm {p q:Prop} (k:q) (e:p=q:=by simp only [e1,e2,e3,e4,p1,p2,p3,q1,q2,q3,l1,t0,t1,r1,r2,r3,r4,Nat.zero_add,Nat.reduceMul,Nat.reduceAdd,b1,b2,b3,b4,b5,b6,i1,i2,i3,i4,i5,i6,Nat.reduceBEq,List.set_cons_zero,List.set_cons_succ,Nat.reduceEqDiff,reduceIte,if_true,if_false,ptL_kill,poL_kill,kills_map ptE,kills_map poE,kills_map ratE,ratL_kill,spL_kill,LV.kill,kills];exact rfl):p:=e.mpr k
end H_c_Pown
open H_c_Pown in
theorem c_Pown (a b t:Rat) (ha:rl a≤100) (hb:rl b≤100) (hab:a<b) (ht:rl t≤100) (hi:hasR (a,b) t=true):CallP Tryz.prog 65 [spL (a,b),ratL t] (.tup [ratL ((t-a)/(b-a)),ratL (b-a),bL true]):=by
 have hz1:=rl_sub t a
 have hz2:=rl_sub b a
 have hW:CallP Tryz.prog 110 [spL (a,b)] (ratL (b-a)):=c_SWidth (a,b) (by show rl b+rl a≤_;omega)
 have hQ:CallP Tryz.prog 68 [ratL (t-a),ratL (b-a)] (.tup [ratL ((t-a)/(b-a)),iL 0]):=by
  have:=c_RQuo (t-a) (b-a) (by omega)
  rwa [if_neg (by grind)] at this
 have hH:CallP Tryz.prog 130 [spL (a,b),ratL t] (bL true):=by
  have:=c_SHas (a,b) t (by show rl a+rl t≤_;omega) (by show rl t+rl b≤_;omega)
  rwa [hi] at this
 refine fnP Tryz.func65 (ht:=(tame3 (ratE.pure _) (ratE.pure _) rfl)) ?_
 refine zg14 ?_
 refine cp am2 (hH) ?_
 refine zg3 ?_
 refine wl_if rfl (fun h11r h11=>?_) (fun h11r h11=>?_)
 ·first | exact h11.elim | cases h11r
 ·refine zg5 ?_
  refine cp am1 (hW) ?_
  refine zg4 ?_
  refine wl_regF 9 [8] (by decide +kernel) ?_
  refine zg3 ?_
  refine cp am2 (c_RSub t a (by omega)) ?_
  refine zg1 ?_
  refine cp am2 (hQ) ?_
  refine zg8 ?_
  refine wl_regA ?_
  refine any_3 0 1 2 _ _ _ (by decide +kernel) rfl rfl rfl ?_ ?_ ?_
  ·refine zg1 ?_
   refine st_nil ?_
   refine any_3 1 2 4 _ _ _ (by decide +kernel) rfl rfl rfl ?_ ?_ ?_
   ·refine zg1 ?_
    refine st_nil ?_
    refine any_2 2 4 _ _ (by decide +kernel) rfl rfl ?_ ?_
    ·refine zg1 ?_
     refine st_nil ?_
     refine any_2 3 4 _ _ (by decide +kernel) rfl rfl ?_ ?_
     ·refine zg1 ?_
      refine st_nil ?_
      refine any_1 4 _ (by decide +kernel) rfl ?_
      refine zg1 ?_
      refine st_nil ?_
      refine any_1 5 _ (by decide +kernel) rfl ?_
      refine zg1 ?_
      refine st_nil ?_
      refine any_1 6 _ (by decide +kernel) rfl ?_
      refine zg1 ?_
      refine st_nil ?_
      refine any_0 (by decide +kernel) ?_
      refine zg2 ?_
      exact retCCT [] rfl rfl rfl (ratE.csize _) (ratL_all _) T29 (.pure (ratE.pure _)) rfl rfl (ratE.csize _) (ratL_all _) T29 (.pure (ratE.pure _)) rfl (.pure rfl)
     ·refine zg1 ?_
      refine st_nil ?_
      refine any_2 3 5 _ _ (by decide +kernel) rfl rfl ?_ ?_
      ·refine zg1 ?_
       refine st_nil ?_
       refine any_1 5 _ (by decide +kernel) rfl ?_
       refine zg1 ?_
       refine st_nil ?_
       refine any_1 6 _ (by decide +kernel) rfl ?_
       refine zg1 ?_
       refine st_nil ?_
       refine any_0 (by decide +kernel) ?_
       refine zg2 ?_
       exact retCCT [] rfl rfl rfl (ratE.csize _) (ratL_all _) T29 (.pure (ratE.pure _)) rfl rfl (ratE.csize _) (ratL_all _) T29 (.pure (ratE.pure _)) rfl (.pure rfl)
      ·refine zg1 ?_
       refine st_nil ?_
       refine any_1 3 _ (by decide +kernel) rfl ?_
       refine zg1 ?_
       refine st_nil ?_
       refine any_1 6 _ (by decide +kernel) rfl ?_
       refine zg1 ?_
       refine st_nil ?_
       refine any_0 (by decide +kernel) ?_
       refine zg2 ?_
       exact retCCT [] rfl rfl rfl (ratE.csize _) (ratL_all _) T29 (.pure (ratE.pure _)) rfl rfl (ratE.csize _) (ratL_all _) T29 (.pure (ratE.pure _)) rfl (.pure rfl)
    ·refine zg1 ?_
     refine st_nil ?_
     refine any_2 2 5 _ _ (by decide +kernel) rfl rfl ?_ ?_
     ·refine zg1 ?_
      refine st_nil ?_
      refine any_2 3 5 _ _ (by decide +kernel) rfl rfl ?_ ?_
      ·refine zg1 ?_
       refine st_nil ?_
       refine any_1 5 _ (by decide +kernel) rfl ?_
       refine zg1 ?_
       refine st_nil ?_
       refine any_1 6 _ (by decide +kernel) rfl ?_
       refine zg1 ?_
       refine st_nil ?_
       refine any_0 (by decide +kernel) ?_
       refine zg2 ?_
       exact retCCT [] rfl rfl rfl (ratE.csize _) (ratL_all _) T29 (.pure (ratE.pure _)) rfl rfl (ratE.csize _) (ratL_all _) T29 (.pure (ratE.pure _)) rfl (.pure rfl)
      ·refine zg1 ?_
       refine st_nil ?_
       refine any_1 3 _ (by decide +kernel) rfl ?_
       refine zg1 ?_
       refine st_nil ?_
       refine any_1 6 _ (by decide +kernel) rfl ?_
       refine zg1 ?_
       refine st_nil ?_
       refine any_0 (by decide +kernel) ?_
       refine zg2 ?_
       exact retCCT [] rfl rfl rfl (ratE.csize _) (ratL_all _) T29 (.pure (ratE.pure _)) rfl rfl (ratE.csize _) (ratL_all _) T29 (.pure (ratE.pure _)) rfl (.pure rfl)
     ·refine zg1 ?_
      refine st_nil ?_
      refine any_1 2 _ (by decide +kernel) rfl ?_
      refine zg1 ?_
      refine st_nil ?_
      refine any_1 3 _ (by decide +kernel) rfl ?_
      refine zg1 ?_
      refine st_nil ?_
      refine any_1 6 _ (by decide +kernel) rfl ?_
      refine zg1 ?_
      refine st_nil ?_
      refine any_0 (by decide +kernel) ?_
      refine zg2 ?_
      exact retCCT [] rfl rfl rfl (ratE.csize _) (ratL_all _) T29 (.pure (ratE.pure _)) rfl rfl (ratE.csize _) (ratL_all _) T29 (.pure (ratE.pure _)) rfl (.pure rfl)
   ·refine zg1 ?_
    refine st_nil ?_
    refine any_3 1 3 4 _ _ _ (by decide +kernel) rfl rfl rfl ?_ ?_ ?_
    ·refine zg1 ?_
     refine st_nil ?_
     refine any_2 3 4 _ _ (by decide +kernel) rfl rfl ?_ ?_
     ·refine zg1 ?_
      refine st_nil ?_
      refine any_1 4 _ (by decide +kernel) rfl ?_
      refine zg1 ?_
      refine st_nil ?_
      refine any_1 5 _ (by decide +kernel) rfl ?_
      refine zg1 ?_
      refine st_nil ?_
      refine any_1 6 _ (by decide +kernel) rfl ?_
      refine zg1 ?_
      refine st_nil ?_
      refine any_0 (by decide +kernel) ?_
      refine zg2 ?_
      exact retCCT [] rfl rfl rfl (ratE.csize _) (ratL_all _) T29 (.pure (ratE.pure _)) rfl rfl (ratE.csize _) (ratL_all _) T29 (.pure (ratE.pure _)) rfl (.pure rfl)
     ·refine zg1 ?_
      refine st_nil ?_
      refine any_2 3 5 _ _ (by decide +kernel) rfl rfl ?_ ?_
      ·refine zg1 ?_
       refine st_nil ?_
       refine any_1 5 _ (by decide +kernel) rfl ?_
       refine zg1 ?_
       refine st_nil ?_
       refine any_1 6 _ (by decide +kernel) rfl ?_
       refine zg1 ?_
       refine st_nil ?_
       refine any_0 (by decide +kernel) ?_
       refine zg2 ?_
       exact retCCT [] rfl rfl rfl (ratE.csize _) (ratL_all _) T29 (.pure (ratE.pure _)) rfl rfl (ratE.csize _) (ratL_all _) T29 (.pure (ratE.pure _)) rfl (.pure rfl)
      ·refine zg1 ?_
       refine st_nil ?_
       refine any_1 3 _ (by decide +kernel) rfl ?_
       refine zg1 ?_
       refine st_nil ?_
       refine any_1 6 _ (by decide +kernel) rfl ?_
       refine zg1 ?_
       refine st_nil ?_
       refine any_0 (by decide +kernel) ?_
       refine zg2 ?_
       exact retCCT [] rfl rfl rfl (ratE.csize _) (ratL_all _) T29 (.pure (ratE.pure _)) rfl rfl (ratE.csize _) (ratL_all _) T29 (.pure (ratE.pure _)) rfl (.pure rfl)
    ·refine zg1 ?_
     refine st_nil ?_
     refine any_2 1 4 _ _ (by decide +kernel) rfl rfl ?_ ?_
     ·refine zg1 ?_
      refine st_nil ?_
      refine any_1 4 _ (by decide +kernel) rfl ?_
      refine zg1 ?_
      refine st_nil ?_
      refine any_1 5 _ (by decide +kernel) rfl ?_
      refine zg1 ?_
      refine st_nil ?_
      refine any_1 6 _ (by decide +kernel) rfl ?_
      refine zg1 ?_
      refine st_nil ?_
      refine any_0 (by decide +kernel) ?_
      refine zg2 ?_
      exact retCCT [] rfl rfl rfl (ratE.csize _) (ratL_all _) T29 (.pure (ratE.pure _)) rfl rfl (ratE.csize _) (ratL_all _) T29 (.pure (ratE.pure _)) rfl (.pure rfl)
     ·refine zg1 ?_
      refine st_nil ?_
      refine any_1 1 _ (by decide +kernel) rfl ?_
      refine zg1 ?_
      refine st_nil ?_
      refine any_1 5 _ (by decide +kernel) rfl ?_
      refine zg1 ?_
      refine st_nil ?_
      refine any_1 6 _ (by decide +kernel) rfl ?_
      refine zg1 ?_
      refine st_nil ?_
      refine any_0 (by decide +kernel) ?_
      refine zg2 ?_
      exact retCCT [] rfl rfl rfl (ratE.csize _) (ratL_all _) T29 (.pure (ratE.pure _)) rfl rfl (ratE.csize _) (ratL_all _) T29 (.pure (ratE.pure _)) rfl (.pure rfl)
    ·refine zg1 ?_
     refine st_nil ?_
     refine any_2 1 3 _ _ (by decide +kernel) rfl rfl ?_ ?_
     ·refine zg1 ?_
      refine st_nil ?_
      refine any_2 3 5 _ _ (by decide +kernel) rfl rfl ?_ ?_
      ·refine zg1 ?_
       refine st_nil ?_
       refine any_1 5 _ (by decide +kernel) rfl ?_
       refine zg1 ?_
       refine st_nil ?_
       refine any_1 6 _ (by decide +kernel) rfl ?_
       refine zg1 ?_
       refine st_nil ?_
       refine any_0 (by decide +kernel) ?_
       refine zg2 ?_
       exact retCCT [] rfl rfl rfl (ratE.csize _) (ratL_all _) T29 (.pure (ratE.pure _)) rfl rfl (ratE.csize _) (ratL_all _) T29 (.pure (ratE.pure _)) rfl (.pure rfl)
      ·refine zg1 ?_
       refine st_nil ?_
       refine any_1 3 _ (by decide +kernel) rfl ?_
       refine zg1 ?_
       refine st_nil ?_
       refine any_1 6 _ (by decide +kernel) rfl ?_
       refine zg1 ?_
       refine st_nil ?_
       refine any_0 (by decide +kernel) ?_
       refine zg2 ?_
       exact retCCT [] rfl rfl rfl (ratE.csize _) (ratL_all _) T29 (.pure (ratE.pure _)) rfl rfl (ratE.csize _) (ratL_all _) T29 (.pure (ratE.pure _)) rfl (.pure rfl)
     ·refine zg1 ?_
      refine st_nil ?_
      refine any_1 1 _ (by decide +kernel) rfl ?_
      refine zg1 ?_
      refine st_nil ?_
      refine any_1 5 _ (by decide +kernel) rfl ?_
      refine zg1 ?_
      refine st_nil ?_
      refine any_1 6 _ (by decide +kernel) rfl ?_
      refine zg1 ?_
      refine st_nil ?_
      refine any_0 (by decide +kernel) ?_
      refine zg2 ?_
      exact retCCT [] rfl rfl rfl (ratE.csize _) (ratL_all _) T29 (.pure (ratE.pure _)) rfl rfl (ratE.csize _) (ratL_all _) T29 (.pure (ratE.pure _)) rfl (.pure rfl)
   ·refine zg1 ?_
    refine st_nil ?_
    refine any_2 1 2 _ _ (by decide +kernel) rfl rfl ?_ ?_
    ·refine zg1 ?_
     refine st_nil ?_
     refine any_2 2 5 _ _ (by decide +kernel) rfl rfl ?_ ?_
     ·refine zg1 ?_
      refine st_nil ?_
      refine any_2 3 5 _ _ (by decide +kernel) rfl rfl ?_ ?_
      ·refine zg1 ?_
       refine st_nil ?_
       refine any_1 5 _ (by decide +kernel) rfl ?_
       refine zg1 ?_
       refine st_nil ?_
       refine any_1 6 _ (by decide +kernel) rfl ?_
       refine zg1 ?_
       refine st_nil ?_
       refine any_0 (by decide +kernel) ?_
       refine zg2 ?_
       exact retCCT [] rfl rfl rfl (ratE.csize _) (ratL_all _) T29 (.pure (ratE.pure _)) rfl rfl (ratE.csize _) (ratL_all _) T29 (.pure (ratE.pure _)) rfl (.pure rfl)
      ·refine zg1 ?_
       refine st_nil ?_
       refine any_1 3 _ (by decide +kernel) rfl ?_
       refine zg1 ?_
       refine st_nil ?_
       refine any_1 6 _ (by decide +kernel) rfl ?_
       refine zg1 ?_
       refine st_nil ?_
       refine any_0 (by decide +kernel) ?_
       refine zg2 ?_
       exact retCCT [] rfl rfl rfl (ratE.csize _) (ratL_all _) T29 (.pure (ratE.pure _)) rfl rfl (ratE.csize _) (ratL_all _) T29 (.pure (ratE.pure _)) rfl (.pure rfl)
     ·refine zg1 ?_
      refine st_nil ?_
      refine any_1 2 _ (by decide +kernel) rfl ?_
      refine zg1 ?_
      refine st_nil ?_
      refine any_1 3 _ (by decide +kernel) rfl ?_
      refine zg1 ?_
      refine st_nil ?_
      refine any_1 6 _ (by decide +kernel) rfl ?_
      refine zg1 ?_
      refine st_nil ?_
      refine any_0 (by decide +kernel) ?_
      refine zg2 ?_
      exact retCCT [] rfl rfl rfl (ratE.csize _) (ratL_all _) T29 (.pure (ratE.pure _)) rfl rfl (ratE.csize _) (ratL_all _) T29 (.pure (ratE.pure _)) rfl (.pure rfl)
    ·refine zg1 ?_
     refine st_nil ?_
     refine any_2 1 3 _ _ (by decide +kernel) rfl rfl ?_ ?_
     ·refine zg1 ?_
      refine st_nil ?_
      refine any_2 3 5 _ _ (by decide +kernel) rfl rfl ?_ ?_
      ·refine zg1 ?_
       refine st_nil ?_
       refine any_1 5 _ (by decide +kernel) rfl ?_
       refine zg1 ?_
       refine st_nil ?_
       refine any_1 6 _ (by decide +kernel) rfl ?_
       refine zg1 ?_
       refine st_nil ?_
       refine any_0 (by decide +kernel) ?_
       refine zg2 ?_
       exact retCCT [] rfl rfl rfl (ratE.csize _) (ratL_all _) T29 (.pure (ratE.pure _)) rfl rfl (ratE.csize _) (ratL_all _) T29 (.pure (ratE.pure _)) rfl (.pure rfl)
      ·refine zg1 ?_
       refine st_nil ?_
       refine any_1 3 _ (by decide +kernel) rfl ?_
       refine zg1 ?_
       refine st_nil ?_
       refine any_1 6 _ (by decide +kernel) rfl ?_
       refine zg1 ?_
       refine st_nil ?_
       refine any_0 (by decide +kernel) ?_
       refine zg2 ?_
       exact retCCT [] rfl rfl rfl (ratE.csize _) (ratL_all _) T29 (.pure (ratE.pure _)) rfl rfl (ratE.csize _) (ratL_all _) T29 (.pure (ratE.pure _)) rfl (.pure rfl)
     ·refine zg1 ?_
      refine st_nil ?_
      refine any_1 1 _ (by decide +kernel) rfl ?_
      refine zg1 ?_
      refine st_nil ?_
      refine any_1 5 _ (by decide +kernel) rfl ?_
      refine zg1 ?_
      refine st_nil ?_
      refine any_1 6 _ (by decide +kernel) rfl ?_
      refine zg1 ?_
      refine st_nil ?_
      refine any_0 (by decide +kernel) ?_
      refine zg2 ?_
      exact retCCT [] rfl rfl rfl (ratE.csize _) (ratL_all _) T29 (.pure (ratE.pure _)) rfl rfl (ratE.csize _) (ratL_all _) T29 (.pure (ratE.pure _)) rfl (.pure rfl)
  ·refine zg1 ?_
   refine st_nil ?_
   refine any_2 0 2 _ _ (by decide +kernel) rfl rfl ?_ ?_
   ·refine zg1 ?_
    refine st_nil ?_
    refine any_2 2 4 _ _ (by decide +kernel) rfl rfl ?_ ?_
    ·refine zg1 ?_
     refine st_nil ?_
     refine any_2 3 4 _ _ (by decide +kernel) rfl rfl ?_ ?_
     ·refine zg1 ?_
      refine st_nil ?_
      refine any_1 4 _ (by decide +kernel) rfl ?_
      refine zg1 ?_
      refine st_nil ?_
      refine any_1 5 _ (by decide +kernel) rfl ?_
      refine zg1 ?_
      refine st_nil ?_
      refine any_1 6 _ (by decide +kernel) rfl ?_
      refine zg1 ?_
      refine st_nil ?_
      refine any_0 (by decide +kernel) ?_
      refine zg2 ?_
      exact retCCT [] rfl rfl rfl (ratE.csize _) (ratL_all _) T29 (.pure (ratE.pure _)) rfl rfl (ratE.csize _) (ratL_all _) T29 (.pure (ratE.pure _)) rfl (.pure rfl)
     ·refine zg1 ?_
      refine st_nil ?_
      refine any_2 3 5 _ _ (by decide +kernel) rfl rfl ?_ ?_
      ·refine zg1 ?_
       refine st_nil ?_
       refine any_1 5 _ (by decide +kernel) rfl ?_
       refine zg1 ?_
       refine st_nil ?_
       refine any_1 6 _ (by decide +kernel) rfl ?_
       refine zg1 ?_
       refine st_nil ?_
       refine any_0 (by decide +kernel) ?_
       refine zg2 ?_
       exact retCCT [] rfl rfl rfl (ratE.csize _) (ratL_all _) T29 (.pure (ratE.pure _)) rfl rfl (ratE.csize _) (ratL_all _) T29 (.pure (ratE.pure _)) rfl (.pure rfl)
      ·refine zg1 ?_
       refine st_nil ?_
       refine any_1 3 _ (by decide +kernel) rfl ?_
       refine zg1 ?_
       refine st_nil ?_
       refine any_1 6 _ (by decide +kernel) rfl ?_
       refine zg1 ?_
       refine st_nil ?_
       refine any_0 (by decide +kernel) ?_
       refine zg2 ?_
       exact retCCT [] rfl rfl rfl (ratE.csize _) (ratL_all _) T29 (.pure (ratE.pure _)) rfl rfl (ratE.csize _) (ratL_all _) T29 (.pure (ratE.pure _)) rfl (.pure rfl)
    ·refine zg1 ?_
     refine st_nil ?_
     refine any_2 2 5 _ _ (by decide +kernel) rfl rfl ?_ ?_
     ·refine zg1 ?_
      refine st_nil ?_
      refine any_2 3 5 _ _ (by decide +kernel) rfl rfl ?_ ?_
      ·refine zg1 ?_
       refine st_nil ?_
       refine any_1 5 _ (by decide +kernel) rfl ?_
       refine zg1 ?_
       refine st_nil ?_
       refine any_1 6 _ (by decide +kernel) rfl ?_
       refine zg1 ?_
       refine st_nil ?_
       refine any_0 (by decide +kernel) ?_
       refine zg2 ?_
       exact retCCT [] rfl rfl rfl (ratE.csize _) (ratL_all _) T29 (.pure (ratE.pure _)) rfl rfl (ratE.csize _) (ratL_all _) T29 (.pure (ratE.pure _)) rfl (.pure rfl)
      ·refine zg1 ?_
       refine st_nil ?_
       refine any_1 3 _ (by decide +kernel) rfl ?_
       refine zg1 ?_
       refine st_nil ?_
       refine any_1 6 _ (by decide +kernel) rfl ?_
       refine zg1 ?_
       refine st_nil ?_
       refine any_0 (by decide +kernel) ?_
       refine zg2 ?_
       exact retCCT [] rfl rfl rfl (ratE.csize _) (ratL_all _) T29 (.pure (ratE.pure _)) rfl rfl (ratE.csize _) (ratL_all _) T29 (.pure (ratE.pure _)) rfl (.pure rfl)
     ·refine zg1 ?_
      refine st_nil ?_
      refine any_1 2 _ (by decide +kernel) rfl ?_
      refine zg1 ?_
      refine st_nil ?_
      refine any_1 3 _ (by decide +kernel) rfl ?_
      refine zg1 ?_
      refine st_nil ?_
      refine any_1 6 _ (by decide +kernel) rfl ?_
      refine zg1 ?_
      refine st_nil ?_
      refine any_0 (by decide +kernel) ?_
      refine zg2 ?_
      exact retCCT [] rfl rfl rfl (ratE.csize _) (ratL_all _) T29 (.pure (ratE.pure _)) rfl rfl (ratE.csize _) (ratL_all _) T29 (.pure (ratE.pure _)) rfl (.pure rfl)
   ·refine zg1 ?_
    refine st_nil ?_
    refine any_2 0 3 _ _ (by decide +kernel) rfl rfl ?_ ?_
    ·refine zg1 ?_
     refine st_nil ?_
     refine any_2 3 4 _ _ (by decide +kernel) rfl rfl ?_ ?_
     ·refine zg1 ?_
      refine st_nil ?_
      refine any_1 4 _ (by decide +kernel) rfl ?_
      refine zg1 ?_
      refine st_nil ?_
      refine any_1 5 _ (by decide +kernel) rfl ?_
      refine zg1 ?_
      refine st_nil ?_
      refine any_1 6 _ (by decide +kernel) rfl ?_
      refine zg1 ?_
      refine st_nil ?_
      refine any_0 (by decide +kernel) ?_
      refine zg2 ?_
      exact retCCT [] rfl rfl rfl (ratE.csize _) (ratL_all _) T29 (.pure (ratE.pure _)) rfl rfl (ratE.csize _) (ratL_all _) T29 (.pure (ratE.pure _)) rfl (.pure rfl)
     ·refine zg1 ?_
      refine st_nil ?_
      refine any_2 3 5 _ _ (by decide +kernel) rfl rfl ?_ ?_
      ·refine zg1 ?_
       refine st_nil ?_
       refine any_1 5 _ (by decide +kernel) rfl ?_
       refine zg1 ?_
       refine st_nil ?_
       refine any_1 6 _ (by decide +kernel) rfl ?_
       refine zg1 ?_
       refine st_nil ?_
       refine any_0 (by decide +kernel) ?_
       refine zg2 ?_
       exact retCCT [] rfl rfl rfl (ratE.csize _) (ratL_all _) T29 (.pure (ratE.pure _)) rfl rfl (ratE.csize _) (ratL_all _) T29 (.pure (ratE.pure _)) rfl (.pure rfl)
      ·refine zg1 ?_
       refine st_nil ?_
       refine any_1 3 _ (by decide +kernel) rfl ?_
       refine zg1 ?_
       refine st_nil ?_
       refine any_1 6 _ (by decide +kernel) rfl ?_
       refine zg1 ?_
       refine st_nil ?_
       refine any_0 (by decide +kernel) ?_
       refine zg2 ?_
       exact retCCT [] rfl rfl rfl (ratE.csize _) (ratL_all _) T29 (.pure (ratE.pure _)) rfl rfl (ratE.csize _) (ratL_all _) T29 (.pure (ratE.pure _)) rfl (.pure rfl)
    ·refine zg1 ?_
     refine st_nil ?_
     refine any_1 0 _ (by decide +kernel) rfl ?_
     refine zg1 ?_
     refine st_nil ?_
     refine any_1 4 _ (by decide +kernel) rfl ?_
     refine zg1 ?_
     refine st_nil ?_
     refine any_1 5 _ (by decide +kernel) rfl ?_
     refine zg1 ?_
     refine st_nil ?_
     refine any_1 6 _ (by decide +kernel) rfl ?_
     refine zg1 ?_
     refine st_nil ?_
     refine any_0 (by decide +kernel) ?_
     refine zg2 ?_
     exact retCCT [] rfl rfl rfl (ratE.csize _) (ratL_all _) T29 (.pure (ratE.pure _)) rfl rfl (ratE.csize _) (ratL_all _) T29 (.pure (ratE.pure _)) rfl (.pure rfl)
  ·refine zg1 ?_
   refine st_nil ?_
   refine any_3 0 1 3 _ _ _ (by decide +kernel) rfl rfl rfl ?_ ?_ ?_
   ·refine zg1 ?_
    refine st_nil ?_
    refine any_3 1 3 4 _ _ _ (by decide +kernel) rfl rfl rfl ?_ ?_ ?_
    ·refine zg1 ?_
     refine st_nil ?_
     refine any_2 3 4 _ _ (by decide +kernel) rfl rfl ?_ ?_
     ·refine zg1 ?_
      refine st_nil ?_
      refine any_1 4 _ (by decide +kernel) rfl ?_
      refine zg1 ?_
      refine st_nil ?_
      refine any_1 5 _ (by decide +kernel) rfl ?_
      refine zg1 ?_
      refine st_nil ?_
      refine any_1 6 _ (by decide +kernel) rfl ?_
      refine zg1 ?_
      refine st_nil ?_
      refine any_0 (by decide +kernel) ?_
      refine zg2 ?_
      exact retCCT [] rfl rfl rfl (ratE.csize _) (ratL_all _) T29 (.pure (ratE.pure _)) rfl rfl (ratE.csize _) (ratL_all _) T29 (.pure (ratE.pure _)) rfl (.pure rfl)
     ·refine zg1 ?_
      refine st_nil ?_
      refine any_2 3 5 _ _ (by decide +kernel) rfl rfl ?_ ?_
      ·refine zg1 ?_
       refine st_nil ?_
       refine any_1 5 _ (by decide +kernel) rfl ?_
       refine zg1 ?_
       refine st_nil ?_
       refine any_1 6 _ (by decide +kernel) rfl ?_
       refine zg1 ?_
       refine st_nil ?_
       refine any_0 (by decide +kernel) ?_
       refine zg2 ?_
       exact retCCT [] rfl rfl rfl (ratE.csize _) (ratL_all _) T29 (.pure (ratE.pure _)) rfl rfl (ratE.csize _) (ratL_all _) T29 (.pure (ratE.pure _)) rfl (.pure rfl)
      ·refine zg1 ?_
       refine st_nil ?_
       refine any_1 3 _ (by decide +kernel) rfl ?_
       refine zg1 ?_
       refine st_nil ?_
       refine any_1 6 _ (by decide +kernel) rfl ?_
       refine zg1 ?_
       refine st_nil ?_
       refine any_0 (by decide +kernel) ?_
       refine zg2 ?_
       exact retCCT [] rfl rfl rfl (ratE.csize _) (ratL_all _) T29 (.pure (ratE.pure _)) rfl rfl (ratE.csize _) (ratL_all _) T29 (.pure (ratE.pure _)) rfl (.pure rfl)
    ·refine zg1 ?_
     refine st_nil ?_
     refine any_2 1 4 _ _ (by decide +kernel) rfl rfl ?_ ?_
     ·refine zg1 ?_
      refine st_nil ?_
      refine any_1 4 _ (by decide +kernel) rfl ?_
      refine zg1 ?_
      refine st_nil ?_
      refine any_1 5 _ (by decide +kernel) rfl ?_
      refine zg1 ?_
      refine st_nil ?_
      refine any_1 6 _ (by decide +kernel) rfl ?_
      refine zg1 ?_
      refine st_nil ?_
      refine any_0 (by decide +kernel) ?_
      refine zg2 ?_
      exact retCCT [] rfl rfl rfl (ratE.csize _) (ratL_all _) T29 (.pure (ratE.pure _)) rfl rfl (ratE.csize _) (ratL_all _) T29 (.pure (ratE.pure _)) rfl (.pure rfl)
     ·refine zg1 ?_
      refine st_nil ?_
      refine any_1 1 _ (by decide +kernel) rfl ?_
      refine zg1 ?_
      refine st_nil ?_
      refine any_1 5 _ (by decide +kernel) rfl ?_
      refine zg1 ?_
      refine st_nil ?_
      refine any_1 6 _ (by decide +kernel) rfl ?_
      refine zg1 ?_
      refine st_nil ?_
      refine any_0 (by decide +kernel) ?_
      refine zg2 ?_
      exact retCCT [] rfl rfl rfl (ratE.csize _) (ratL_all _) T29 (.pure (ratE.pure _)) rfl rfl (ratE.csize _) (ratL_all _) T29 (.pure (ratE.pure _)) rfl (.pure rfl)
    ·refine zg1 ?_
     refine st_nil ?_
     refine any_2 1 3 _ _ (by decide +kernel) rfl rfl ?_ ?_
     ·refine zg1 ?_
      refine st_nil ?_
      refine any_2 3 5 _ _ (by decide +kernel) rfl rfl ?_ ?_
      ·refine zg1 ?_
       refine st_nil ?_
       refine any_1 5 _ (by decide +kernel) rfl ?_
       refine zg1 ?_
       refine st_nil ?_
       refine any_1 6 _ (by decide +kernel) rfl ?_
       refine zg1 ?_
       refine st_nil ?_
       refine any_0 (by decide +kernel) ?_
       refine zg2 ?_
       exact retCCT [] rfl rfl rfl (ratE.csize _) (ratL_all _) T29 (.pure (ratE.pure _)) rfl rfl (ratE.csize _) (ratL_all _) T29 (.pure (ratE.pure _)) rfl (.pure rfl)
      ·refine zg1 ?_
       refine st_nil ?_
       refine any_1 3 _ (by decide +kernel) rfl ?_
       refine zg1 ?_
       refine st_nil ?_
       refine any_1 6 _ (by decide +kernel) rfl ?_
       refine zg1 ?_
       refine st_nil ?_
       refine any_0 (by decide +kernel) ?_
       refine zg2 ?_
       exact retCCT [] rfl rfl rfl (ratE.csize _) (ratL_all _) T29 (.pure (ratE.pure _)) rfl rfl (ratE.csize _) (ratL_all _) T29 (.pure (ratE.pure _)) rfl (.pure rfl)
     ·refine zg1 ?_
      refine st_nil ?_
      refine any_1 1 _ (by decide +kernel) rfl ?_
      refine zg1 ?_
      refine st_nil ?_
      refine any_1 5 _ (by decide +kernel) rfl ?_
      refine zg1 ?_
      refine st_nil ?_
      refine any_1 6 _ (by decide +kernel) rfl ?_
      refine zg1 ?_
      refine st_nil ?_
      refine any_0 (by decide +kernel) ?_
      refine zg2 ?_
      exact retCCT [] rfl rfl rfl (ratE.csize _) (ratL_all _) T29 (.pure (ratE.pure _)) rfl rfl (ratE.csize _) (ratL_all _) T29 (.pure (ratE.pure _)) rfl (.pure rfl)
   ·refine zg1 ?_
    refine st_nil ?_
    refine any_2 0 3 _ _ (by decide +kernel) rfl rfl ?_ ?_
    ·refine zg1 ?_
     refine st_nil ?_
     refine any_2 3 4 _ _ (by decide +kernel) rfl rfl ?_ ?_
     ·refine zg1 ?_
      refine st_nil ?_
      refine any_1 4 _ (by decide +kernel) rfl ?_
      refine zg1 ?_
      refine st_nil ?_
      refine any_1 5 _ (by decide +kernel) rfl ?_
      refine zg1 ?_
      refine st_nil ?_
      refine any_1 6 _ (by decide +kernel) rfl ?_
      refine zg1 ?_
      refine st_nil ?_
      refine any_0 (by decide +kernel) ?_
      refine zg2 ?_
      exact retCCT [] rfl rfl rfl (ratE.csize _) (ratL_all _) T29 (.pure (ratE.pure _)) rfl rfl (ratE.csize _) (ratL_all _) T29 (.pure (ratE.pure _)) rfl (.pure rfl)
     ·refine zg1 ?_
      refine st_nil ?_
      refine any_2 3 5 _ _ (by decide +kernel) rfl rfl ?_ ?_
      ·refine zg1 ?_
       refine st_nil ?_
       refine any_1 5 _ (by decide +kernel) rfl ?_
       refine zg1 ?_
       refine st_nil ?_
       refine any_1 6 _ (by decide +kernel) rfl ?_
       refine zg1 ?_
       refine st_nil ?_
       refine any_0 (by decide +kernel) ?_
       refine zg2 ?_
       exact retCCT [] rfl rfl rfl (ratE.csize _) (ratL_all _) T29 (.pure (ratE.pure _)) rfl rfl (ratE.csize _) (ratL_all _) T29 (.pure (ratE.pure _)) rfl (.pure rfl)
      ·refine zg1 ?_
       refine st_nil ?_
       refine any_1 3 _ (by decide +kernel) rfl ?_
       refine zg1 ?_
       refine st_nil ?_
       refine any_1 6 _ (by decide +kernel) rfl ?_
       refine zg1 ?_
       refine st_nil ?_
       refine any_0 (by decide +kernel) ?_
       refine zg2 ?_
       exact retCCT [] rfl rfl rfl (ratE.csize _) (ratL_all _) T29 (.pure (ratE.pure _)) rfl rfl (ratE.csize _) (ratL_all _) T29 (.pure (ratE.pure _)) rfl (.pure rfl)
    ·refine zg1 ?_
     refine st_nil ?_
     refine any_1 0 _ (by decide +kernel) rfl ?_
     refine zg1 ?_
     refine st_nil ?_
     refine any_1 4 _ (by decide +kernel) rfl ?_
     refine zg1 ?_
     refine st_nil ?_
     refine any_1 5 _ (by decide +kernel) rfl ?_
     refine zg1 ?_
     refine st_nil ?_
     refine any_1 6 _ (by decide +kernel) rfl ?_
     refine zg1 ?_
     refine st_nil ?_
     refine any_0 (by decide +kernel) ?_
     refine zg2 ?_
     exact retCCT [] rfl rfl rfl (ratE.csize _) (ratL_all _) T29 (.pure (ratE.pure _)) rfl rfl (ratE.csize _) (ratL_all _) T29 (.pure (ratE.pure _)) rfl (.pure rfl)
   ·refine zg1 ?_
    refine st_nil ?_
    refine any_2 0 1 _ _ (by decide +kernel) rfl rfl ?_ ?_
    ·refine zg1 ?_
     refine st_nil ?_
     refine any_2 1 4 _ _ (by decide +kernel) rfl rfl ?_ ?_
     ·refine zg1 ?_
      refine st_nil ?_
      refine any_1 4 _ (by decide +kernel) rfl ?_
      refine zg1 ?_
      refine st_nil ?_
      refine any_1 5 _ (by decide +kernel) rfl ?_
      refine zg1 ?_
      refine st_nil ?_
      refine any_1 6 _ (by decide +kernel) rfl ?_
      refine zg1 ?_
      refine st_nil ?_
      refine any_0 (by decide +kernel) ?_
      refine zg2 ?_
      exact retCCT [] rfl rfl rfl (ratE.csize _) (ratL_all _) T29 (.pure (ratE.pure _)) rfl rfl (ratE.csize _) (ratL_all _) T29 (.pure (ratE.pure _)) rfl (.pure rfl)
     ·refine zg1 ?_
      refine st_nil ?_
      refine any_1 1 _ (by decide +kernel) rfl ?_
      refine zg1 ?_
      refine st_nil ?_
      refine any_1 5 _ (by decide +kernel) rfl ?_
      refine zg1 ?_
      refine st_nil ?_
      refine any_1 6 _ (by decide +kernel) rfl ?_
      refine zg1 ?_
      refine st_nil ?_
      refine any_0 (by decide +kernel) ?_
      refine zg2 ?_
      exact retCCT [] rfl rfl rfl (ratE.csize _) (ratL_all _) T29 (.pure (ratE.pure _)) rfl rfl (ratE.csize _) (ratL_all _) T29 (.pure (ratE.pure _)) rfl (.pure rfl)
    ·refine zg1 ?_
     refine st_nil ?_
     refine any_1 0 _ (by decide +kernel) rfl ?_
     refine zg1 ?_
     refine st_nil ?_
     refine any_1 4 _ (by decide +kernel) rfl ?_
     refine zg1 ?_
     refine st_nil ?_
     refine any_1 5 _ (by decide +kernel) rfl ?_
     refine zg1 ?_
     refine st_nil ?_
     refine any_1 6 _ (by decide +kernel) rfl ?_
     refine zg1 ?_
     refine st_nil ?_
     refine any_0 (by decide +kernel) ?_
     refine zg2 ?_
     exact retCCT [] rfl rfl rfl (ratE.csize _) (ratL_all _) T29 (.pure (ratE.pure _)) rfl rfl (ratE.csize _) (ratL_all _) T29 (.pure (ratE.pure _)) rfl (.pure rfl)
namespace H_c_PownN
theorem zSm {p q:Prop} (k:q) (e:p=q:=by simp only [e1,e2,e3,e4,p1,p2,p3,q1,q2,q3,l1,t0,t1,r1,r2,r3,r4,Nat.zero_add,Nat.reduceMul,Nat.reduceAdd,b1,b2,b3,b4,b5,b6,i1,i2,i3,i4,i5,i6,Nat.reduceBEq,List.set_cons_zero,List.set_cons_succ,Nat.reduceEqDiff,reduceIte,if_true,if_false,ptL_kill,poL_kill,kills_map ptE,kills_map poE,kills_map ratE,ratL_kill,spL_kill,LV.kill,kills];exact rfl):p:=e.mpr k
end H_c_PownN
open H_c_PownN in
theorem c_PownN (a b t:Rat) (ha:rl a≤100) (hb:rl b≤100) (hab:a<b) (ht:rl t≤100) (hi:hasR (a,b) t=false):CallP Tryz.prog 65 [spL (a,b),ratL t] (.tup [ratL 0,ratL 0,bL false]):=by
 have hH:CallP Tryz.prog 130 [spL (a,b),ratL t] (bL false):=by
  have:=c_SHas (a,b) t (by show rl a+rl t≤_;omega) (by show rl t+rl b≤_;omega)
  rwa [hi] at this
 refine fnP Tryz.func65 (ht:=(tame3 (ratE.pure _) (ratE.pure _) rfl)) ?_
 refine zg14 ?_
 refine cp am2 (hH) ?_
 refine zg3 ?_
 refine wl_if rfl (fun h11r h11=>?_) (fun h11r h11=>?_)
 ·refine zg2 ?_
  refine st_pure rfl (.build0 SL29 Z29a) ?_
  refine st_pure rfl (.build0 SL29 Z29a) ?_
  refine zg7 ?_
  exact retCCT [] rfl rfl rfl (ratE.csize _) (ratL_all _) T29 (.pure (ratE.pure _)) rfl rfl (ratE.csize _) (ratL_all _) T29 (.pure (ratE.pure _)) rfl (.pure rfl)
 ·first | exact(h11 trivial).elim | cases h11r
namespace H_c_FPown
theorem zSm {p q:Prop} (k:q) (e:p=q:=by simp only [e1,e2,e3,e4,p1,p2,p3,q1,q2,q3,l1,t0,t1,r1,r2,r3,r4,Nat.zero_add,Nat.reduceMul,Nat.reduceAdd,b1,b2,b3,b4,b5,b6,i1,i2,i3,i4,i5,i6,Nat.reduceBEq,List.set_cons_zero,List.set_cons_succ,Nat.reduceEqDiff,reduceIte,if_true,if_false,ptL_kill,poL_kill,kills_map ptE,kills_map poE,kills_map ratE,ratL_kill,spL_kill,LV.kill,kills];exact rfl):p:=e.mpr k
end H_c_FPown
open H_c_FPown in
theorem c_FPown (a b t:Rat) (ha:rl a≤100) (hb:rl b≤100) (hab:a<b) (ht:rl t≤100):CallP Tryz.prog 99 [spL (a,b),ratL t] (ratL ((t-a)/(b-a))):=by
 have hz1:=rl_sub t a
 have hz2:=rl_sub b a
 refine fnP Tryz.func99 ?_
 refine zg8 ?_
 refine wl_regD 7 (by decide +kernel) ?_
 refine zg3 ?_
 refine cp am2 (c_FRSub t a (by omega)) ?_
 refine zg1 ?_
 refine cp am1 (c_FWidth (a,b) (by show rl b+rl a≤_;omega)) ?_
 refine cp am2 (c_FOver (t-a) (b-a) (by show rl _+rl _≤_;omega)) ?_
 refine zg4 ?_
 exact retC [] rfl rfl rfl (ratE.csize _) (ratL_all _) T29 (.pure (ratE.pure _))
end Go.Proofs.YtfpdccbgngdhkaaGreat
end
section
set_option linter.unusedVariables false
set_option linter.unusedSimpArgs false
set_option maxHeartbeats 8000000
set_option maxRecDepth 100000
attribute [local irreducible] Go.Lg.opsL Go.Lg.wpL Go.Lg.thenL Go.Lg.blockL
namespace Go.Proofs.YtfpdccbgngdhkaaGreat
open Go.Lg
def v3x (p q:V3):V3:=⟨p.y*q.z-p.z*q.y,p.z*q.x-p.x*q.z,p.x*q.y-p.y*q.x⟩
theorem v3x_bd {R:Nat} {p q:V3} (hp:bd3 R p) (hq:bd3 R q):bd3 (4*R+5) (v3x p q):=by
 obtain⟨a1,a2,a3⟩:=hp
 obtain⟨b1,b2,b3⟩:=hq
 have g:∀ a b c d:Rat,rl a≤R→rl b≤R→rl c≤R→rl d≤R→rl (a*b-c*d)≤4*R+5:=fun a b c d h1 h2 h3 h4=>by
  have m1:=rl_mul a b
  have m2:=rl_mul c d
  have m3:=rl_sub (a*b) (c*d)
  omega
 exact⟨g _ _ _ _ a2 b3 a3 b2,g _ _ _ _ a3 b1 a1 b3,g _ _ _ _ a1 b2 a2 b1⟩
def sbS (s t:Rat × Rat):Rat × Rat:=(s.1-t.2,s.2-t.1)
theorem sbS_eq (s t:Rat × Rat):sbS s t=(s.1+-t.2,s.2+-t.1):=by
 unfold sbS
 rw [Rat.sub_eq_add_neg,Rat.sub_eq_add_neg]
theorem sbS_bd {R S:Nat} {s t:Rat × Rat} (hs:bdS R s) (ht:bdS S t):bdS (R+S+1) (sbS s t):=by
 have m1:=rl_sub s.1 t.2
 have m2:=rl_sub s.2 t.1
 exact⟨by show rl (s.1-t.2)≤_;have:=hs.1;have:=ht.2;omega,by show rl (s.2-t.1)≤_;have:=hs.2;have:=ht.1;omega⟩
namespace H_c_VCross
theorem zSm {p q:Prop} (k:q) (e:p=q:=by simp only [e1,e2,e3,e4,p1,p2,p3,q1,q2,q3,l1,t0,t1,r1,r2,r3,r4,Nat.zero_add,Nat.reduceMul,Nat.reduceAdd,b1,b2,b3,b4,b5,b6,i1,i2,i3,i4,i5,i6,Nat.reduceBEq,List.set_cons_zero,List.set_cons_succ,Nat.reduceEqDiff,reduceIte,if_true,if_false,ptL_kill,poL_kill,kills_map ptE,kills_map poE,kills_map ratE,ratL_kill,spL_kill,LV.kill,kills];exact rfl):p:=e.mpr k
end H_c_VCross
open H_c_VCross in
theorem c_VCross (p q:V3) (R:Nat) (hR:R≤1000000000) (hp:bd3 R p) (hq:bd3 R q):CallP Tryz.prog 63 [ptL p,ptL q] (ptL (v3x p q)):=by
 obtain⟨a1,a2,a3⟩:=hp
 obtain⟨y1,y2,y3⟩:=hq
 have m01:=rl_mul p.x q.y
 have m02:=rl_mul p.x q.z
 have m10:=rl_mul p.y q.x
 have m12:=rl_mul p.y q.z
 have m20:=rl_mul p.z q.x
 have m21:=rl_mul p.z q.y
 refine fnP Tryz.func63 (ht:=(fun r=>LV.ren_pure r _ (ptE.pure _))) ?_
 refine zg19 ?_
 refine wl_unroll ?_
 refine zg6 ?_
 refine wl_condX (b:=_) rfl (by decide) ?_
 refine zg13 ?_
 refine st_pure rfl (.bin rfl rfl (show binI .add .i64 0 1=some (.int .i64 ((1:Nat):Int)) from rfl)) ?_
 refine st_pure rfl (.bin rfl rfl (show binI .rem .i64 1 3=some (.int .i64 ((1:Nat):Int)) from rfl)) ?_
 refine zg1 ?_
 refine st_pure rfl (.bin rfl rfl (show binI .add .i64 0 2=some (.int .i64 ((2:Nat):Int)) from rfl)) ?_
 refine st_pure rfl (.bin rfl rfl (show binI .rem .i64 2 3=some (.int .i64 ((2:Nat):Int)) from rfl)) ?_
 refine zg4 ?_
 refine wl_regD 17 (by decide +kernel) ?_
 refine zg7 ?_
 refine cp am2 (c_RMul p.y q.z (by omega)) ?_
 refine zg6 ?_
 refine cp am2 (c_RMul p.z q.y (by omega)) ?_
 refine cp am2 (c_RSub (p.y*q.z) (p.z*q.y) (by omega)) ?_
 refine zg10 ?_
 refine wl_unroll ?_
 refine zg6 ?_
 refine wl_condX (b:=_) rfl (by decide) ?_
 refine zg13 ?_
 refine st_pure rfl (.bin rfl rfl (show binI .add .i64 1 1=some (.int .i64 ((2:Nat):Int)) from rfl)) ?_
 refine st_pure rfl (.bin rfl rfl (show binI .rem .i64 2 3=some (.int .i64 ((2:Nat):Int)) from rfl)) ?_
 refine zg1 ?_
 refine st_pure rfl (.bin rfl rfl (show binI .add .i64 1 2=some (.int .i64 ((3:Nat):Int)) from rfl)) ?_
 refine st_pure rfl (.bin rfl rfl (show binI .rem .i64 3 3=some (.int .i64 ((0:Nat):Int)) from rfl)) ?_
 refine zg4 ?_
 refine wl_regD 17 (by decide +kernel) ?_
 refine zg7 ?_
 refine cp am2 (c_RMul p.z q.x (by omega)) ?_
 refine zg6 ?_
 refine cp am2 (c_RMul p.x q.z (by omega)) ?_
 refine cp am2 (c_RSub (p.z*q.x) (p.x*q.z) (by omega)) ?_
 refine zg10 ?_
 refine wl_unroll ?_
 refine zg6 ?_
 refine wl_condX (b:=_) rfl (by decide) ?_
 refine zg13 ?_
 refine st_pure rfl (.bin rfl rfl (show binI .add .i64 2 1=some (.int .i64 ((3:Nat):Int)) from rfl)) ?_
 refine st_pure rfl (.bin rfl rfl (show binI .rem .i64 3 3=some (.int .i64 ((0:Nat):Int)) from rfl)) ?_
 refine zg1 ?_
 refine st_pure rfl (.bin rfl rfl (show binI .add .i64 2 2=some (.int .i64 ((4:Nat):Int)) from rfl)) ?_
 refine st_pure rfl (.bin rfl rfl (show binI .rem .i64 4 3=some (.int .i64 ((1:Nat):Int)) from rfl)) ?_
 refine zg4 ?_
 refine wl_regD 17 (by decide +kernel) ?_
 refine zg7 ?_
 refine cp am2 (c_RMul p.x q.y (by omega)) ?_
 refine zg6 ?_
 refine cp am2 (c_RMul p.y q.x (by omega)) ?_
 refine cp am2 (c_RSub (p.x*q.y) (p.y*q.x) (by omega)) ?_
 refine zg10 ?_
 refine wl_unroll ?_
 refine zg6 ?_
 refine wl_condY (b:=_) rfl (by decide) ?_
 refine zg12 ?_
 exact retC [] rfl rfl rfl cs (at_all cs rfl) T31 (.pure pu)
namespace H_c_FVCross
theorem zSm {p q:Prop} (k:q) (e:p=q:=by simp only [e1,e2,e3,e4,p1,p2,p3,q1,q2,q3,l1,t0,t1,r1,r2,r3,r4,Nat.zero_add,Nat.reduceMul,Nat.reduceAdd,b1,b2,b3,b4,b5,b6,i1,i2,i3,i4,i5,i6,Nat.reduceBEq,List.set_cons_zero,List.set_cons_succ,Nat.reduceEqDiff,reduceIte,if_true,if_false,ptL_kill,poL_kill,kills_map ptE,kills_map poE,kills_map ratE,ratL_kill,spL_kill,LV.kill,kills];exact rfl):p:=e.mpr k
end H_c_FVCross
open H_c_FVCross in
theorem c_FVCross (p q:V3) (R:Nat) (hR:R≤1000000000) (hp:bd3 R p) (hq:bd3 R q):CallP Tryz.prog 104 [ptL p,ptL q] (ptL (v3x p q)):=by
 obtain⟨a1,a2,a3⟩:=hp
 obtain⟨y1,y2,y3⟩:=hq
 have m01:=rl_mul p.x q.y
 have m02:=rl_mul p.x q.z
 have m10:=rl_mul p.y q.x
 have m12:=rl_mul p.y q.z
 have m20:=rl_mul p.z q.x
 have m21:=rl_mul p.z q.y
 refine fnP Tryz.func104 (ht:=(fun r=>LV.ren_pure r _ (ptE.pure _))) ?_
 refine zg19 ?_
 refine wl_unroll ?_
 refine zg7 ?_
 refine wl_condX (b:=_) rfl (by decide) ?_
 refine zg7 ?_
 refine st_pure rfl (.bin rfl rfl (show binI .add .i64 0 1=some (.int .i64 ((1:Nat):Int)) from rfl)) ?_
 refine st_pure rfl (.bin rfl rfl (show binI .rem .i64 1 3=some (.int .i64 ((1:Nat):Int)) from rfl)) ?_
 refine zg1 ?_
 refine st_pure rfl (.bin rfl rfl (show binI .add .i64 0 2=some (.int .i64 ((2:Nat):Int)) from rfl)) ?_
 refine st_pure rfl (.bin rfl rfl (show binI .rem .i64 2 3=some (.int .i64 ((2:Nat):Int)) from rfl)) ?_
 refine zg4 ?_
 refine wl_regD 17 (by decide +kernel) ?_
 refine zg7 ?_
 refine cp am2 (c_FRMul p.y q.z (by omega)) ?_
 refine zg6 ?_
 refine cp am2 (c_FRMul p.z q.y (by omega)) ?_
 refine cp am2 (c_FRSub (p.y*q.z) (p.z*q.y) (by omega)) ?_
 refine zg11 ?_
 refine wl_unroll ?_
 refine zg7 ?_
 refine wl_condX (b:=_) rfl (by decide) ?_
 refine zg7 ?_
 refine st_pure rfl (.bin rfl rfl (show binI .add .i64 1 1=some (.int .i64 ((2:Nat):Int)) from rfl)) ?_
 refine st_pure rfl (.bin rfl rfl (show binI .rem .i64 2 3=some (.int .i64 ((2:Nat):Int)) from rfl)) ?_
 refine zg1 ?_
 refine st_pure rfl (.bin rfl rfl (show binI .add .i64 1 2=some (.int .i64 ((3:Nat):Int)) from rfl)) ?_
 refine st_pure rfl (.bin rfl rfl (show binI .rem .i64 3 3=some (.int .i64 ((0:Nat):Int)) from rfl)) ?_
 refine zg4 ?_
 refine wl_regD 17 (by decide +kernel) ?_
 refine zg7 ?_
 refine cp am2 (c_FRMul p.z q.x (by omega)) ?_
 refine zg6 ?_
 refine cp am2 (c_FRMul p.x q.z (by omega)) ?_
 refine cp am2 (c_FRSub (p.z*q.x) (p.x*q.z) (by omega)) ?_
 refine zg11 ?_
 refine wl_unroll ?_
 refine zg7 ?_
 refine wl_condX (b:=_) rfl (by decide) ?_
 refine zg7 ?_
 refine st_pure rfl (.bin rfl rfl (show binI .add .i64 2 1=some (.int .i64 ((3:Nat):Int)) from rfl)) ?_
 refine st_pure rfl (.bin rfl rfl (show binI .rem .i64 3 3=some (.int .i64 ((0:Nat):Int)) from rfl)) ?_
 refine zg1 ?_
 refine st_pure rfl (.bin rfl rfl (show binI .add .i64 2 2=some (.int .i64 ((4:Nat):Int)) from rfl)) ?_
 refine st_pure rfl (.bin rfl rfl (show binI .rem .i64 4 3=some (.int .i64 ((1:Nat):Int)) from rfl)) ?_
 refine zg4 ?_
 refine wl_regD 17 (by decide +kernel) ?_
 refine zg7 ?_
 refine cp am2 (c_FRMul p.x q.y (by omega)) ?_
 refine zg6 ?_
 refine cp am2 (c_FRMul p.y q.x (by omega)) ?_
 refine cp am2 (c_FRSub (p.x*q.y) (p.y*q.x) (by omega)) ?_
 refine zg11 ?_
 refine wl_unroll ?_
 refine zg7 ?_
 refine wl_condY (b:=_) rfl (by decide) ?_
 refine zg12 ?_
 exact retC [] rfl rfl rfl cs (at_all cs rfl) T31 (.pure pu)
namespace H_c_SSub
theorem zSm {p q:Prop} (k:q) (e:p=q:=by simp only [e1,e2,e3,e4,p1,p2,p3,q1,q2,q3,l1,t0,t1,r1,r2,r3,r4,Nat.zero_add,Nat.reduceMul,Nat.reduceAdd,b1,b2,b3,b4,b5,b6,i1,i2,i3,i4,i5,i6,Nat.reduceBEq,List.set_cons_zero,List.set_cons_succ,Nat.reduceEqDiff,reduceIte,if_true,if_false,ptL_kill,poL_kill,kills_map ptE,kills_map poE,kills_map ratE,ratL_kill,spL_kill,LV.kill,kills];exact rfl):p:=e.mpr k
end H_c_SSub
open H_c_SSub in
theorem c_SSub (s t:Rat × Rat) (R:Nat) (hR:R≤1000000000) (hs:bdS R s) (ht:bdS R t):CallP Tryz.prog 112 [spL s,spL t] (spL (sbS s t)):=by
 obtain⟨a1,a2⟩:=hs
 obtain⟨y1,y2⟩:=ht
 refine fnP Tryz.func112 ?_
 refine zg8 ?_
 refine wl_regD 11 (by decide +kernel) ?_
 refine zg4 ?_
 refine cp am2 (c_RSub s.1 t.2 (by omega)) ?_
 refine zg4 ?_
 refine cp am2 (c_RSub s.2 t.1 (by omega)) ?_
 refine zg5 ?_
 exact retC [] rfl rfl rfl (spE.csize _) (spL_all _) T42 (.pure (spE.pure _))
namespace H_c_FSNeg
theorem zSm {p q:Prop} (k:q) (e:p=q:=by simp only [e1,e2,e3,e4,p1,p2,p3,q1,q2,q3,l1,t0,t1,r1,r2,r3,r4,Nat.zero_add,Nat.reduceMul,Nat.reduceAdd,b1,b2,b3,b4,b5,b6,i1,i2,i3,i4,i5,i6,Nat.reduceBEq,List.set_cons_zero,List.set_cons_succ,Nat.reduceEqDiff,reduceIte,if_true,if_false,ptL_kill,poL_kill,kills_map ptE,kills_map poE,kills_map ratE,ratL_kill,spL_kill,LV.kill,kills];exact rfl):p:=e.mpr k
end H_c_FSNeg
open H_c_FSNeg in
theorem c_FSNeg (t:Rat × Rat):CallP Tryz.prog 187 [spL t] (spL (-t.2,-t.1)):=by
 refine fnP Tryz.func187 ?_
 refine zg7 ?_
 refine wl_regD 7 (by decide +kernel) ?_
 refine zg2 ?_
 refine cp am1 (c_FNeg t.2) ?_
 refine zg2 ?_
 refine cp am1 (c_FNeg t.1) ?_
 refine zg5 ?_
 exact retC [] rfl rfl rfl (spE.csize _) (spL_all _) T42 (.pure (spE.pure _))
namespace H_c_FSAdd
theorem zSm {p q:Prop} (k:q) (e:p=q:=by simp only [e1,e2,e3,e4,p1,p2,p3,q1,q2,q3,l1,t0,t1,r1,r2,r3,r4,Nat.zero_add,Nat.reduceMul,Nat.reduceAdd,b1,b2,b3,b4,b5,b6,i1,i2,i3,i4,i5,i6,Nat.reduceBEq,List.set_cons_zero,List.set_cons_succ,Nat.reduceEqDiff,reduceIte,if_true,if_false,ptL_kill,poL_kill,kills_map ptE,kills_map poE,kills_map ratE,ratL_kill,spL_kill,LV.kill,kills];exact rfl):p:=e.mpr k
end H_c_FSAdd
open H_c_FSAdd in
theorem c_FSAdd (s t:Rat × Rat) (R:Nat) (hR:R≤1000000000) (hs:bdS R s) (ht:bdS R t):CallP Tryz.prog 186 [spL s,spL t] (spL (s.1+t.1,s.2+t.2)):=by
 obtain⟨a1,a2⟩:=hs
 obtain⟨y1,y2⟩:=ht
 refine fnP Tryz.func186 ?_
 refine zg8 ?_
 refine wl_regD 11 (by decide +kernel) ?_
 refine zg4 ?_
 refine cp am2 (c_FRAdd s.1 t.1 (by omega)) ?_
 refine zg4 ?_
 refine cp am2 (c_FRAdd s.2 t.2 (by omega)) ?_
 refine zg5 ?_
 exact retC [] rfl rfl rfl (spE.csize _) (spL_all _) T42 (.pure (spE.pure _))
namespace H_c_FSSub
theorem zSm {p q:Prop} (k:q) (e:p=q:=by simp only [e1,e2,e3,e4,p1,p2,p3,q1,q2,q3,l1,t0,t1,r1,r2,r3,r4,Nat.zero_add,Nat.reduceMul,Nat.reduceAdd,b1,b2,b3,b4,b5,b6,i1,i2,i3,i4,i5,i6,Nat.reduceBEq,List.set_cons_zero,List.set_cons_succ,Nat.reduceEqDiff,reduceIte,if_true,if_false,ptL_kill,poL_kill,kills_map ptE,kills_map poE,kills_map ratE,ratL_kill,spL_kill,LV.kill,kills];exact rfl):p:=e.mpr k
end H_c_FSSub
open H_c_FSSub in
theorem c_FSSub (s t:Rat × Rat) (R:Nat) (hR:R≤1000000000) (hs:bdS R s) (ht:bdS R t):CallP Tryz.prog 114 [spL s,spL t] (spL (sbS s t)):=by
 obtain⟨a1,a2⟩:=hs
 obtain⟨y1,y2⟩:=ht
 have n1:=rl_neg t.1
 have n2:=rl_neg t.2
 have hA:CallP Tryz.prog 186 [spL s,spL (-t.2,-t.1)] (spL (sbS s t)):=by
  have:=c_FSAdd s (-t.2,-t.1) R hR ⟨a1,a2⟩ ⟨by show rl (-t.2)≤R;omega,by show rl (-t.1)≤R;omega⟩
  rwa [sbS_eq]
 refine fnP Tryz.func114 ?_
 refine zg8 ?_
 refine wl_regD 4 (by decide +kernel) ?_
 refine zg2 ?_
 refine cp am1 (c_FSNeg t) ?_
 refine cp am2 (hA) ?_
 refine zg4 ?_
 exact retC [] rfl rfl rfl (spE.csize _) (spL_all _) T42 (.pure (spE.pure _))
end Go.Proofs.YtfpdccbgngdhkaaGreat
end
section
set_option linter.unusedVariables false
set_option linter.unusedSimpArgs false
set_option maxHeartbeats 8000000
set_option maxRecDepth 100000
attribute [local irreducible] Go.Lg.opsL Go.Lg.wpL Go.Lg.thenL Go.Lg.blockL
namespace Go.Proofs.YtfpdccbgngdhkaaGreat
open Go.Lg
theorem sq_le3 {a b:Nat} (ha:a≤3) (hb:b≤3):(a+1)*(b+1)≤16:=Nat.le_trans (Nat.mul_le_mul (show a+1≤4 by omega) (show b+1≤4 by omega)) (by decide)
theorem pk_le {a b c d x:Nat} (ha:a≤3) (hb:b≤3) (hc:c≤3) (hd:d≤3):(a+1)*((b+1)*((c+1)*((d+1)*x)))≤256*x:=by
 have h1:(d+1)*x≤4*x:=Nat.mul_le_mul_right _ (by omega)
 have h2:(c+1)*((d+1)*x)≤4*(4*x):=Nat.mul_le_mul (by omega) h1
 have h3:(b+1)*((c+1)*((d+1)*x))≤4*(4*(4*x)):=Nat.mul_le_mul (by omega) h2
 have h4:(a+1)*((b+1)*((c+1)*((d+1)*x)))≤4*(4*(4*(4*x))):=Nat.mul_le_mul (by omega) h3
 omega
theorem pk_le2 {a b c d R:Nat} (ha:a≤3) (hb:b≤3) (hc:c≤3) (hd:d≤3):(a+1)*((c+1)*(pB b d R+1))≤512*R+1500:=by
 have h1:(d+1)*(2*R+5)≤4*(2*R+5):=Nat.mul_le_mul_right _ (by omega)
 have h2:(b+1)*((d+1)*(2*R+5))≤4*(4*(2*R+5)):=Nat.mul_le_mul (by omega) h1
 have h0:pB b d R+1≤4*(4*(2*R+5))+13:=by unfold pB;omega
 have h3:(c+1)*(pB b d R+1)≤4*(4*(4*(2*R+5))+13):=Nat.mul_le_mul (by omega) h0
 have h4:(a+1)*((c+1)*(pB b d R+1))≤4*(4*(4*(4*(2*R+5))+13)):=Nat.mul_le_mul (by omega) h3
 omega
theorem scP_up {U V:Nat} {b:List Rat} (hb:b.length=(U+1)*(V+1)) (hU:U≤40) (hV:V≤40) (hR:∀ x∈b,rl x≤500000000):upH U V (scP (-1) b) U V :=
 upH_same (by rw [scP_len];exact hb) hU hV fun x hx=>by
  have:=scP_rl (r:=-1) (R:=1) (by decide +kernel) hR x hx
  omega
namespace H_c_prod13
theorem zSm {p q:Prop} (k:q) (e:p=q:=by simp only [e1,e2,e3,e4,p1,p2,p3,q1,q2,q3,l1,t0,t1,r1,r2,r3,r4,Nat.zero_add,Nat.reduceMul,Nat.reduceAdd,b1,b2,b3,b4,b5,b6,i1,i2,i3,i4,i5,i6,Nat.reduceBEq,List.set_cons_zero,List.set_cons_succ,Nat.reduceEqDiff,reduceIte,if_true,if_false,ptL_kill,poL_kill,kills_map ptE,kills_map poE,kills_map ratE,ratL_kill,spL_kill,LV.kill,kills];exact rfl):p:=e.mpr k
end H_c_prod13
open H_c_prod13 in
theorem c_prod13 (U1 V1 U2 V2:Nat) (a b:List Rat) (ha:a.length=(U1+1)*(V1+1)) (hb:b.length=(U2+1)*(V2+1)) (hU1:U1≤3) (hV1:V1≤3) (hU2:U2≤3) (hV2:V2≤3) (S:Nat) (hS1:1≤S) (hS:S≤1000000) (haR:∀ x∈a,rl x≤S) (hbR:∀ x∈b,rl x≤S):CallP Tryz.prog 142 [.agg [nI64 U1,nI64 V1,.list 3 (a.map ratL)],.agg [nI64 U2,nI64 V2,.list 3 (b.map ratL)]] (.agg [nI64 (U1+U2),nI64 (V1+V2),.list 3 ((tmL U1 V1 U2 V2 a b).map ratL)]):=by
 have hal:=sq_le3 hU1 hV1
 have hbl:=sq_le3 hU2 hV2
 have hn1:=net_pureN U1 V1 a
 have hn2:=net_pureN U2 V2 b
 have hpk:=pk_le (x:=2*S+14) hU1 hV1 hU2 hV2
 have hn3:=net_pureN (U1+U2) (V1+V2) (tmL U1 V1 U2 V2 a b)
 refine fnP Tryz.func142 (ht:=(fun g=>LV.ren_pure g _ (net_pureN _ _ _))) ?_
 refine zg11 ?_
 refine cp am2 (c_TMulK U1 V1 U2 V2 a b ha hb (by omega) (by omega) (by omega) (by omega) S hS1 hS (by omega) haR hbR) ?_
 refine zg15 ?_
 exact retC [] rfl rfl rfl rfl rfl T64 (.pure (net_pureN _ _ _))
theorem c_fMul13 (U1 V1 U2 V2:Nat) (a b:List Rat) (ha:a.length=(U1+1)*(V1+1)) (hb:b.length=(U2+1)*(V2+1)) (hU1:U1≤3) (hV1:V1≤3) (hU2:U2≤3) (hV2:V2≤3) (S:Nat) (hS1:1≤S) (hS:S≤1000000) (haR:∀ x∈a,rl x≤S) (hbR:∀ x∈b,rl x≤S):CallP Tryz.prog 180 [.agg [nI64 U1,nI64 V1,.list 3 (a.map ratL)],.agg [nI64 U2,nI64 V2,.list 3 (b.map ratL)]] (.tup [.agg [nI64 (U1+U2),nI64 (V1+V2),.list 3 ((tmL U1 V1 U2 V2 a b).map ratL)],iL 0]) :=
 c_fMul7K U1 V1 U2 V2 a b ha hb (by have:=sq_le3 hU1 hV1;omega) (by have:=sq_le3 hU2 hV2;omega) (by omega) (by omega) S hS1 hS (by have:=pk_le2 (R:=S) hU1 hV1 hU2 hV2;omega) haR hbR
theorem c_tSub13 (U V:Nat) (a b:List Rat) (hU:U≤40) (hV:V≤40) (ha:a.length=(U+1)*(V+1)) (hb:b.length=(U+1)*(V+1)) (haR:∀ x∈a,rl x≤500000000) (hbR:∀ x∈b,rl x≤500000000):CallP Tryz.prog 141 [.agg [nI64 U,nI64 V,.list 3 (a.map ratL)],.agg [nI64 U,nI64 V,.list 3 (b.map ratL)]] (.agg [nI64 U,nI64 V,.list 3 ((zipG (·-·) a b).map ratL)]):=by
 have:=c_TSub U V U V a b U V (upH_same ha hU hV fun x hx=>by have:=haR x hx;omega) (upH_same hb hU hV fun x hx=>by have:=hbR x hx;omega) (.inl rfl) (.inl rfl)
 rwa [upN_self ha,upN_self hb] at this
theorem c_fSub13 (U V:Nat) (a b:List Rat) (hU:U≤40) (hV:V≤40) (ha:a.length=(U+1)*(V+1)) (hb:b.length=(U+1)*(V+1)) (haR:∀ x∈a,rl x≤500000000) (hbR:∀ x∈b,rl x≤500000000):CallP Tryz.prog 181 [.agg [nI64 U,nI64 V,.list 3 (a.map ratL)],.agg [nI64 U,nI64 V,.list 3 (b.map ratL)]] (.agg [nI64 U,nI64 V,.list 3 ((zipG (·-·) a b).map ratL)]):=by
 have:=c_fSub7 U V U V a b U V (upH_same ha hU hV fun x hx=>by have:=haR x hx;omega) (upH_same hb hU hV fun x hx=>by have:=hbR x hx;omega) (.inl rfl) (.inl rfl) (scP_up hb hU hV hbR) (fun x hx=>by have:=hbR x hx;omega)
 rwa [upN_self ha,upN_self hb] at this
namespace H_c_turns13
theorem zSm {p q:Prop} (k:q) (e:p=q:=by simp only [e1,e2,e3,e4,p1,p2,p3,q1,q2,q3,l1,t0,t1,r1,r2,r3,r4,Nat.zero_add,Nat.reduceMul,Nat.reduceAdd,b1,b2,b3,b4,b5,b6,i1,i2,i3,i4,i5,i6,Nat.reduceBEq,frz_nil,prL_kill,kills_map prE,dfr,dfq,take_map_len,map_snoc,len_snoc,List.length_cons,List.length_nil,List.nil_append,List.map_nil,List.take_nil,List.append_nil,List.set_cons_zero,List.set_cons_succ,Nat.reduceEqDiff,reduceIte,if_true,if_false,ptL_kill,poL_kill,kills_map ptE,kills_map poE,kills_map ratE,ratL_kill,spL_kill,LV.kill,kills];exact rfl):p:=e.mpr k
end H_c_turns13
open H_c_turns13 in
theorem c_turns13 (R U V Ud Vd:Nat) (kU kV:List Rat) (rows:List (List PoR)) (h:pf R U V rows) (hR:R≤200000) (D:List Rat→List Rat) (hd:dfS U V Ud Vd D) (f:Nat) (hf:∀ c:List Rat,c.length=(U+1)*(V+1)→(∀ x∈c,rl x≤2*R)→CallP Tryz.prog f [.agg [nI64 U,nI64 V,.list 3 (c.map ratL)]] (.agg [nI64 Ud,nI64 Vd,.list 3 ((D c).map ratL)])):CallP Tryz.prog 71 [.agg [nI64 U,nI64 V,.list 3 (kU.map ratL),.list 3 (kV.map ratL),.list 1 (rows.map prL)],.clo f []] (.agg [.agg [nI64 (Ud+U),nI64 (Vd+V),.list 3 ((sgN U V Ud Vd D rows.flatten 0).map ratL)],.agg [nI64 (Ud+U),nI64 (Vd+V),.list 3 ((sgN U V Ud Vd D rows.flatten 1).map ratL)],.agg [nI64 (Ud+U),nI64 (Vd+V),.list 3 ((sgN U V Ud Vd D rows.flatten 2).map ratL)]]):=by
 have hsp:LV.pure (.agg [nI64 U,nI64 V,.list 3 (kU.map ratL),.list 3 (kV.map ratL),.list 1 (rows.map prL)])=true:=by simp [LV.pure,pures,pures_map ratE,pures_map prE]
 have hr1:=h.r1
 have hu3:=h.u3
 have hv3:=h.v3
 have hud:=hd.u
 have hvd:=hd.v
 have hwl:=h.wl
 have hdw:=hd.l _ hwl
 have hwr:=h.wr
 have hdwr:=hd.r _ _ hr1 hwl hwr
 have hpw:=net_pureN U V (wtP rows.flatten)
 have hpdw:=net_pureN Ud Vd (D (wtP rows.flatten))
 have hnl0:=h.nl 0
 have hdn0:=hd.l _ hnl0
 have hnr0:=h.nr 0
 have hdnr0:=hd.r _ _ (show 1≤2*R by omega) hnl0 hnr0
 have hpn0:=net_pureN U V (nmP rows.flatten 0)
 have hpd0:=net_pureN Ud Vd (D (nmP rows.flatten 0))
 have hpa0:=net_pureN (Ud+U) (Vd+V) (tmL Ud Vd U V (D (nmP rows.flatten 0)) (wtP rows.flatten))
 have hpb0:=net_pureN (Ud+U) (Vd+V) (tmL U V Ud Vd (nmP rows.flatten 0) (D (wtP rows.flatten)))
 have hps0:=net_pureN (Ud+U) (Vd+V) (sgN U V Ud Vd D rows.flatten 0)
 obtain⟨hal0,har0⟩:=sg_m1 h hd 0
 obtain⟨hbl0,hbr0⟩:=sg_m2 h hd 0
 have hA0:=c_prod13 Ud Vd U V (D (nmP rows.flatten 0)) (wtP rows.flatten) hdn0 hwl hud hvd hu3 hv3 (4*R+4) (by omega) (by omega) (fun x hx=>by have:=hdnr0 x hx;omega) (fun x hx=>by have:=hwr x hx;omega)
 have hB0:=c_prod13 U V Ud Vd (nmP rows.flatten 0) (D (wtP rows.flatten)) hnl0 hdw hu3 hv3 hud hvd (4*R+4) (by omega) (by omega) (fun x hx=>by have:=hnr0 x hx;omega) (fun x hx=>by have:=hdwr x hx;omega)
 rw [Nat.add_comm U Ud,Nat.add_comm V Vd] at hB0
 have hS0:=c_tSub13 (Ud+U) (Vd+V) (tmL Ud Vd U V (D (nmP rows.flatten 0)) (wtP rows.flatten)) (tmL U V Ud Vd (nmP rows.flatten 0) (D (wtP rows.flatten))) (by omega) (by omega) hal0 hbl0 (fun x hx=>by have:=har0 x hx;omega) (fun x hx=>by have:=hbr0 x hx;omega)
 have hnl1:=h.nl 1
 have hdn1:=hd.l _ hnl1
 have hnr1:=h.nr 1
 have hdnr1:=hd.r _ _ (show 1≤2*R by omega) hnl1 hnr1
 have hpn1:=net_pureN U V (nmP rows.flatten 1)
 have hpd1:=net_pureN Ud Vd (D (nmP rows.flatten 1))
 have hpa1:=net_pureN (Ud+U) (Vd+V) (tmL Ud Vd U V (D (nmP rows.flatten 1)) (wtP rows.flatten))
 have hpb1:=net_pureN (Ud+U) (Vd+V) (tmL U V Ud Vd (nmP rows.flatten 1) (D (wtP rows.flatten)))
 have hps1:=net_pureN (Ud+U) (Vd+V) (sgN U V Ud Vd D rows.flatten 1)
 obtain⟨hal1,har1⟩:=sg_m1 h hd 1
 obtain⟨hbl1,hbr1⟩:=sg_m2 h hd 1
 have hA1:=c_prod13 Ud Vd U V (D (nmP rows.flatten 1)) (wtP rows.flatten) hdn1 hwl hud hvd hu3 hv3 (4*R+4) (by omega) (by omega) (fun x hx=>by have:=hdnr1 x hx;omega) (fun x hx=>by have:=hwr x hx;omega)
 have hB1:=c_prod13 U V Ud Vd (nmP rows.flatten 1) (D (wtP rows.flatten)) hnl1 hdw hu3 hv3 hud hvd (4*R+4) (by omega) (by omega) (fun x hx=>by have:=hnr1 x hx;omega) (fun x hx=>by have:=hdwr x hx;omega)
 rw [Nat.add_comm U Ud,Nat.add_comm V Vd] at hB1
 have hS1:=c_tSub13 (Ud+U) (Vd+V) (tmL Ud Vd U V (D (nmP rows.flatten 1)) (wtP rows.flatten)) (tmL U V Ud Vd (nmP rows.flatten 1) (D (wtP rows.flatten))) (by omega) (by omega) hal1 hbl1 (fun x hx=>by have:=har1 x hx;omega) (fun x hx=>by have:=hbr1 x hx;omega)
 have hnl2:=h.nl 2
 have hdn2:=hd.l _ hnl2
 have hnr2:=h.nr 2
 have hdnr2:=hd.r _ _ (show 1≤2*R by omega) hnl2 hnr2
 have hpn2:=net_pureN U V (nmP rows.flatten 2)
 have hpd2:=net_pureN Ud Vd (D (nmP rows.flatten 2))
 have hpa2:=net_pureN (Ud+U) (Vd+V) (tmL Ud Vd U V (D (nmP rows.flatten 2)) (wtP rows.flatten))
 have hpb2:=net_pureN (Ud+U) (Vd+V) (tmL U V Ud Vd (nmP rows.flatten 2) (D (wtP rows.flatten)))
 have hps2:=net_pureN (Ud+U) (Vd+V) (sgN U V Ud Vd D rows.flatten 2)
 obtain⟨hal2,har2⟩:=sg_m1 h hd 2
 obtain⟨hbl2,hbr2⟩:=sg_m2 h hd 2
 have hA2:=c_prod13 Ud Vd U V (D (nmP rows.flatten 2)) (wtP rows.flatten) hdn2 hwl hud hvd hu3 hv3 (4*R+4) (by omega) (by omega) (fun x hx=>by have:=hdnr2 x hx;omega) (fun x hx=>by have:=hwr x hx;omega)
 have hB2:=c_prod13 U V Ud Vd (nmP rows.flatten 2) (D (wtP rows.flatten)) hnl2 hdw hu3 hv3 hud hvd (4*R+4) (by omega) (by omega) (fun x hx=>by have:=hnr2 x hx;omega) (fun x hx=>by have:=hdwr x hx;omega)
 rw [Nat.add_comm U Ud,Nat.add_comm V Vd] at hB2
 have hS2:=c_tSub13 (Ud+U) (Vd+V) (tmL Ud Vd U V (D (nmP rows.flatten 2)) (wtP rows.flatten)) (tmL U V Ud Vd (nmP rows.flatten 2) (D (wtP rows.flatten))) (by omega) (by omega) hal2 hbl2 (fun x hx=>by have:=har2 x hx;omega) (fun x hx=>by have:=hbr2 x hx;omega)
 have hfw:=hf (wtP rows.flatten) hwl (fun x hx=>by have:=hwr x hx;omega)
 have hf0:=hf (nmP rows.flatten 0) hnl0 hnr0
 have hf1:=hf (nmP rows.flatten 1) hnl1 hnr1
 have hf2:=hf (nmP rows.flatten 2) hnl2 hnr2
 refine fnP Tryz.func71 (ht:=(fun g=>LV.ren_pure g _ (by simp [LV.pure,pures,pures_map ratE]))) ?_
 refine zg9 ?_
 refine cp am1 (c_PNum U V kU kV rows (by omega) (by omega) R (by omega) h.rw) ?_
 refine zg9 ?_
 refine st_opc [] rfl rfl (.clo (f:=f) (cap:=[]) (args:=[.agg [nI64 U,nI64 V,.list 3 ((wtP rows.flatten).map ratL)]]) rfl (.cons im0 .nil) ⟨rfl,fun _ h=>by cases h⟩ hfw.1 (by decide) (fun _ h=>by cases h)) (hfw.2 _) ?_
 refine zg16 ?_
 refine wl_unroll ?_
 refine zg6 ?_
 refine wl_condX (b:=_) rfl (by decide) ?_
 refine zg10 ?_
 refine wl_regD 16 (by decide +kernel) ?_
 refine zg5 ?_
 refine st_opc [] rfl rfl (.clo (f:=f) (cap:=[]) (args:=[.agg [nI64 U,nI64 V,.list 3 ((nmP rows.flatten 0).map ratL)]]) rfl (.cons im0 .nil) ⟨rfl,fun _ h=>by cases h⟩ hf0.1 (by decide) (fun _ h=>by cases h)) (hf0.2 _) ?_
 refine zg2 ?_
 refine cp am2 (hA0) ?_
 refine zg4 ?_
 refine cp am2 (hB0) ?_
 refine cp am2 (hS0) ?_
 refine zg10 ?_
 refine wl_unroll ?_
 refine zg6 ?_
 refine wl_condX (b:=_) rfl (by decide) ?_
 refine zg10 ?_
 refine wl_regD 16 (by decide +kernel) ?_
 refine zg5 ?_
 refine st_opc [] rfl rfl (.clo (f:=f) (cap:=[]) (args:=[.agg [nI64 U,nI64 V,.list 3 ((nmP rows.flatten 1).map ratL)]]) rfl (.cons im0 .nil) ⟨rfl,fun _ h=>by cases h⟩ hf1.1 (by decide) (fun _ h=>by cases h)) (hf1.2 _) ?_
 refine zg2 ?_
 refine cp am2 (hA1) ?_
 refine zg4 ?_
 refine cp am2 (hB1) ?_
 refine cp am2 (hS1) ?_
 refine zg10 ?_
 refine wl_unroll ?_
 refine zg6 ?_
 refine wl_condX (b:=_) rfl (by decide) ?_
 refine zg10 ?_
 refine wl_regD 16 (by decide +kernel) ?_
 refine zg5 ?_
 refine st_opc [] rfl rfl (.clo (f:=f) (cap:=[]) (args:=[.agg [nI64 U,nI64 V,.list 3 ((nmP rows.flatten 2).map ratL)]]) rfl (.cons im0 .nil) ⟨rfl,fun _ h=>by cases h⟩ hf2.1 (by decide) (fun _ h=>by cases h)) (hf2.2 _) ?_
 refine zg2 ?_
 refine cp am2 (hA2) ?_
 refine zg4 ?_
 refine cp am2 (hB2) ?_
 refine cp am2 (hS2) ?_
 refine zg10 ?_
 refine wl_unroll ?_
 refine zg6 ?_
 refine wl_condY (b:=_) rfl (by decide) ?_
 refine zg12 ?_
 exact retC [] rfl rfl rfl cs (at_all cs rfl) T106 (.pure (by simp [LV.pure,pures,pures_map ratE]))
theorem c_fDiffV13 (U V:Nat) (c:List Rat) (hc:c.length=(U+1)*(V+1)) (hl:c.length≤1048576) (hcR:∀ x∈c,rl x≤1073741824) (hV1:V≤900):CallP Tryz.prog 179 [.agg [nI64 U,nI64 V,.list 3 (c.map ratL)]] (.agg [nI64 U,nI64 (V-1),.list 3 ((dfV U V c).map ratL)]):=c_fDiffV U V c hc hl hcR hV1
namespace H_c_slopes13U
theorem zSm {p q:Prop} (k:q) (e:p=q:=by simp only [e1,e2,e3,e4,p1,p2,p3,q1,q2,q3,l1,t0,t1,r1,r2,r3,r4,Nat.zero_add,Nat.reduceMul,Nat.reduceAdd,b1,b2,b3,b4,b5,b6,i1,i2,i3,i4,i5,i6,Nat.reduceBEq,frz_nil,prL_kill,kills_map prE,dfr,dfq,take_map_len,map_snoc,len_snoc,List.length_cons,List.length_nil,List.nil_append,List.map_nil,List.take_nil,List.append_nil,List.set_cons_zero,List.set_cons_succ,Nat.reduceEqDiff,reduceIte,if_true,if_false,ptL_kill,poL_kill,kills_map ptE,kills_map poE,kills_map ratE,ratL_kill,spL_kill,LV.kill,kills];exact rfl):p:=e.mpr k
end H_c_slopes13U
open H_c_slopes13U in
theorem c_slopes13U (R U V:Nat) (kU kV:List Rat) (rows:List (List PoR)) (h:pf R U V rows) (hR:R≤200000):CallP Tryz.prog 102 [.agg [nI64 U,nI64 V,.list 3 (kU.map ratL),.list 3 (kV.map ratL),.list 1 (rows.map prL)],bL false] (.agg [.agg [nI64 ((U-1)+U),nI64 (V+V),.list 3 ((sgN U V (U-1) V (dfU U V) rows.flatten 0).map ratL)],.agg [nI64 ((U-1)+U),nI64 (V+V),.list 3 ((sgN U V (U-1) V (dfU U V) rows.flatten 1).map ratL)],.agg [nI64 ((U-1)+U),nI64 (V+V),.list 3 ((sgN U V (U-1) V (dfU U V) rows.flatten 2).map ratL)]]):=by
 have hsp:LV.pure (.agg [nI64 U,nI64 V,.list 3 (kU.map ratL),.list 3 (kV.map ratL),.list 1 (rows.map prL)])=true:=by simp [LV.pure,pures,pures_map ratE,pures_map prE]
 have hd:=dfS_U h.u3 h.v3
 have h16:=h.l16
 have hr1:=h.r1
 have hu3:=h.u3
 have hv3:=h.v3
 have hud:=hd.u
 have hvd:=hd.v
 have hwl:=h.wl
 have hdw:=hd.l _ hwl
 have hwr:=h.wr
 have hdwr:=hd.r _ _ hr1 hwl hwr
 have hpw:=net_pureN U V (wtP rows.flatten)
 have hpdw:=net_pureN (U-1) V ((dfU U V) (wtP rows.flatten))
 have hnl0:=h.nl 0
 have hdn0:=hd.l _ hnl0
 have hnr0:=h.nr 0
 have hdnr0:=hd.r _ _ (show 1≤2*R by omega) hnl0 hnr0
 have hpn0:=net_pureN U V (nmP rows.flatten 0)
 have hpd0:=net_pureN (U-1) V ((dfU U V) (nmP rows.flatten 0))
 have hpa0:=net_pureN ((U-1)+U) (V+V) (tmL (U-1) V U V ((dfU U V) (nmP rows.flatten 0)) (wtP rows.flatten))
 have hpb0:=net_pureN ((U-1)+U) (V+V) (tmL U V (U-1) V (nmP rows.flatten 0) ((dfU U V) (wtP rows.flatten)))
 have hps0:=net_pureN ((U-1)+U) (V+V) (sgN U V (U-1) V (dfU U V) rows.flatten 0)
 obtain⟨hal0,har0⟩:=sg_m1 h hd 0
 obtain⟨hbl0,hbr0⟩:=sg_m2 h hd 0
 have hA0:=c_fMul13 (U-1) V U V ((dfU U V) (nmP rows.flatten 0)) (wtP rows.flatten) hdn0 hwl hud hvd hu3 hv3 (4*R+4) (by omega) (by omega) (fun x hx=>by have:=hdnr0 x hx;omega) (fun x hx=>by have:=hwr x hx;omega)
 have hB0:=c_fMul13 U V (U-1) V (nmP rows.flatten 0) ((dfU U V) (wtP rows.flatten)) hnl0 hdw hu3 hv3 hud hvd (4*R+4) (by omega) (by omega) (fun x hx=>by have:=hnr0 x hx;omega) (fun x hx=>by have:=hdwr x hx;omega)
 rw [Nat.add_comm U (U-1),Nat.add_comm V V] at hB0
 have hS0:=c_fSub13 ((U-1)+U) (V+V) (tmL (U-1) V U V ((dfU U V) (nmP rows.flatten 0)) (wtP rows.flatten)) (tmL U V (U-1) V (nmP rows.flatten 0) ((dfU U V) (wtP rows.flatten))) (by omega) (by omega) hal0 hbl0 (fun x hx=>by have:=har0 x hx;omega) (fun x hx=>by have:=hbr0 x hx;omega)
 have hnl1:=h.nl 1
 have hdn1:=hd.l _ hnl1
 have hnr1:=h.nr 1
 have hdnr1:=hd.r _ _ (show 1≤2*R by omega) hnl1 hnr1
 have hpn1:=net_pureN U V (nmP rows.flatten 1)
 have hpd1:=net_pureN (U-1) V ((dfU U V) (nmP rows.flatten 1))
 have hpa1:=net_pureN ((U-1)+U) (V+V) (tmL (U-1) V U V ((dfU U V) (nmP rows.flatten 1)) (wtP rows.flatten))
 have hpb1:=net_pureN ((U-1)+U) (V+V) (tmL U V (U-1) V (nmP rows.flatten 1) ((dfU U V) (wtP rows.flatten)))
 have hps1:=net_pureN ((U-1)+U) (V+V) (sgN U V (U-1) V (dfU U V) rows.flatten 1)
 obtain⟨hal1,har1⟩:=sg_m1 h hd 1
 obtain⟨hbl1,hbr1⟩:=sg_m2 h hd 1
 have hA1:=c_fMul13 (U-1) V U V ((dfU U V) (nmP rows.flatten 1)) (wtP rows.flatten) hdn1 hwl hud hvd hu3 hv3 (4*R+4) (by omega) (by omega) (fun x hx=>by have:=hdnr1 x hx;omega) (fun x hx=>by have:=hwr x hx;omega)
 have hB1:=c_fMul13 U V (U-1) V (nmP rows.flatten 1) ((dfU U V) (wtP rows.flatten)) hnl1 hdw hu3 hv3 hud hvd (4*R+4) (by omega) (by omega) (fun x hx=>by have:=hnr1 x hx;omega) (fun x hx=>by have:=hdwr x hx;omega)
 rw [Nat.add_comm U (U-1),Nat.add_comm V V] at hB1
 have hS1:=c_fSub13 ((U-1)+U) (V+V) (tmL (U-1) V U V ((dfU U V) (nmP rows.flatten 1)) (wtP rows.flatten)) (tmL U V (U-1) V (nmP rows.flatten 1) ((dfU U V) (wtP rows.flatten))) (by omega) (by omega) hal1 hbl1 (fun x hx=>by have:=har1 x hx;omega) (fun x hx=>by have:=hbr1 x hx;omega)
 have hnl2:=h.nl 2
 have hdn2:=hd.l _ hnl2
 have hnr2:=h.nr 2
 have hdnr2:=hd.r _ _ (show 1≤2*R by omega) hnl2 hnr2
 have hpn2:=net_pureN U V (nmP rows.flatten 2)
 have hpd2:=net_pureN (U-1) V ((dfU U V) (nmP rows.flatten 2))
 have hpa2:=net_pureN ((U-1)+U) (V+V) (tmL (U-1) V U V ((dfU U V) (nmP rows.flatten 2)) (wtP rows.flatten))
 have hpb2:=net_pureN ((U-1)+U) (V+V) (tmL U V (U-1) V (nmP rows.flatten 2) ((dfU U V) (wtP rows.flatten)))
 have hps2:=net_pureN ((U-1)+U) (V+V) (sgN U V (U-1) V (dfU U V) rows.flatten 2)
 obtain⟨hal2,har2⟩:=sg_m1 h hd 2
 obtain⟨hbl2,hbr2⟩:=sg_m2 h hd 2
 have hA2:=c_fMul13 (U-1) V U V ((dfU U V) (nmP rows.flatten 2)) (wtP rows.flatten) hdn2 hwl hud hvd hu3 hv3 (4*R+4) (by omega) (by omega) (fun x hx=>by have:=hdnr2 x hx;omega) (fun x hx=>by have:=hwr x hx;omega)
 have hB2:=c_fMul13 U V (U-1) V (nmP rows.flatten 2) ((dfU U V) (wtP rows.flatten)) hnl2 hdw hu3 hv3 hud hvd (4*R+4) (by omega) (by omega) (fun x hx=>by have:=hnr2 x hx;omega) (fun x hx=>by have:=hdwr x hx;omega)
 rw [Nat.add_comm U (U-1),Nat.add_comm V V] at hB2
 have hS2:=c_fSub13 ((U-1)+U) (V+V) (tmL (U-1) V U V ((dfU U V) (nmP rows.flatten 2)) (wtP rows.flatten)) (tmL U V (U-1) V (nmP rows.flatten 2) ((dfU U V) (wtP rows.flatten))) (by omega) (by omega) hal2 hbl2 (fun x hx=>by have:=har2 x hx;omega) (fun x hx=>by have:=hbr2 x hx;omega)
 have hwl16:(wtP rows.flatten).length≤16:=by rw [wtP_len];omega
 have hnl160:(nmP rows.flatten 0).length≤16:=by rw [nmP_len];omega
 have hnl161:(nmP rows.flatten 1).length≤16:=by rw [nmP_len];omega
 have hnl162:(nmP rows.flatten 2).length≤16:=by rw [nmP_len];omega
 have hqu0:=net_pureN (U-1) V (dfU U V (nmP rows.flatten 0))
 have hqu1:=net_pureN (U-1) V (dfU U V (nmP rows.flatten 1))
 have hqu2:=net_pureN (U-1) V (dfU U V (nmP rows.flatten 2))
 have hquw:=net_pureN (U-1) V (dfU U V (wtP rows.flatten))
 have hWd:=c_fDiffU U V (wtP rows.flatten) hwl (by omega) (fun x hx=>by have:=hwr x hx;omega) (by omega)
 have hNd0:=c_fDiffU U V (nmP rows.flatten 0) hnl0 (by omega) (fun x hx=>by have:=hnr0 x hx;omega) (by omega)
 have hNd1:=c_fDiffU U V (nmP rows.flatten 1) hnl1 (by omega) (fun x hx=>by have:=hnr1 x hx;omega) (by omega)
 have hNd2:=c_fDiffU U V (nmP rows.flatten 2) hnl2 (by omega) (fun x hx=>by have:=hnr2 x hx;omega) (by omega)
 refine fnP Tryz.func102 (ht:=(fun g=>LV.ren_pure g _ (by simp [LV.pure,pures,pures_map ratE]))) ?_
 refine zg9 ?_
 refine cp am1 (c_FPNum U V kU kV rows (by omega) (by omega) R (by omega) h.rw) ?_
 refine zg16 ?_
 refine wl_unroll ?_
 refine zg7 ?_
 refine wl_condX (b:=_) rfl (by decide) ?_
 refine zg5 ?_
 refine wl_regD 9 (by decide +kernel) ?_
 refine zg3 ?_
 refine cp am1 (hNd0) ?_
 refine zg2 ?_
 refine cp am1 (hWd) ?_
 refine zg12 ?_
 refine wl_if rfl (fun h27r h27=>?_) (fun h27r h27=>?_)
 ·first | exact h27.elim | exact absurd rfl h27 | cases h27r
 ·refine zg7 ?_
  refine cp am2 (hA0) ?_
  refine zg9 ?_
  refine wl_regF 9 [7] (by decide +kernel) ?_
  refine zg4 ?_
  refine cp am2 (hB0) ?_
  refine zg12 ?_
  refine cp am2 (hS0) ?_
  refine zg5 ?_
  refine wl_regW ((((Weak.kill _ 12).trans (Weak.kill _ 10)).trans (Weak.kill _ 9)).trans (Weak.kill _ 8)) ?_
  refine zg5 ?_
  refine wl_unroll ?_
  refine zg7 ?_
  refine wl_condX (b:=_) rfl (by decide) ?_
  refine zg5 ?_
  refine wl_regD 9 (by decide +kernel) ?_
  refine zg3 ?_
  refine cp am1 (hNd1) ?_
  refine zg2 ?_
  refine cp am1 (hWd) ?_
  refine zg20 ?_
  refine cp am2 (hA1) ?_
  refine zg9 ?_
  refine wl_regF 9 [7] (by decide +kernel) ?_
  refine zg4 ?_
  refine cp am2 (hB1) ?_
  refine zg12 ?_
  refine cp am2 (hS1) ?_
  refine zg5 ?_
  refine wl_regW ((((Weak.kill _ 12).trans (Weak.kill _ 10)).trans (Weak.kill _ 9)).trans (Weak.kill _ 8)) ?_
  refine zg5 ?_
  refine wl_unroll ?_
  refine zg7 ?_
  refine wl_condX (b:=_) rfl (by decide) ?_
  refine zg5 ?_
  refine wl_regD 9 (by decide +kernel) ?_
  refine zg3 ?_
  refine cp am1 (hNd2) ?_
  refine zg2 ?_
  refine cp am1 (hWd) ?_
  refine zg20 ?_
  refine cp am2 (hA2) ?_
  refine zg9 ?_
  refine wl_regF 9 [7] (by decide +kernel) ?_
  refine zg4 ?_
  refine cp am2 (hB2) ?_
  refine zg12 ?_
  refine cp am2 (hS2) ?_
  refine zg5 ?_
  refine wl_regW ((((Weak.kill _ 12).trans (Weak.kill _ 10)).trans (Weak.kill _ 9)).trans (Weak.kill _ 8)) ?_
  refine zg5 ?_
  refine wl_unroll ?_
  refine zg7 ?_
  refine wl_condY (b:=_) rfl (by decide) ?_
  refine zg12 ?_
  exact retC [] rfl rfl rfl cs (at_all cs rfl) T106 (.pure (by simp [LV.pure,pures,pures_map ratE]))
namespace H_c_slopes13V
theorem zSm {p q:Prop} (k:q) (e:p=q:=by simp only [e1,e2,e3,e4,p1,p2,p3,q1,q2,q3,l1,t0,t1,r1,r2,r3,r4,Nat.zero_add,Nat.reduceMul,Nat.reduceAdd,b1,b2,b3,b4,b5,b6,i1,i2,i3,i4,i5,i6,Nat.reduceBEq,frz_nil,prL_kill,kills_map prE,dfr,dfq,take_map_len,map_snoc,len_snoc,List.length_cons,List.length_nil,List.nil_append,List.map_nil,List.take_nil,List.append_nil,List.set_cons_zero,List.set_cons_succ,Nat.reduceEqDiff,reduceIte,if_true,if_false,ptL_kill,poL_kill,kills_map ptE,kills_map poE,kills_map ratE,ratL_kill,spL_kill,LV.kill,kills];exact rfl):p:=e.mpr k
end H_c_slopes13V
open H_c_slopes13V in
theorem c_slopes13V (R U V:Nat) (kU kV:List Rat) (rows:List (List PoR)) (h:pf R U V rows) (hR:R≤200000):CallP Tryz.prog 102 [.agg [nI64 U,nI64 V,.list 3 (kU.map ratL),.list 3 (kV.map ratL),.list 1 (rows.map prL)],bL true] (.agg [.agg [nI64 (U+U),nI64 ((V-1)+V),.list 3 ((sgN U V U (V-1) (dfV U V) rows.flatten 0).map ratL)],.agg [nI64 (U+U),nI64 ((V-1)+V),.list 3 ((sgN U V U (V-1) (dfV U V) rows.flatten 1).map ratL)],.agg [nI64 (U+U),nI64 ((V-1)+V),.list 3 ((sgN U V U (V-1) (dfV U V) rows.flatten 2).map ratL)]]):=by
 have hsp:LV.pure (.agg [nI64 U,nI64 V,.list 3 (kU.map ratL),.list 3 (kV.map ratL),.list 1 (rows.map prL)])=true:=by simp [LV.pure,pures,pures_map ratE,pures_map prE]
 have hd:=dfS_V h.u3 h.v3
 have h16:=h.l16
 have hr1:=h.r1
 have hu3:=h.u3
 have hv3:=h.v3
 have hud:=hd.u
 have hvd:=hd.v
 have hwl:=h.wl
 have hdw:=hd.l _ hwl
 have hwr:=h.wr
 have hdwr:=hd.r _ _ hr1 hwl hwr
 have hpw:=net_pureN U V (wtP rows.flatten)
 have hpdw:=net_pureN U (V-1) ((dfV U V) (wtP rows.flatten))
 have hnl0:=h.nl 0
 have hdn0:=hd.l _ hnl0
 have hnr0:=h.nr 0
 have hdnr0:=hd.r _ _ (show 1≤2*R by omega) hnl0 hnr0
 have hpn0:=net_pureN U V (nmP rows.flatten 0)
 have hpd0:=net_pureN U (V-1) ((dfV U V) (nmP rows.flatten 0))
 have hpa0:=net_pureN (U+U) ((V-1)+V) (tmL U (V-1) U V ((dfV U V) (nmP rows.flatten 0)) (wtP rows.flatten))
 have hpb0:=net_pureN (U+U) ((V-1)+V) (tmL U V U (V-1) (nmP rows.flatten 0) ((dfV U V) (wtP rows.flatten)))
 have hps0:=net_pureN (U+U) ((V-1)+V) (sgN U V U (V-1) (dfV U V) rows.flatten 0)
 obtain⟨hal0,har0⟩:=sg_m1 h hd 0
 obtain⟨hbl0,hbr0⟩:=sg_m2 h hd 0
 have hA0:=c_fMul13 U (V-1) U V ((dfV U V) (nmP rows.flatten 0)) (wtP rows.flatten) hdn0 hwl hud hvd hu3 hv3 (4*R+4) (by omega) (by omega) (fun x hx=>by have:=hdnr0 x hx;omega) (fun x hx=>by have:=hwr x hx;omega)
 have hB0:=c_fMul13 U V U (V-1) (nmP rows.flatten 0) ((dfV U V) (wtP rows.flatten)) hnl0 hdw hu3 hv3 hud hvd (4*R+4) (by omega) (by omega) (fun x hx=>by have:=hnr0 x hx;omega) (fun x hx=>by have:=hdwr x hx;omega)
 rw [Nat.add_comm U U,Nat.add_comm V (V-1)] at hB0
 have hS0:=c_fSub13 (U+U) ((V-1)+V) (tmL U (V-1) U V ((dfV U V) (nmP rows.flatten 0)) (wtP rows.flatten)) (tmL U V U (V-1) (nmP rows.flatten 0) ((dfV U V) (wtP rows.flatten))) (by omega) (by omega) hal0 hbl0 (fun x hx=>by have:=har0 x hx;omega) (fun x hx=>by have:=hbr0 x hx;omega)
 have hnl1:=h.nl 1
 have hdn1:=hd.l _ hnl1
 have hnr1:=h.nr 1
 have hdnr1:=hd.r _ _ (show 1≤2*R by omega) hnl1 hnr1
 have hpn1:=net_pureN U V (nmP rows.flatten 1)
 have hpd1:=net_pureN U (V-1) ((dfV U V) (nmP rows.flatten 1))
 have hpa1:=net_pureN (U+U) ((V-1)+V) (tmL U (V-1) U V ((dfV U V) (nmP rows.flatten 1)) (wtP rows.flatten))
 have hpb1:=net_pureN (U+U) ((V-1)+V) (tmL U V U (V-1) (nmP rows.flatten 1) ((dfV U V) (wtP rows.flatten)))
 have hps1:=net_pureN (U+U) ((V-1)+V) (sgN U V U (V-1) (dfV U V) rows.flatten 1)
 obtain⟨hal1,har1⟩:=sg_m1 h hd 1
 obtain⟨hbl1,hbr1⟩:=sg_m2 h hd 1
 have hA1:=c_fMul13 U (V-1) U V ((dfV U V) (nmP rows.flatten 1)) (wtP rows.flatten) hdn1 hwl hud hvd hu3 hv3 (4*R+4) (by omega) (by omega) (fun x hx=>by have:=hdnr1 x hx;omega) (fun x hx=>by have:=hwr x hx;omega)
 have hB1:=c_fMul13 U V U (V-1) (nmP rows.flatten 1) ((dfV U V) (wtP rows.flatten)) hnl1 hdw hu3 hv3 hud hvd (4*R+4) (by omega) (by omega) (fun x hx=>by have:=hnr1 x hx;omega) (fun x hx=>by have:=hdwr x hx;omega)
 rw [Nat.add_comm U U,Nat.add_comm V (V-1)] at hB1
 have hS1:=c_fSub13 (U+U) ((V-1)+V) (tmL U (V-1) U V ((dfV U V) (nmP rows.flatten 1)) (wtP rows.flatten)) (tmL U V U (V-1) (nmP rows.flatten 1) ((dfV U V) (wtP rows.flatten))) (by omega) (by omega) hal1 hbl1 (fun x hx=>by have:=har1 x hx;omega) (fun x hx=>by have:=hbr1 x hx;omega)
 have hnl2:=h.nl 2
 have hdn2:=hd.l _ hnl2
 have hnr2:=h.nr 2
 have hdnr2:=hd.r _ _ (show 1≤2*R by omega) hnl2 hnr2
 have hpn2:=net_pureN U V (nmP rows.flatten 2)
 have hpd2:=net_pureN U (V-1) ((dfV U V) (nmP rows.flatten 2))
 have hpa2:=net_pureN (U+U) ((V-1)+V) (tmL U (V-1) U V ((dfV U V) (nmP rows.flatten 2)) (wtP rows.flatten))
 have hpb2:=net_pureN (U+U) ((V-1)+V) (tmL U V U (V-1) (nmP rows.flatten 2) ((dfV U V) (wtP rows.flatten)))
 have hps2:=net_pureN (U+U) ((V-1)+V) (sgN U V U (V-1) (dfV U V) rows.flatten 2)
 obtain⟨hal2,har2⟩:=sg_m1 h hd 2
 obtain⟨hbl2,hbr2⟩:=sg_m2 h hd 2
 have hA2:=c_fMul13 U (V-1) U V ((dfV U V) (nmP rows.flatten 2)) (wtP rows.flatten) hdn2 hwl hud hvd hu3 hv3 (4*R+4) (by omega) (by omega) (fun x hx=>by have:=hdnr2 x hx;omega) (fun x hx=>by have:=hwr x hx;omega)
 have hB2:=c_fMul13 U V U (V-1) (nmP rows.flatten 2) ((dfV U V) (wtP rows.flatten)) hnl2 hdw hu3 hv3 hud hvd (4*R+4) (by omega) (by omega) (fun x hx=>by have:=hnr2 x hx;omega) (fun x hx=>by have:=hdwr x hx;omega)
 rw [Nat.add_comm U U,Nat.add_comm V (V-1)] at hB2
 have hS2:=c_fSub13 (U+U) ((V-1)+V) (tmL U (V-1) U V ((dfV U V) (nmP rows.flatten 2)) (wtP rows.flatten)) (tmL U V U (V-1) (nmP rows.flatten 2) ((dfV U V) (wtP rows.flatten))) (by omega) (by omega) hal2 hbl2 (fun x hx=>by have:=har2 x hx;omega) (fun x hx=>by have:=hbr2 x hx;omega)
 have hwl16:(wtP rows.flatten).length≤16:=by rw [wtP_len];omega
 have hnl160:(nmP rows.flatten 0).length≤16:=by rw [nmP_len];omega
 have hnl161:(nmP rows.flatten 1).length≤16:=by rw [nmP_len];omega
 have hnl162:(nmP rows.flatten 2).length≤16:=by rw [nmP_len];omega
 have hqu0:=net_pureN (U-1) V (dfU U V (nmP rows.flatten 0))
 have hqu1:=net_pureN (U-1) V (dfU U V (nmP rows.flatten 1))
 have hqu2:=net_pureN (U-1) V (dfU U V (nmP rows.flatten 2))
 have hquw:=net_pureN (U-1) V (dfU U V (wtP rows.flatten))
 have hWd:=c_fDiffU U V (wtP rows.flatten) hwl (by omega) (fun x hx=>by have:=hwr x hx;omega) (by omega)
 have hNd0:=c_fDiffU U V (nmP rows.flatten 0) hnl0 (by omega) (fun x hx=>by have:=hnr0 x hx;omega) (by omega)
 have hNd1:=c_fDiffU U V (nmP rows.flatten 1) hnl1 (by omega) (fun x hx=>by have:=hnr1 x hx;omega) (by omega)
 have hNd2:=c_fDiffU U V (nmP rows.flatten 2) hnl2 (by omega) (fun x hx=>by have:=hnr2 x hx;omega) (by omega)
 have hWv:=c_fDiffV13 U V (wtP rows.flatten) hwl (by omega) (fun x hx=>by have:=hwr x hx;omega) (by omega)
 have hNv0:=c_fDiffV13 U V (nmP rows.flatten 0) hnl0 (by omega) (fun x hx=>by have:=hnr0 x hx;omega) (by omega)
 have hNv1:=c_fDiffV13 U V (nmP rows.flatten 1) hnl1 (by omega) (fun x hx=>by have:=hnr1 x hx;omega) (by omega)
 have hNv2:=c_fDiffV13 U V (nmP rows.flatten 2) hnl2 (by omega) (fun x hx=>by have:=hnr2 x hx;omega) (by omega)
 refine fnP Tryz.func102 (ht:=(fun g=>LV.ren_pure g _ (by simp [LV.pure,pures,pures_map ratE]))) ?_
 refine zg9 ?_
 refine cp am1 (c_FPNum U V kU kV rows (by omega) (by omega) R (by omega) h.rw) ?_
 refine zg16 ?_
 refine wl_unroll ?_
 refine zg7 ?_
 refine wl_condX (b:=_) rfl (by decide) ?_
 refine zg5 ?_
 refine wl_regD 9 (by decide +kernel) ?_
 refine zg3 ?_
 refine cp am1 (hNd0) ?_
 refine zg2 ?_
 refine cp am1 (hWd) ?_
 refine zg12 ?_
 refine wl_if rfl (fun h27r h27=>?_) (fun h27r h27=>?_)
 ·refine wl_regD 7 (by decide +kernel) ?_
  refine zg3 ?_
  refine cp am1 (hNv0) ?_
  refine zg2 ?_
  refine cp am1 (hWv) ?_
  refine zg9 ?_
  refine cp am2 (hA0) ?_
  refine zg9 ?_
  refine wl_regF 9 [7] (by decide +kernel) ?_
  refine zg4 ?_
  refine cp am2 (hB0) ?_
  refine zg12 ?_
  refine cp am2 (hS0) ?_
  refine zg5 ?_
  refine wl_regW ((((Weak.kill _ 12).trans (Weak.kill _ 10)).trans (Weak.kill _ 9)).trans (Weak.kill _ 8)) ?_
  refine zg5 ?_
  refine wl_unroll ?_
  refine zg7 ?_
  refine wl_condX (b:=_) rfl (by decide) ?_
  refine zg5 ?_
  refine wl_regD 9 (by decide +kernel) ?_
  refine zg3 ?_
  refine cp am1 (hNd1) ?_
  refine zg2 ?_
  refine cp am1 (hWd) ?_
  refine zg13 ?_
  refine wl_regD 7 (by decide +kernel) ?_
  refine zg3 ?_
  refine cp am1 (hNv1) ?_
  refine zg2 ?_
  refine cp am1 (hWv) ?_
  refine zg9 ?_
  refine cp am2 (hA1) ?_
  refine zg9 ?_
  refine wl_regF 9 [7] (by decide +kernel) ?_
  refine zg4 ?_
  refine cp am2 (hB1) ?_
  refine zg12 ?_
  refine cp am2 (hS1) ?_
  refine zg5 ?_
  refine wl_regW ((((Weak.kill _ 12).trans (Weak.kill _ 10)).trans (Weak.kill _ 9)).trans (Weak.kill _ 8)) ?_
  refine zg5 ?_
  refine wl_unroll ?_
  refine zg7 ?_
  refine wl_condX (b:=_) rfl (by decide) ?_
  refine zg5 ?_
  refine wl_regD 9 (by decide +kernel) ?_
  refine zg3 ?_
  refine cp am1 (hNd2) ?_
  refine zg2 ?_
  refine cp am1 (hWd) ?_
  refine zg13 ?_
  refine wl_regD 7 (by decide +kernel) ?_
  refine zg3 ?_
  refine cp am1 (hNv2) ?_
  refine zg2 ?_
  refine cp am1 (hWv) ?_
  refine zg9 ?_
  refine cp am2 (hA2) ?_
  refine zg9 ?_
  refine wl_regF 9 [7] (by decide +kernel) ?_
  refine zg4 ?_
  refine cp am2 (hB2) ?_
  refine zg12 ?_
  refine cp am2 (hS2) ?_
  refine zg5 ?_
  refine wl_regW ((((Weak.kill _ 12).trans (Weak.kill _ 10)).trans (Weak.kill _ 9)).trans (Weak.kill _ 8)) ?_
  refine zg5 ?_
  refine wl_unroll ?_
  refine zg7 ?_
  refine wl_condY (b:=_) rfl (by decide) ?_
  refine zg12 ?_
  exact retC [] rfl rfl rfl cs (at_all cs rfl) T106 (.pure (by simp [LV.pure,pures,pures_map ratE]))
 ·first | exact h27.elim | exact absurd rfl h27 | cases h27r
end Go.Proofs.YtfpdccbgngdhkaaGreat
end
section
set_option linter.unusedVariables false
set_option linter.unusedSimpArgs false
set_option maxHeartbeats 8000000
set_option maxRecDepth 100000
attribute [local irreducible] Go.Lg.opsL Go.Lg.wpL Go.Lg.thenL Go.Lg.blockL
namespace Go.Proofs.YtfpdccbgngdhkaaGreat
open Go.Lg
section
variable {R U V:Nat} {rows:List (List PoR)} (h:pf R U V rows)
include h
theorem pf.pos:0<rows.flatten.length:=by rw [h.len];exact Nat.mul_pos (Nat.succ_pos U) (Nat.succ_pos V)
theorem pf.wlo:0<(bndP (wtP rows.flatten)).1:=by
 have h0:0<(wtP rows.flatten).length:=by rw [wtP_len];exact h.pos
 obtain⟨i,hi,e⟩:=((bk_spec (wtP rows.flatten) (wtP rows.flatten).length).2 h0).1
 show 0<(bkP (wtP rows.flatten) (wtP rows.flatten).length).1
 rw [e]
 obtain⟨q,hq,hw⟩:=List.mem_map.1 (getD_mem (p:=wtP rows.flatten) hi)
 rw [←hw]
 exact(h.fok q hq).2.2
theorem pf.wsq:bdS (2*R) (sqS (bndP (wtP rows.flatten)))∧hasR (sqS (bndP (wtP rows.flatten))) 0=false:=by
 have h0:0<(wtP rows.flatten).length:=by rw [wtP_len];exact h.pos
 exact⟨sqS_bd (bnd_rl h.r1 h.wr) h.r1,(sq_pos h.wlo (bnd_le12 h0)).2⟩
end
def pdv (U V Ud Vd:Nat) (D:List Rat→List Rat) (F:List PoR) (wd x y:Rat):V3 :=
 v3m (1/(wd*(evT U V (wtP F) x y*evT U V (wtP F) x y))) ⟨evT (Ud+U) (Vd+V) (sgN U V Ud Vd D F 0) x y,evT (Ud+U) (Vd+V) (sgN U V Ud Vd D F 1) x y,evT (Ud+U) (Vd+V) (sgN U V Ud Vd D F 2) x y⟩
def psK (U V Ud Vd:Nat) (D:List Rat→List Rat) (F:List PoR) (wd:Rat) (k:Nat):Rat × Rat:=muS (quS (bndP (sgN U V Ud Vd D F k)) (sqS (bndP (wtP F)))) (1/wd,1/wd)
def psB (U V Ud Vd:Nat) (D:List Rat→List Rat) (F:List PoR) (wd:Rat):Bx3:=⟨psK U V Ud Vd D F wd 0,psK U V Ud Vd D F wd 1,psK U V Ud Vd D F wd 2⟩
def bxX (a b:Bx3):Bx3:=⟨sbS (muS a.y b.z) (muS a.z b.y),sbS (muS a.z b.x) (muS a.x b.z),sbS (muS a.x b.y) (muS a.y b.x)⟩
theorem dv_dv (a b:Rat):1/a/b=1/(b*a):=by
 rw [Rat.div_def,Rat.div_def,Rat.div_def,Rat.inv_mul_rev,Rat.one_mul,Rat.one_mul]
theorem rc_pt (w:Rat):rcS (w,w)=(1/w,1/w):=by
 unfold rcS mnR mxR
 simp only [ite_self]
theorem qu_pt (s:Rat × Rat) (w:Rat):quS s (w,w)=muS s (1/w,1/w):=by unfold quS;rw [rc_pt]
theorem pt_no0 {a b:Rat} (h:a<b):hasR (b-a,b-a) 0=false:=by
 unfold hasR
 rw [decide_eq_false (by show ¬(b-a≤0);grind)];rfl
theorem shX_of {x:Rat} (h:rl x≤8):shX x:=by
 have:=rl_sub 1 x
 have:rl 1=1:=rfl
 unfold shX
 omega
theorem sg_bnd {R U V Ud Vd:Nat} {rows:List (List PoR)} {D:List Rat→List Rat} (h:pf R U V rows) (hd:dfS U V Ud Vd D) (k:Nat):bdS (1800*R+4201) (bndP (sgN U V Ud Vd D rows.flatten k)):=bnd_rl (by omega) (sg_rl h hd k)
theorem psK_bd {R U V Ud Vd:Nat} {rows:List (List PoR)} {D:List Rat→List Rat} (h:pf R U V rows) (hd:dfS U V Ud Vd D) {wd:Rat} (hw:rl wd≤1000) (k:Nat) :
  bdS (1802*R+4202) (quS (bndP (sgN U V Ud Vd D rows.flatten k)) (sqS (bndP (wtP rows.flatten))))∧bdS 1001 (1/wd,1/wd)∧bdS (1802*R+5203) (psK U V Ud Vd D rows.flatten wd k):=by
 have h1:=quS_bd (sg_bnd h hd k) h.wsq.1
 have h2:=rl_div 1 wd
 have h3:rl 1=1:=rfl
 have h4:bdS 1001 (1/wd,1/wd):=⟨by show rl (1/wd)≤_;omega,by show rl (1/wd)≤_;omega⟩
 have h5:bdS (1802*R+4202) (quS (bndP (sgN U V Ud Vd D rows.flatten k)) (sqS (bndP (wtP rows.flatten)))):=h1.le (by omega)
 exact⟨h5,h4,(muS_bd h5 h4).le (by omega)⟩
theorem psB_bd {R U V Ud Vd:Nat} {rows:List (List PoR)} {D:List Rat→List Rat} (h:pf R U V rows) (hd:dfS U V Ud Vd D) {wd:Rat} (hw:rl wd≤1000):bdB (1802*R+5203) (psB U V Ud Vd D rows.flatten wd) :=
 ⟨(psK_bd h hd hw 0).2.2,(psK_bd h hd hw 1).2.2,(psK_bd h hd hw 2).2.2⟩
theorem bxX_bd {S:Nat} {a b:Bx3} (ha:bdB S a) (hb:bdB S b):bdB (4*S+1) (bxX a b):=by
 obtain⟨a1,a2,a3⟩:=ha
 obtain⟨b1,b2,b3⟩:=hb
 have g:∀ p q r s:Rat × Rat,bdS S p→bdS S q→bdS S r→bdS S s→bdS (4*S+1) (sbS (muS p q) (muS r s)):=fun p q r s h1 h2 h3 h4=>(sbS_bd (muS_bd h1 h2) (muS_bd h3 h4)).le (by omega)
 exact⟨g _ _ _ _ a2 b3 a3 b2,g _ _ _ _ a3 b1 a1 b3,g _ _ _ _ a1 b2 a2 b1⟩
structure pdS (Du Dv:Nat) (q:List Rat) (x y:Rat):Prop where
 hl:q.length=(Du+1)*(Dv+1)
 du:Du≤6
 dv:Dv≤6
 qr:∀ t∈q,rl t≤22201
 hx:shX x
 hy:shX y
theorem pdS.e {Du Dv:Nat} {q:List Rat} {x y:Rat} (h:pdS Du Dv q x y):rl (evT Du Dv q x y)≤91200000 :=
 Nat.le_trans (evT_sz h.hl h.du h.dv (by omega:1≤22201) (by omega) h.qr h.hx h.hy).2.2.2.2 (by decide)
theorem pdv_bd {R U V Ud Vd:Nat} {rows:List (List PoR)} {D:List Rat→List Rat} (h:pf R U V rows) (hd:dfS U V Ud Vd D) (hR:R≤10) {wd x y:Rat} (hw:rl wd≤1000) (hx:shX x) (hy:shX y) :
  rl (evT U V (wtP rows.flatten) x y)≤164000∧(∀ k,rl (evT (Ud+U) (Vd+V) (sgN U V Ud Vd D rows.flatten k) x y)≤91200000)∧bd3 100000000 (pdv U V Ud Vd D rows.flatten wd x y):=by
 have h1:rl (evT U V (wtP rows.flatten) x y)≤164000:=by
  have:=(evT_sz h.wl (by have:=h.u3;omega) (by have:=h.v3;omega) h.r1 (by omega) h.wr hx hy).2.2.2.2
  have:4100*(R+30)≤4100*40:=Nat.mul_le_mul_left _ (by omega)
  omega
 have hu:=hd.u
 have hv:=hd.v
 have hu3:=h.u3
 have hv3:=h.v3
 have h2:∀ k,rl (evT (Ud+U) (Vd+V) (sgN U V Ud Vd D rows.flatten k) x y)≤91200000:=fun k =>
  Nat.le_trans (evT_sz (R:=22201) (sg_len h hd k) (by omega) (by omega) (by omega) (by omega) (fun t ht=>by have:=sg_rl h hd k t ht;omega) hx hy).2.2.2.2 (by decide)
 refine⟨h1,h2,?_⟩
 have h3:=rl_mul (evT U V (wtP rows.flatten) x y) (evT U V (wtP rows.flatten) x y)
 have h4:=rl_mul wd (evT U V (wtP rows.flatten) x y*evT U V (wtP rows.flatten) x y)
 have h5:=rl_div 1 (wd*(evT U V (wtP rows.flatten) x y*evT U V (wtP rows.flatten) x y))
 have h6:rl 1=1:=rfl
 have g:∀ k,rl (1/(wd*(evT U V (wtP rows.flatten) x y*evT U V (wtP rows.flatten) x y))*evT (Ud+U) (Vd+V) (sgN U V Ud Vd D rows.flatten k) x y)≤100000000:=fun k=>by
  have:=rl_mul (1/(wd*(evT U V (wtP rows.flatten) x y*evT U V (wtP rows.flatten) x y))) (evT (Ud+U) (Vd+V) (sgN U V Ud Vd D rows.flatten k) x y)
  have:=h2 k
  omega
 exact⟨g 0,g 1,g 2⟩
theorem c_tE13 (Du Dv:Nat) (q:List Rat) (x y:Rat) (h:pdS Du Dv q x y):CallP Tryz.prog 66 [.agg [nI64 Du,nI64 Dv,.list 3 (q.map ratL)],ratL x,ratL y] (ratL (evT Du Dv q x y)):=by
 obtain⟨s1,s2,_⟩:=evT_sz h.hl h.du h.dv (by omega:1≤22201) (by omega) h.qr h.hx h.hy
 have h49:(Du+1)*(Dv+1)≤49:=sq_le h.du h.dv
 exact c_TEval Du Dv q h.hl (by rw [h.hl];omega) (fun t ht=>by have:=h.qr t ht;omega) x y s1 s2
theorem c_fE13 (Du Dv:Nat) (q:List Rat) (x y:Rat) (h:pdS Du Dv q x y):CallP Tryz.prog 100 [.agg [nI64 Du,nI64 Dv,.list 3 (q.map ratL)],ratL x,ratL y] (ratL (evT Du Dv q x y)):=by
 obtain⟨_,_,s1,s2,_⟩:=evT_sz h.hl h.du h.dv (by omega:1≤22201) (by omega) h.qr h.hx h.hy
 have h49:(Du+1)*(Dv+1)≤49:=sq_le h.du h.dv
 have:=c_fEval7 Du Dv q h.hl (by rw [h.hl];omega) x y s1 s2
 rwa [evT_swap h.hl] at this
namespace H_c_at13
theorem zSm {p q:Prop} (k:q) (e:p=q:=by simp only [e1,e2,e3,e4,p1,p2,p3,q1,q2,q3,l1,t0,t1,r1,r2,r3,r4,Nat.zero_add,Nat.reduceMul,Nat.reduceAdd,b1,b2,b3,b4,b5,b6,i1,i2,i3,i4,i5,i6,Nat.reduceBEq,prL_kill,kills_map prE,dfr,dfq,take_map_len,map_snoc,len_snoc,List.length_cons,List.length_nil,List.nil_append,List.map_nil,List.take_nil,List.append_nil,List.set_cons_zero,List.set_cons_succ,Nat.reduceEqDiff,reduceIte,if_true,if_false,ptL_kill,poL_kill,kills_map ptE,kills_map poE,kills_map ratE,ratL_kill,spL_kill,LV.kill,kills];exact rfl):p:=e.mpr k
end H_c_at13
open H_c_at13 in
theorem c_at13 (Du Dv:Nat) (ql0 ql1 ql2:List Rat) (wd W x y:Rat) (h0:pdS Du Dv ql0 x y) (h1:pdS Du Dv ql1 x y) (h2:pdS Du Dv ql2 x y) (hw:rl wd≤1000) (hW:rl W≤200000):CallP Tryz.prog 67 [.agg [.agg [nI64 Du,nI64 Dv,.list 3 (ql0.map ratL)],.agg [nI64 Du,nI64 Dv,.list 3 (ql1.map ratL)],.agg [nI64 Du,nI64 Dv,.list 3 (ql2.map ratL)]],ratL wd,.boxp (ratL W),.boxp (ratL x),.boxp (ratL y)] (ptL (v3m (1/(wd*(W*W))) ⟨(evT Du Dv ql0 x y),(evT Du Dv ql1 x y),(evT Du Dv ql2 x y)⟩)):=by
 have hpu:∀ l:List Rat,pures (l.map ratL)=true:=fun l=>pures_map ratE l
 have hpq0:=net_pureN Du Dv ql0
 have hpq1:=net_pureN Du Dv ql1
 have hpq2:=net_pureN Du Dv ql2
 have he0:=h0.e
 have he1:=h1.e
 have he2:=h2.e
 have hp3:LV.pure (.agg [.agg [nI64 Du,nI64 Dv,.list 3 (ql0.map ratL)],.agg [nI64 Du,nI64 Dv,.list 3 (ql1.map ratL)],.agg [nI64 Du,nI64 Dv,.list 3 (ql2.map ratL)]])=true:=by simp [LV.pure,pures,pures_map ratE]
 have m1:=rl_mul W W
 have m2:=rl_mul wd (W*W)
 have m3:=rl_div 1 (wd*(W*W))
 have hr1:rl 1=1:=rfl
 refine fnP Tryz.func67 (ht:=(fun r=>LV.ren_pure r _ (ptE.pure _))) ?_
 refine zg8 ?_
 refine wl_regF 11 [9] (by decide +kernel) ?_
 refine cp am1 (c_RInt 1 (by decide) (by decide)) ?_
 refine zg3 ?_
 refine cp am2 (c_RMul W W (by omega)) ?_
 refine cp am2 (c_RMul wd (W*W) (by omega)) ?_
 refine cp am2 (c_RQuo 1 (wd*(W*W)) (by omega)) ?_
 refine zg21 ?_
 refine wl_unroll ?_
 refine zg6 ?_
 refine wl_condX (b:=_) rfl (by decide) ?_
 refine zg13 ?_
 refine wl_regD 8 (by decide +kernel) ?_
 refine zg5 ?_
 refine cp am3 (c_tE13 Du Dv ql0 x y h0) ?_
 refine cp am2 (c_RMul (1/(wd*(W*W))) (evT Du Dv ql0 x y) (by omega)) ?_
 refine zg5 ?_
 refine wl_regW (Weak.kill _ 12) ?_
 refine zg4 ?_
 refine wl_unroll ?_
 refine zg6 ?_
 refine wl_condX (b:=_) rfl (by decide) ?_
 refine zg13 ?_
 refine wl_regD 8 (by decide +kernel) ?_
 refine zg5 ?_
 refine cp am3 (c_tE13 Du Dv ql1 x y h1) ?_
 refine cp am2 (c_RMul (1/(wd*(W*W))) (evT Du Dv ql1 x y) (by omega)) ?_
 refine zg5 ?_
 refine wl_regW (Weak.kill _ 12) ?_
 refine zg4 ?_
 refine wl_unroll ?_
 refine zg6 ?_
 refine wl_condX (b:=_) rfl (by decide) ?_
 refine zg13 ?_
 refine wl_regD 8 (by decide +kernel) ?_
 refine zg5 ?_
 refine cp am3 (c_tE13 Du Dv ql2 x y h2) ?_
 refine cp am2 (c_RMul (1/(wd*(W*W))) (evT Du Dv ql2 x y) (by omega)) ?_
 refine zg5 ?_
 refine wl_regW (Weak.kill _ 12) ?_
 refine zg4 ?_
 refine wl_unroll ?_
 refine zg6 ?_
 refine wl_condY (b:=_) rfl (by decide) ?_
 refine zg12 ?_
 exact retC [] rfl rfl rfl cs (at_all cs rfl) T31 (.pure pu)
namespace H_c_dir13
theorem zSm {p q:Prop} (k:q) (e:p=q:=by simp only [e1,e2,e3,e4,p1,p2,p3,q1,q2,q3,l1,t0,t1,r1,r2,r3,r4,Nat.zero_add,Nat.reduceMul,Nat.reduceAdd,b1,b2,b3,b4,b5,b6,i1,i2,i3,i4,i5,i6,Nat.reduceBEq,prL_kill,kills_map prE,dfr,dfq,take_map_len,map_snoc,len_snoc,List.length_cons,List.length_nil,List.nil_append,List.map_nil,List.take_nil,List.append_nil,List.set_cons_zero,List.set_cons_succ,Nat.reduceEqDiff,reduceIte,if_true,if_false,ptL_kill,poL_kill,kills_map ptE,kills_map poE,kills_map ratE,ratL_kill,spL_kill,LV.kill,kills];exact rfl):p:=e.mpr k
end H_c_dir13
open H_c_dir13 in
theorem c_dir13 (Du Dv:Nat) (ql0 ql1 ql2:List Rat) (wd x y:Rat) (h0:pdS Du Dv ql0 x y) (h1:pdS Du Dv ql1 x y) (h2:pdS Du Dv ql2 x y) (hw:rl wd≤1000000):CallP Tryz.prog 101 [.agg [.agg [nI64 Du,nI64 Dv,.list 3 (ql0.map ratL)],.agg [nI64 Du,nI64 Dv,.list 3 (ql1.map ratL)],.agg [nI64 Du,nI64 Dv,.list 3 (ql2.map ratL)]],ratL x,ratL y,ratL wd] (ptL (v3m wd ⟨(evT Du Dv ql0 x y),(evT Du Dv ql1 x y),(evT Du Dv ql2 x y)⟩)):=by
 have hpu:∀ l:List Rat,pures (l.map ratL)=true:=fun l=>pures_map ratE l
 have hpq0:=net_pureN Du Dv ql0
 have hpq1:=net_pureN Du Dv ql1
 have hpq2:=net_pureN Du Dv ql2
 have he0:=h0.e
 have he1:=h1.e
 have he2:=h2.e
 have hp3:LV.pure (.agg [.agg [nI64 Du,nI64 Dv,.list 3 (ql0.map ratL)],.agg [nI64 Du,nI64 Dv,.list 3 (ql1.map ratL)],.agg [nI64 Du,nI64 Dv,.list 3 (ql2.map ratL)]])=true:=by simp [LV.pure,pures,pures_map ratE]
 refine fnP Tryz.func101 (ht:=(fun r=>LV.ren_pure r _ (ptE.pure _))) ?_
 refine zg21 ?_
 refine wl_unroll ?_
 refine zg7 ?_
 refine wl_condX (b:=_) rfl (by decide) ?_
 refine zg4 ?_
 refine wl_regD 10 (by decide +kernel) ?_
 refine zg7 ?_
 refine cp am3 (c_fE13 Du Dv ql0 x y h0) ?_
 refine cp am2 (c_FRMul wd (evT Du Dv ql0 x y) (by omega)) ?_
 refine zg11 ?_
 refine wl_unroll ?_
 refine zg7 ?_
 refine wl_condX (b:=_) rfl (by decide) ?_
 refine zg4 ?_
 refine wl_regD 10 (by decide +kernel) ?_
 refine zg7 ?_
 refine cp am3 (c_fE13 Du Dv ql1 x y h1) ?_
 refine cp am2 (c_FRMul wd (evT Du Dv ql1 x y) (by omega)) ?_
 refine zg11 ?_
 refine wl_unroll ?_
 refine zg7 ?_
 refine wl_condX (b:=_) rfl (by decide) ?_
 refine zg4 ?_
 refine wl_regD 10 (by decide +kernel) ?_
 refine zg7 ?_
 refine cp am3 (c_fE13 Du Dv ql2 x y h2) ?_
 refine cp am2 (c_FRMul wd (evT Du Dv ql2 x y) (by omega)) ?_
 refine zg11 ?_
 refine wl_unroll ?_
 refine zg7 ?_
 refine wl_condY (b:=_) rfl (by decide) ?_
 refine zg12 ?_
 exact retC [] rfl rfl rfl cs (at_all cs rfl) T31 (.pure pu)
namespace H_c_PDer
theorem zSm {p q:Prop} (k:q) (e:p=q:=by simp only [e1,e2,e3,e4,p1,p2,p3,q1,q2,q3,l1,t0,t1,r1,r2,r3,r4,Nat.zero_add,Nat.reduceMul,Nat.reduceAdd,b1,b2,b3,b4,b5,b6,i1,i2,i3,i4,i5,i6,Nat.reduceBEq,frz_nil,prL_kill,kills_map prE,dfr,dfq,take_map_len,map_snoc,len_snoc,List.length_cons,List.length_nil,List.nil_append,List.map_nil,List.take_nil,List.append_nil,List.set_cons_zero,List.set_cons_succ,Nat.reduceEqDiff,reduceIte,if_true,if_false,ptL_kill,poL_kill,kills_map ptE,kills_map poE,kills_map ratE,ratL_kill,spL_kill,LV.kill,kills];exact rfl):p:=e.mpr k
end H_c_PDer
open H_c_PDer in
theorem c_PDer (R U V:Nat) (ua ub va vb:Rat) (rows:List (List PoR)) (h:pf R U V rows) (hua:rl ua≤100) (hub:rl ub≤100) (hva:rl va≤100) (hvb:rl vb≤100) (hu:ua<ub) (hv:va<vb) (u v x y:Rat) (hu1:rl u≤100) (hv1:rl v≤100) (hx:shX x) (hy:shX y) (ex:(u-ua)/(ub-ua)=x) (ey:(v-va)/(vb-va)=y) (hR:R≤10) (hUi:hasR (ua,ub) u=true) (hVi:hasR (va,vb) v=true):CallP Tryz.prog 16 [.agg [nI64 U,nI64 V,.list 3 ((kn2 U ua ub).map ratL),.list 3 ((kn2 V va vb).map ratL),.list 1 (rows.map prL)],ratL u,ratL v] (.tup [ptL (pdv U V (U-1) V (dfU U V) rows.flatten (ub-ua) x y),ptL (pdv U V U (V-1) (dfV U V) rows.flatten (vb-va) x y),iL 0]):=by
 have hpu:∀ l:List Rat,pures (l.map ratL)=true:=fun l=>pures_map ratE l
 have hsp:LV.pure (.agg [nI64 U,nI64 V,.list 3 ((kn2 U ua ub).map ratL),.list 3 ((kn2 V va vb).map ratL),.list 1 (rows.map prL)])=true:=by simp [LV.pure,pures,pures_map ratE,pures_map prE]
 have hku:=pure_lst ratE 3 (kn2 U ua ub)
 have hkv:=pure_lst ratE 3 (kn2 V va vb)
 have hu3:=h.u3
 have hv3:=h.v3
 have hr1:=h.r1
 have hwd1:=rl_sub ub ua
 have hwd2:=rl_sub vb va
 have hdu:dfS U V (U-1) V (dfU U V):=dfS_U h.u3 h.v3
 have hdv:dfS U V U (V-1) (dfV U V):=dfS_V h.u3 h.v3
 have hqU0:pdS ((U-1)+U) (V+V) (sgN U V (U-1) V (dfU U V) rows.flatten 0) x y:=⟨sg_len h hdu 0,by omega,by omega,fun t ht=>by have:=sg_rl h hdu 0 t ht;omega,hx,hy⟩
 have hqU1:pdS ((U-1)+U) (V+V) (sgN U V (U-1) V (dfU U V) rows.flatten 1) x y:=⟨sg_len h hdu 1,by omega,by omega,fun t ht=>by have:=sg_rl h hdu 1 t ht;omega,hx,hy⟩
 have hqU2:pdS ((U-1)+U) (V+V) (sgN U V (U-1) V (dfU U V) rows.flatten 2) x y:=⟨sg_len h hdu 2,by omega,by omega,fun t ht=>by have:=sg_rl h hdu 2 t ht;omega,hx,hy⟩
 have hqV0:pdS (U+U) ((V-1)+V) (sgN U V U (V-1) (dfV U V) rows.flatten 0) x y:=⟨sg_len h hdv 0,by omega,by omega,fun t ht=>by have:=sg_rl h hdv 0 t ht;omega,hx,hy⟩
 have hqV1:pdS (U+U) ((V-1)+V) (sgN U V U (V-1) (dfV U V) rows.flatten 1) x y:=⟨sg_len h hdv 1,by omega,by omega,fun t ht=>by have:=sg_rl h hdv 1 t ht;omega,hx,hy⟩
 have hqV2:pdS (U+U) ((V-1)+V) (sgN U V U (V-1) (dfV U V) rows.flatten 2) x y:=⟨sg_len h hdv 2,by omega,by omega,fun t ht=>by have:=sg_rl h hdv 2 t ht;omega,hx,hy⟩
 have hpU:LV.pure (.agg [.agg [nI64 ((U-1)+U),nI64 (V+V),.list 3 ((sgN U V (U-1) V (dfU U V) rows.flatten 0).map ratL)],.agg [nI64 ((U-1)+U),nI64 (V+V),.list 3 ((sgN U V (U-1) V (dfU U V) rows.flatten 1).map ratL)],.agg [nI64 ((U-1)+U),nI64 (V+V),.list 3 ((sgN U V (U-1) V (dfU U V) rows.flatten 2).map ratL)]])=true:=by simp [LV.pure,pures,pures_map ratE]
 obtain⟨hWU,hEU,hBU⟩:=pdv_bd h hdu hR (wd:=(ub-ua)) (by omega) hx hy
 have hpV:LV.pure (.agg [.agg [nI64 (U+U),nI64 ((V-1)+V),.list 3 ((sgN U V U (V-1) (dfV U V) rows.flatten 0).map ratL)],.agg [nI64 (U+U),nI64 ((V-1)+V),.list 3 ((sgN U V U (V-1) (dfV U V) rows.flatten 1).map ratL)],.agg [nI64 (U+U),nI64 ((V-1)+V),.list 3 ((sgN U V U (V-1) (dfV U V) rows.flatten 2).map ratL)]])=true:=by simp [LV.pure,pures,pures_map ratE]
 obtain⟨hWV,hEV,hBV⟩:=pdv_bd h hdv hR (wd:=(vb-va)) (by omega) hx hy
 have hqW:pdS U V (wtP rows.flatten) x y:=⟨h.wl,by omega,by omega,fun t ht=>by have:=h.wr t ht;omega,hx,hy⟩
 have hpW:=net_pureN U V (wtP rows.flatten)
 have hO1:=c_Pown ua ub u hua hub hu hu1 hUi
 have hO2:=c_Pown va vb v hva hvb hv hv1 hVi
 rw [ex] at hO1
 rw [ey] at hO2
 have hbp:pures [.boxp (ratL (evT U V (wtP rows.flatten) x y)),.boxp (ratL x),.boxp (ratL y)]=true:=by simp [pures,LV.pure,ratE.pure]
 have hAU:=c_at13 ((U-1)+U) (V+V) (sgN U V (U-1) V (dfU U V) rows.flatten 0) (sgN U V (U-1) V (dfU U V) rows.flatten 1) (sgN U V (U-1) V (dfU U V) rows.flatten 2) (ub-ua) (evT U V (wtP rows.flatten) x y) x y hqU0 hqU1 hqU2 (by omega) (by omega)
 have hTU:=c_turns13 R U V (U-1) V (kn2 U ua ub) (kn2 V va vb) rows h (by omega) (dfU U V) hdu 72 (fun c hc hr=>c_DiffU U V c hc (by rw [hc];have:=sq_le3 hu3 hv3;omega) (fun t ht=>by have:=hr t ht;omega) (by omega))
 have hAV:=c_at13 (U+U) ((V-1)+V) (sgN U V U (V-1) (dfV U V) rows.flatten 0) (sgN U V U (V-1) (dfV U V) rows.flatten 1) (sgN U V U (V-1) (dfV U V) rows.flatten 2) (vb-va) (evT U V (wtP rows.flatten) x y) x y hqV0 hqV1 hqV2 (by omega) (by omega)
 have hTV:=c_turns13 R U V U (V-1) (kn2 U ua ub) (kn2 V va vb) rows h (by omega) (dfV U V) hdv 73 (fun c hc hr=>c_DiffV U V c hc (by rw [hc];have:=sq_le3 hu3 hv3;omega) (fun t ht=>by have:=hr t ht;omega) (by omega))
 refine fnP Tryz.func16 (ht:=(tame3 (ptE.pure _) (ptE.pure _) rfl)) ?_
 refine zg13 ?_
 refine cp am1 (c_PDom U V ua ub va vb rows hua hub hva hvb hu hv (by omega) (by omega)) ?_
 refine zg13 ?_
 refine cp am2 (hO1) ?_
 refine zg15 ?_
 refine cp am2 (hO2) ?_
 refine zg17 ?_
 refine st_pure (guardX (v:=false) rfl rfl ((rfl)) rfl) (.move _) ?_
 refine st_pure (guardX (v:=false) rfl rfl ((rfl)) rfl) (.not rfl) ?_
 refine st_pure rfl (.pickF rfl ((rfl))) ?_
 refine zg2 ?_
 refine wl_condY (b:=_) rfl (rfl) ?_
 refine zg3 ?_
 refine wl_regD 7 (by decide +kernel) ?_
 refine zg1 ?_
 refine cp am1 (c_PNum U V (kn2 U ua ub) (kn2 V va vb) rows (by omega) (by omega) R (by omega) h.rw) ?_
 refine zg3 ?_
 refine cp am3 (c_tE13 U V (wtP rows.flatten) x y hqW) ?_
 refine zg6 ?_
 refine st_opc [17,11,14] rfl rfl (.mk (caps:=[.boxp (ratL (evT U V (wtP rows.flatten) x y)),.boxp (ratL x),.boxp (ratL y)]) (.cons (.eptr rfl rfl rfl (ratE.csize _) (ratL_all _) (ratE.pure _) rfl) (.cons (.eptr rfl rfl rfl (ratE.csize _) (ratL_all _) (ratE.pure _) rfl) (.cons (.eptr rfl rfl rfl (ratE.csize _) (ratL_all _) (ratE.pure _) rfl) .nil))) (fun x hx=>by simp only [List.mem_cons,List.not_mem_nil,or_false] at hx;rcases hx with rfl | rfl | rfl<;>exact⟨rfl,rfl⟩)) rfl ?_
 refine zg4 ?_
 refine wl_regD 10 (by decide +kernel) ?_
 refine zg2 ?_
 refine cp am2 (hTU) ?_
 refine zg1 ?_
 refine st_opc [] rfl rfl (.clo (f:=67) (cap:=[.boxp (ratL (evT U V (wtP rows.flatten) x y)),.boxp (ratL x),.boxp (ratL y)]) (args:=[.agg [.agg [nI64 ((U-1)+U),nI64 (V+V),.list 3 ((sgN U V (U-1) V (dfU U V) rows.flatten 0).map ratL)],.agg [nI64 ((U-1)+U),nI64 (V+V),.list 3 ((sgN U V (U-1) V (dfU U V) rows.flatten 1).map ratL)],.agg [nI64 ((U-1)+U),nI64 (V+V),.list 3 ((sgN U V (U-1) V (dfU U V) rows.flatten 2).map ratL)]],ratL (ub-ua)]) rfl (.cons im0 (.cons im0 .nil)) ⟨hbp,(fun x hx=>by simp only [List.mem_cons,List.not_mem_nil,or_false] at hx;rcases hx with rfl | rfl | rfl<;>exact⟨rfl,rfl⟩)⟩ hAU.1 (by decide) (fun _ h=>by cases h)) (hAU.2 _) ?_
 refine zg2 ?_
 refine cp am2 (hTV) ?_
 refine zg1 ?_
 refine st_opc [] rfl rfl (.clo (f:=67) (cap:=[.boxp (ratL (evT U V (wtP rows.flatten) x y)),.boxp (ratL x),.boxp (ratL y)]) (args:=[.agg [.agg [nI64 (U+U),nI64 ((V-1)+V),.list 3 ((sgN U V U (V-1) (dfV U V) rows.flatten 0).map ratL)],.agg [nI64 (U+U),nI64 ((V-1)+V),.list 3 ((sgN U V U (V-1) (dfV U V) rows.flatten 1).map ratL)],.agg [nI64 (U+U),nI64 ((V-1)+V),.list 3 ((sgN U V U (V-1) (dfV U V) rows.flatten 2).map ratL)]],ratL (vb-va)]) rfl (.cons im0 (.cons im0 .nil)) ⟨hbp,(fun x hx=>by simp only [List.mem_cons,List.not_mem_nil,or_false] at hx;rcases hx with rfl | rfl | rfl<;>exact⟨rfl,rfl⟩)⟩ hAV.1 (by decide) (fun _ h=>by cases h)) (hAV.2 _) ?_
 refine zg6 ?_
 exact retCCT [] rfl rfl rfl cs (at_all cs rfl) T31 (.pure pu) rfl rfl cs (at_all cs rfl) T31 (.pure pu) rfl (.pure rfl)
namespace H_c_PDerE
theorem zSm {p q:Prop} (k:q) (e:p=q:=by simp only [e1,e2,e3,e4,p1,p2,p3,q1,q2,q3,l1,t0,t1,r1,r2,r3,r4,Nat.zero_add,Nat.reduceMul,Nat.reduceAdd,b1,b2,b3,b4,b5,b6,i1,i2,i3,i4,i5,i6,Nat.reduceBEq,frz_nil,prL_kill,kills_map prE,dfr,dfq,take_map_len,map_snoc,len_snoc,List.length_cons,List.length_nil,List.nil_append,List.map_nil,List.take_nil,List.append_nil,List.set_cons_zero,List.set_cons_succ,Nat.reduceEqDiff,reduceIte,if_true,if_false,ptL_kill,poL_kill,kills_map ptE,kills_map poE,kills_map ratE,ratL_kill,spL_kill,LV.kill,kills];exact rfl):p:=e.mpr k
end H_c_PDerE
open H_c_PDerE in
theorem c_PDerE (R U V:Nat) (ua ub va vb:Rat) (rows:List (List PoR)) (h:pf R U V rows) (hua:rl ua≤100) (hub:rl ub≤100) (hva:rl va≤100) (hvb:rl vb≤100) (hu:ua<ub) (hv:va<vb) (u v:Rat) (hu1:rl u≤100) (hv1:rl v≤100) (hUi:hasR (ua,ub) u=true) (hVi:hasR (va,vb) v=false):CallP Tryz.prog 16 [.agg [nI64 U,nI64 V,.list 3 ((kn2 U ua ub).map ratL),.list 3 ((kn2 V va vb).map ratL),.list 1 (rows.map prL)],ratL u,ratL v] (.tup [ptL ⟨0,0,0⟩,ptL ⟨0,0,0⟩,iL 7]):=by
 have hpu:∀ l:List Rat,pures (l.map ratL)=true:=fun l=>pures_map ratE l
 have hsp:LV.pure (.agg [nI64 U,nI64 V,.list 3 ((kn2 U ua ub).map ratL),.list 3 ((kn2 V va vb).map ratL),.list 1 (rows.map prL)])=true:=by simp [LV.pure,pures,pures_map ratE,pures_map prE]
 have hku:=pure_lst ratE 3 (kn2 U ua ub)
 have hkv:=pure_lst ratE 3 (kn2 V va vb)
 have hu3:=h.u3
 have hv3:=h.v3
 have hr1:=h.r1
 have hwd1:=rl_sub ub ua
 have hwd2:=rl_sub vb va
 have hdu:dfS U V (U-1) V (dfU U V):=dfS_U h.u3 h.v3
 have hdv:dfS U V U (V-1) (dfV U V):=dfS_V h.u3 h.v3
 have hO1:=c_Pown ua ub u hua hub hu hu1 hUi
 have hO2:=c_PownN va vb v hva hvb hv hv1 hVi
 refine fnP Tryz.func16 (ht:=(tame3 (ptE.pure _) (ptE.pure _) rfl)) ?_
 refine zg13 ?_
 refine cp am1 (c_PDom U V ua ub va vb rows hua hub hva hvb hu hv (by omega) (by omega)) ?_
 refine zg13 ?_
 refine cp am2 (hO1) ?_
 refine zg15 ?_
 refine cp am2 (hO2) ?_
 refine zg17 ?_
 refine st_pure (guardX (v:=false) rfl rfl ((rfl)) rfl) (.move _) ?_
 refine st_pure (guardX (v:=false) rfl rfl ((rfl)) rfl) (.not rfl) ?_
 refine st_pure rfl (.pickF rfl ((rfl))) ?_
 refine zg2 ?_
 refine wl_condX (b:=_) rfl (rfl) ?_
 refine zg2 ?_
 refine s0bd bdP0 ?_
 refine s0bd bdP0 ?_
 refine zg7 ?_
 exact retCCT [] rfl rfl rfl cs (at_all cs rfl) T31 (.pure pu) rfl rfl cs (at_all cs rfl) T31 (.pure pu) rfl (.pure rfl)
namespace H_c_FPDer
theorem zSm {p q:Prop} (k:q) (e:p=q:=by simp only [e1,e2,e3,e4,p1,p2,p3,q1,q2,q3,l1,t0,t1,r1,r2,r3,r4,Nat.zero_add,Nat.reduceMul,Nat.reduceAdd,b1,b2,b3,b4,b5,b6,i1,i2,i3,i4,i5,i6,Nat.reduceBEq,frz_nil,prL_kill,kills_map prE,dfr,dfq,take_map_len,map_snoc,len_snoc,List.length_cons,List.length_nil,List.nil_append,List.map_nil,List.take_nil,List.append_nil,List.set_cons_zero,List.set_cons_succ,Nat.reduceEqDiff,reduceIte,if_true,if_false,ptL_kill,poL_kill,kills_map ptE,kills_map poE,kills_map ratE,ratL_kill,spL_kill,LV.kill,kills];exact rfl):p:=e.mpr k
end H_c_FPDer
open H_c_FPDer in
theorem c_FPDer (R U V:Nat) (ua ub va vb:Rat) (rows:List (List PoR)) (h:pf R U V rows) (hua:rl ua≤100) (hub:rl ub≤100) (hva:rl va≤100) (hvb:rl vb≤100) (hu:ua<ub) (hv:va<vb) (u v x y:Rat) (hu1:rl u≤100) (hv1:rl v≤100) (hx:shX x) (hy:shX y) (ex:(u-ua)/(ub-ua)=x) (ey:(v-va)/(vb-va)=y) (hR:R≤10) (hUi:hasR (ua,ub) u=true) (hVi:hasR (va,vb) v=true):CallP Tryz.prog 38 [.agg [nI64 U,nI64 V,.list 3 ((kn2 U ua ub).map ratL),.list 3 ((kn2 V va vb).map ratL),.list 1 (rows.map prL)],ratL u,ratL v] (.tup [ptL (pdv U V (U-1) V (dfU U V) rows.flatten (ub-ua) x y),ptL (pdv U V U (V-1) (dfV U V) rows.flatten (vb-va) x y),iL 0]):=by
 have hpu:∀ l:List Rat,pures (l.map ratL)=true:=fun l=>pures_map ratE l
 have hsp:LV.pure (.agg [nI64 U,nI64 V,.list 3 ((kn2 U ua ub).map ratL),.list 3 ((kn2 V va vb).map ratL),.list 1 (rows.map prL)])=true:=by simp [LV.pure,pures,pures_map ratE,pures_map prE]
 have hku:=pure_lst ratE 3 (kn2 U ua ub)
 have hkv:=pure_lst ratE 3 (kn2 V va vb)
 have hu3:=h.u3
 have hv3:=h.v3
 have hr1:=h.r1
 have hwd1:=rl_sub ub ua
 have hwd2:=rl_sub vb va
 have hdu:dfS U V (U-1) V (dfU U V):=dfS_U h.u3 h.v3
 have hdv:dfS U V U (V-1) (dfV U V):=dfS_V h.u3 h.v3
 have hqU0:pdS ((U-1)+U) (V+V) (sgN U V (U-1) V (dfU U V) rows.flatten 0) x y:=⟨sg_len h hdu 0,by omega,by omega,fun t ht=>by have:=sg_rl h hdu 0 t ht;omega,hx,hy⟩
 have hqU1:pdS ((U-1)+U) (V+V) (sgN U V (U-1) V (dfU U V) rows.flatten 1) x y:=⟨sg_len h hdu 1,by omega,by omega,fun t ht=>by have:=sg_rl h hdu 1 t ht;omega,hx,hy⟩
 have hqU2:pdS ((U-1)+U) (V+V) (sgN U V (U-1) V (dfU U V) rows.flatten 2) x y:=⟨sg_len h hdu 2,by omega,by omega,fun t ht=>by have:=sg_rl h hdu 2 t ht;omega,hx,hy⟩
 have hqV0:pdS (U+U) ((V-1)+V) (sgN U V U (V-1) (dfV U V) rows.flatten 0) x y:=⟨sg_len h hdv 0,by omega,by omega,fun t ht=>by have:=sg_rl h hdv 0 t ht;omega,hx,hy⟩
 have hqV1:pdS (U+U) ((V-1)+V) (sgN U V U (V-1) (dfV U V) rows.flatten 1) x y:=⟨sg_len h hdv 1,by omega,by omega,fun t ht=>by have:=sg_rl h hdv 1 t ht;omega,hx,hy⟩
 have hqV2:pdS (U+U) ((V-1)+V) (sgN U V U (V-1) (dfV U V) rows.flatten 2) x y:=⟨sg_len h hdv 2,by omega,by omega,fun t ht=>by have:=sg_rl h hdv 2 t ht;omega,hx,hy⟩
 have hpU:LV.pure (.agg [.agg [nI64 ((U-1)+U),nI64 (V+V),.list 3 ((sgN U V (U-1) V (dfU U V) rows.flatten 0).map ratL)],.agg [nI64 ((U-1)+U),nI64 (V+V),.list 3 ((sgN U V (U-1) V (dfU U V) rows.flatten 1).map ratL)],.agg [nI64 ((U-1)+U),nI64 (V+V),.list 3 ((sgN U V (U-1) V (dfU U V) rows.flatten 2).map ratL)]])=true:=by simp [LV.pure,pures,pures_map ratE]
 obtain⟨hWU,hEU,hBU⟩:=pdv_bd h hdu hR (wd:=(ub-ua)) (by omega) hx hy
 have hpV:LV.pure (.agg [.agg [nI64 (U+U),nI64 ((V-1)+V),.list 3 ((sgN U V U (V-1) (dfV U V) rows.flatten 0).map ratL)],.agg [nI64 (U+U),nI64 ((V-1)+V),.list 3 ((sgN U V U (V-1) (dfV U V) rows.flatten 1).map ratL)],.agg [nI64 (U+U),nI64 ((V-1)+V),.list 3 ((sgN U V U (V-1) (dfV U V) rows.flatten 2).map ratL)]])=true:=by simp [LV.pure,pures,pures_map ratE]
 obtain⟨hWV,hEV,hBV⟩:=pdv_bd h hdv hR (wd:=(vb-va)) (by omega) hx hy
 have hqW:pdS U V (wtP rows.flatten) x y:=⟨h.wl,by omega,by omega,fun t ht=>by have:=h.wr t ht;omega,hx,hy⟩
 have hpW:=net_pureN U V (wtP rows.flatten)
 have hFU:CallP Tryz.prog 98 [spL (ua,ub),ratL u] (bL true):=by
  have:=c_FHas (ua,ub) u (by show rl ua+rl u≤_;omega) (by show rl u+rl ub≤_;omega)
  rwa [hUi] at this
 have hFV:CallP Tryz.prog 98 [spL (va,vb),ratL v] (bL true):=by
  have:=c_FHas (va,vb) v (by show rl va+rl v≤_;omega) (by show rl v+rl vb≤_;omega)
  rwa [hVi] at this
 have hO1:=c_FPown ua ub u hua hub hu hu1
 have hO2:=c_FPown va vb v hva hvb hv hv1
 rw [ex] at hO1
 rw [ey] at hO2
 have hq1:rl 1=1:=rfl
 have m1:=rl_mul (evT U V (wtP rows.flatten) x y) (evT U V (wtP rows.flatten) x y)
 have m2:=rl_div 1 ((evT U V (wtP rows.flatten) x y)*(evT U V (wtP rows.flatten) x y))
 have m3U:=rl_div (1/((evT U V (wtP rows.flatten) x y)*(evT U V (wtP rows.flatten) x y))) (ub-ua)
 have hAU:=c_dir13 ((U-1)+U) (V+V) (sgN U V (U-1) V (dfU U V) rows.flatten 0) (sgN U V (U-1) V (dfU U V) rows.flatten 1) (sgN U V (U-1) V (dfU U V) rows.flatten 2) ((1/((evT U V (wtP rows.flatten) x y)*(evT U V (wtP rows.flatten) x y)))/(ub-ua)) x y hqU0 hqU1 hqU2 (by omega)
 rw [dv_dv] at hAU
 have hTU:=c_slopes13U R U V (kn2 U ua ub) (kn2 V va vb) rows h (by omega)
 have hOvU:=c_FOver (1/((evT U V (wtP rows.flatten) x y)*(evT U V (wtP rows.flatten) x y))) (ub-ua) (by omega)
 rw [dv_dv] at hOvU
 have m3V:=rl_div (1/((evT U V (wtP rows.flatten) x y)*(evT U V (wtP rows.flatten) x y))) (vb-va)
 have hAV:=c_dir13 (U+U) ((V-1)+V) (sgN U V U (V-1) (dfV U V) rows.flatten 0) (sgN U V U (V-1) (dfV U V) rows.flatten 1) (sgN U V U (V-1) (dfV U V) rows.flatten 2) ((1/((evT U V (wtP rows.flatten) x y)*(evT U V (wtP rows.flatten) x y)))/(vb-va)) x y hqV0 hqV1 hqV2 (by omega)
 rw [dv_dv] at hAV
 have hTV:=c_slopes13V R U V (kn2 U ua ub) (kn2 V va vb) rows h (by omega)
 have hOvV:=c_FOver (1/((evT U V (wtP rows.flatten) x y)*(evT U V (wtP rows.flatten) x y))) (vb-va) (by omega)
 rw [dv_dv] at hOvV
 refine fnP Tryz.func38 (ht:=(tame3 (ptE.pure _) (ptE.pure _) rfl)) ?_
 refine zg13 ?_
 refine cp am1 (c_FDom12 U V ua ub va vb rows hua hub hva hvb hu hv (by omega) (by omega)) ?_
 refine zg14 ?_
 refine cp am2 (hFU) ?_
 refine zg2 ?_
 refine st_pure (guardX (v:=false) rfl rfl ((rfl)) rfl) ldA ?_
 refine st_pure (guardX (v:=false) rfl rfl ((rfl)) rfl) ldA ?_
 refine st_callP (guardX (v:=false) rfl rfl ((rfl)) rfl) (.cons im0 (.cons im0 .nil)) (hFV) ?_
 refine st_pure (guardX (v:=false) rfl rfl ((rfl)) rfl) (.not rfl) ?_
 refine st_pure rfl (.pickF rfl ((rfl))) ?_
 refine zg2 ?_
 refine wl_condY (b:=_) rfl (rfl) ?_
 refine zg3 ?_
 refine wl_regD 8 (by decide +kernel) ?_
 refine zg2 ?_
 refine cp am2 (hO1) ?_
 refine zg2 ?_
 refine cp am2 (hO2) ?_
 refine zg7 ?_
 refine wl_regD 7 (by decide +kernel) ?_
 refine zg1 ?_
 refine cp am1 (c_FPNum U V (kn2 U ua ub) (kn2 V va vb) rows (by omega) (by omega) R (by omega) h.rw) ?_
 refine zg3 ?_
 refine cp am3 (c_fE13 U V (wtP rows.flatten) x y hqW) ?_
 refine zg5 ?_
 refine wl_regD 6 (by decide +kernel) ?_
 refine cp am1 (c_FInt 1 (by decide) (by decide)) ?_
 refine zg2 ?_
 refine cp am2 (c_FRMul (evT U V (wtP rows.flatten) x y) (evT U V (wtP rows.flatten) x y) (by omega)) ?_
 refine cp am2 (c_FOver 1 ((evT U V (wtP rows.flatten) x y)*(evT U V (wtP rows.flatten) x y)) (by omega)) ?_
 refine zg5 ?_
 refine wl_regD 18 (by decide +kernel) ?_
 refine zg1 ?_
 refine cp am2 (hTU) ?_
 refine zg4 ?_
 refine cp am1 (c_FWidth (ua,ub) (by show rl ub+rl ua≤_;omega)) ?_
 refine cp am2 (hOvU) ?_
 refine cp am4 (hAU) ?_
 refine zg1 ?_
 refine cp am2 (hTV) ?_
 refine zg4 ?_
 refine cp am1 (c_FWidth (va,vb) (by show rl vb+rl va≤_;omega)) ?_
 refine cp am2 (hOvV) ?_
 refine cp am4 (hAV) ?_
 refine zg6 ?_
 exact retCCT [] rfl rfl rfl cs (at_all cs rfl) T31 (.pure pu) rfl rfl cs (at_all cs rfl) T31 (.pure pu) rfl (.pure rfl)
namespace H_c_FPDerE
theorem zSm {p q:Prop} (k:q) (e:p=q:=by simp only [e1,e2,e3,e4,p1,p2,p3,q1,q2,q3,l1,t0,t1,r1,r2,r3,r4,Nat.zero_add,Nat.reduceMul,Nat.reduceAdd,b1,b2,b3,b4,b5,b6,i1,i2,i3,i4,i5,i6,Nat.reduceBEq,frz_nil,prL_kill,kills_map prE,dfr,dfq,take_map_len,map_snoc,len_snoc,List.length_cons,List.length_nil,List.nil_append,List.map_nil,List.take_nil,List.append_nil,List.set_cons_zero,List.set_cons_succ,Nat.reduceEqDiff,reduceIte,if_true,if_false,ptL_kill,poL_kill,kills_map ptE,kills_map poE,kills_map ratE,ratL_kill,spL_kill,LV.kill,kills];exact rfl):p:=e.mpr k
end H_c_FPDerE
open H_c_FPDerE in
theorem c_FPDerE (R U V:Nat) (ua ub va vb:Rat) (rows:List (List PoR)) (h:pf R U V rows) (hua:rl ua≤100) (hub:rl ub≤100) (hva:rl va≤100) (hvb:rl vb≤100) (hu:ua<ub) (hv:va<vb) (u v:Rat) (hu1:rl u≤100) (hv1:rl v≤100) (hUi:hasR (ua,ub) u=true) (hVi:hasR (va,vb) v=false):CallP Tryz.prog 38 [.agg [nI64 U,nI64 V,.list 3 ((kn2 U ua ub).map ratL),.list 3 ((kn2 V va vb).map ratL),.list 1 (rows.map prL)],ratL u,ratL v] (.tup [ptL ⟨0,0,0⟩,ptL ⟨0,0,0⟩,iL 7]):=by
 have hpu:∀ l:List Rat,pures (l.map ratL)=true:=fun l=>pures_map ratE l
 have hsp:LV.pure (.agg [nI64 U,nI64 V,.list 3 ((kn2 U ua ub).map ratL),.list 3 ((kn2 V va vb).map ratL),.list 1 (rows.map prL)])=true:=by simp [LV.pure,pures,pures_map ratE,pures_map prE]
 have hku:=pure_lst ratE 3 (kn2 U ua ub)
 have hkv:=pure_lst ratE 3 (kn2 V va vb)
 have hu3:=h.u3
 have hv3:=h.v3
 have hr1:=h.r1
 have hwd1:=rl_sub ub ua
 have hwd2:=rl_sub vb va
 have hdu:dfS U V (U-1) V (dfU U V):=dfS_U h.u3 h.v3
 have hdv:dfS U V U (V-1) (dfV U V):=dfS_V h.u3 h.v3
 have hFU:CallP Tryz.prog 98 [spL (ua,ub),ratL u] (bL true):=by
  have:=c_FHas (ua,ub) u (by show rl ua+rl u≤_;omega) (by show rl u+rl ub≤_;omega)
  rwa [hUi] at this
 have hFV:CallP Tryz.prog 98 [spL (va,vb),ratL v] (bL false):=by
  have:=c_FHas (va,vb) v (by show rl va+rl v≤_;omega) (by show rl v+rl vb≤_;omega)
  rwa [hVi] at this
 refine fnP Tryz.func38 (ht:=(tame3 (ptE.pure _) (ptE.pure _) rfl)) ?_
 refine zg13 ?_
 refine cp am1 (c_FDom12 U V ua ub va vb rows hua hub hva hvb hu hv (by omega) (by omega)) ?_
 refine zg14 ?_
 refine cp am2 (hFU) ?_
 refine zg2 ?_
 refine st_pure (guardX (v:=false) rfl rfl ((rfl)) rfl) ldA ?_
 refine st_pure (guardX (v:=false) rfl rfl ((rfl)) rfl) ldA ?_
 refine st_callP (guardX (v:=false) rfl rfl ((rfl)) rfl) (.cons im0 (.cons im0 .nil)) (hFV) ?_
 refine st_pure (guardX (v:=false) rfl rfl ((rfl)) rfl) (.not rfl) ?_
 refine st_pure rfl (.pickF rfl ((rfl))) ?_
 refine zg2 ?_
 refine wl_condX (b:=_) rfl (rfl) ?_
 refine zg2 ?_
 refine s0bd bdP0 ?_
 refine s0bd bdP0 ?_
 refine zg7 ?_
 exact retCCT [] rfl rfl rfl cs (at_all cs rfl) T31 (.pure pu) rfl rfl cs (at_all cs rfl) T31 (.pure pu) rfl (.pure rfl)
namespace H_c_PNor
theorem zSm {p q:Prop} (k:q) (e:p=q:=by simp only [e1,e2,e3,e4,p1,p2,p3,q1,q2,q3,l1,t0,t1,r1,r2,r3,r4,Nat.zero_add,Nat.reduceMul,Nat.reduceAdd,b1,b2,b3,b4,b5,b6,i1,i2,i3,i4,i5,i6,Nat.reduceBEq,prL_kill,kills_map prE,dfr,dfq,take_map_len,map_snoc,len_snoc,List.length_cons,List.length_nil,List.nil_append,List.map_nil,List.take_nil,List.append_nil,List.set_cons_zero,List.set_cons_succ,Nat.reduceEqDiff,reduceIte,if_true,if_false,ptL_kill,poL_kill,kills_map ptE,kills_map poE,kills_map ratE,ratL_kill,spL_kill,LV.kill,kills];exact rfl):p:=e.mpr k
end H_c_PNor
open H_c_PNor in
theorem c_PNor (U V:Nat) (kU kV:List Rat) (rows:List (List PoR)) (u v:Rat) (a b:V3) (e:Int) (ha:bd3 100000000 a) (hb:bd3 100000000 b) (hD:CallP Tryz.prog 16 [.agg [nI64 U,nI64 V,.list 3 (kU.map ratL),.list 3 (kV.map ratL),.list 1 (rows.map prL)],ratL u,ratL v] (.tup [ptL a,ptL b,iL e])):CallP Tryz.prog 14 [.agg [nI64 U,nI64 V,.list 3 (kU.map ratL),.list 3 (kV.map ratL),.list 1 (rows.map prL)],ratL u,ratL v] (.tup [ptL (v3x a b),iL e]):=by
 have hsp:LV.pure (.agg [nI64 U,nI64 V,.list 3 (kU.map ratL),.list 3 (kV.map ratL),.list 1 (rows.map prL)])=true:=by simp [LV.pure,pures,pures_map ratE,pures_map prE]
 refine fnP Tryz.func14 (ht:=(tame2 (ptE.pure _) rfl)) ?_
 refine zg14 ?_
 refine cp am3 (hD) ?_
 refine zg15 ?_
 refine cp am2 (c_VCross a b 100000000 (by decide) ha hb) ?_
 refine zg6 ?_
 exact retCT [] rfl rfl rfl cs (at_all cs rfl) T31 (.pure pu) rfl (.pure rfl)
namespace H_c_FPNor
theorem zSm {p q:Prop} (k:q) (e:p=q:=by simp only [e1,e2,e3,e4,p1,p2,p3,q1,q2,q3,l1,t0,t1,r1,r2,r3,r4,Nat.zero_add,Nat.reduceMul,Nat.reduceAdd,b1,b2,b3,b4,b5,b6,i1,i2,i3,i4,i5,i6,Nat.reduceBEq,prL_kill,kills_map prE,dfr,dfq,take_map_len,map_snoc,len_snoc,List.length_cons,List.length_nil,List.nil_append,List.map_nil,List.take_nil,List.append_nil,List.set_cons_zero,List.set_cons_succ,Nat.reduceEqDiff,reduceIte,if_true,if_false,ptL_kill,poL_kill,kills_map ptE,kills_map poE,kills_map ratE,ratL_kill,spL_kill,LV.kill,kills];exact rfl):p:=e.mpr k
end H_c_FPNor
open H_c_FPNor in
theorem c_FPNor (U V:Nat) (kU kV:List Rat) (rows:List (List PoR)) (u v:Rat) (a b:V3) (e:Int) (ha:bd3 100000000 a) (hb:bd3 100000000 b) (hD:CallP Tryz.prog 38 [.agg [nI64 U,nI64 V,.list 3 (kU.map ratL),.list 3 (kV.map ratL),.list 1 (rows.map prL)],ratL u,ratL v] (.tup [ptL a,ptL b,iL e])):CallP Tryz.prog 39 [.agg [nI64 U,nI64 V,.list 3 (kU.map ratL),.list 3 (kV.map ratL),.list 1 (rows.map prL)],ratL u,ratL v] (.tup [ptL (v3x a b),iL e]):=by
 have hsp:LV.pure (.agg [nI64 U,nI64 V,.list 3 (kU.map ratL),.list 3 (kV.map ratL),.list 1 (rows.map prL)])=true:=by simp [LV.pure,pures,pures_map ratE,pures_map prE]
 refine fnP Tryz.func39 (ht:=(tame2 (ptE.pure _) rfl)) ?_
 refine zg14 ?_
 refine cp am3 (hD) ?_
 refine zg15 ?_
 refine cp am2 (c_FVCross a b 100000000 (by decide) ha hb) ?_
 refine zg6 ?_
 exact retCT [] rfl rfl rfl cs (at_all cs rfl) T31 (.pure pu) rfl (.pure rfl)
namespace H_c_box13
theorem zSm {p q:Prop} (k:q) (e:p=q:=by simp only [e1,e2,e3,e4,p1,p2,p3,q1,q2,q3,l1,t0,t1,r1,r2,r3,r4,Nat.zero_add,Nat.reduceMul,Nat.reduceAdd,b1,b2,b3,b4,b5,b6,i1,i2,i3,i4,i5,i6,Nat.reduceBEq,prL_kill,kills_map prE,dfr,dfq,take_map_len,map_snoc,len_snoc,List.length_cons,List.length_nil,List.nil_append,List.map_nil,List.take_nil,List.append_nil,List.set_cons_zero,List.set_cons_succ,Nat.reduceEqDiff,reduceIte,if_true,if_false,ptL_kill,poL_kill,kills_map ptE,kills_map poE,kills_map ratE,ratL_kill,spL_kill,LV.kill,kills];exact rfl):p:=e.mpr k
end H_c_box13
open H_c_box13 in
theorem c_box13 (Du Dv:Nat) (ql0 ql1 ql2:List Rat) (a b:Rat) (w:Rat × Rat) (S:Nat) (hS1:1≤S) (hS:S≤49000000) (ha:rl a≤100) (hb:rl b≤100) (hab:a<b) (hw:bdS S w) (hz:hasR w 0=false) (hl0:ql0.length≤49) (hr0:∀ t∈ql0,rl t≤S) (hl1:ql1.length≤49) (hr1:∀ t∈ql1,rl t≤S) (hl2:ql2.length≤49) (hr2:∀ t∈ql2,rl t≤S):CallP Tryz.prog 107 [.agg [.agg [nI64 Du,nI64 Dv,.list 3 (ql0.map ratL)],.agg [nI64 Du,nI64 Dv,.list 3 (ql1.map ratL)],.agg [nI64 Du,nI64 Dv,.list 3 (ql2.map ratL)]],spL (a,b),.boxp (spL w)] (bxL ⟨(muS (quS (bndP ql0) w) (1/(b-a),1/(b-a))),(muS (quS (bndP ql1) w) (1/(b-a),1/(b-a))),(muS (quS (bndP ql2) w) (1/(b-a),1/(b-a)))⟩):=by
 have hpu:∀ l:List Rat,pures (l.map ratL)=true:=fun l=>pures_map ratE l
 have hpq0:=net_pureN Du Dv ql0
 have hpq1:=net_pureN Du Dv ql1
 have hpq2:=net_pureN Du Dv ql2
 have hp3:LV.pure (.agg [.agg [nI64 Du,nI64 Dv,.list 3 (ql0.map ratL)],.agg [nI64 Du,nI64 Dv,.list 3 (ql1.map ratL)],.agg [nI64 Du,nI64 Dv,.list 3 (ql2.map ratL)]])=true:=by simp [LV.pure,pures,pures_map ratE]
 have hwd:=rl_sub b a
 have hpt:bdS (2*S+1001) (b-a,b-a):=⟨by show rl (b-a)≤_;omega,by show rl (b-a)≤_;omega⟩
 have hbn0:=bnd_rl hS1 hr0
 have hqb0:bdS (2*S+1001) (quS (bndP ql0) w):=(quS_bd hbn0 hw).le (by omega)
 have hz0:=c_SQuo (quS (bndP ql0) w) (b-a,b-a) (2*S+1001) (by omega) hqb0 hpt (pt_no0 hab)
 rw [qu_pt] at hz0
 have hbn1:=bnd_rl hS1 hr1
 have hqb1:bdS (2*S+1001) (quS (bndP ql1) w):=(quS_bd hbn1 hw).le (by omega)
 have hz1:=c_SQuo (quS (bndP ql1) w) (b-a,b-a) (2*S+1001) (by omega) hqb1 hpt (pt_no0 hab)
 rw [qu_pt] at hz1
 have hbn2:=bnd_rl hS1 hr2
 have hqb2:bdS (2*S+1001) (quS (bndP ql2) w):=(quS_bd hbn2 hw).le (by omega)
 have hz2:=c_SQuo (quS (bndP ql2) w) (b-a,b-a) (2*S+1001) (by omega) hqb2 hpt (pt_no0 hab)
 rw [qu_pt] at hz2
 refine fnP Tryz.func107 (ht:=(fun r=>LV.ren_pure r _ (bxE.pure _))) ?_
 refine zg20 ?_
 refine wl_unroll ?_
 refine zg6 ?_
 refine wl_condX (b:=_) rfl (by decide) ?_
 refine zg14 ?_
 refine wl_regF 8 [6] (by decide +kernel) ?_
 refine zg1 ?_
 refine cp am1 (c_TBnd Du Dv ql0 (by omega) (fun t ht=>by have:=hr0 t ht;omega)) ?_
 refine zg1 ?_
 refine cp am2 (c_SQuo (bndP ql0) w S (by omega) hbn0 hw hz) ?_
 refine zg8 ?_
 refine wl_regF 10 [8] (by decide +kernel) ?_
 refine zg3 ?_
 refine cp am1 (c_SWidth (a,b) (by show rl b+rl a≤_;omega)) ?_
 refine cp am1 (c_SPoint (b-a) (by omega)) ?_
 refine cp am2 (hz0) ?_
 refine zg8 ?_
 refine wl_regW ((Weak.kill _ 9).trans (Weak.kill _ 8)) ?_
 refine zg4 ?_
 refine wl_unroll ?_
 refine zg6 ?_
 refine wl_condX (b:=_) rfl (by decide) ?_
 refine zg14 ?_
 refine wl_regF 8 [6] (by decide +kernel) ?_
 refine zg1 ?_
 refine cp am1 (c_TBnd Du Dv ql1 (by omega) (fun t ht=>by have:=hr1 t ht;omega)) ?_
 refine zg1 ?_
 refine cp am2 (c_SQuo (bndP ql1) w S (by omega) hbn1 hw hz) ?_
 refine zg8 ?_
 refine wl_regF 10 [8] (by decide +kernel) ?_
 refine zg3 ?_
 refine cp am1 (c_SWidth (a,b) (by show rl b+rl a≤_;omega)) ?_
 refine cp am1 (c_SPoint (b-a) (by omega)) ?_
 refine cp am2 (hz1) ?_
 refine zg8 ?_
 refine wl_regW ((Weak.kill _ 9).trans (Weak.kill _ 8)) ?_
 refine zg4 ?_
 refine wl_unroll ?_
 refine zg6 ?_
 refine wl_condX (b:=_) rfl (by decide) ?_
 refine zg14 ?_
 refine wl_regF 8 [6] (by decide +kernel) ?_
 refine zg1 ?_
 refine cp am1 (c_TBnd Du Dv ql2 (by omega) (fun t ht=>by have:=hr2 t ht;omega)) ?_
 refine zg1 ?_
 refine cp am2 (c_SQuo (bndP ql2) w S (by omega) hbn2 hw hz) ?_
 refine zg8 ?_
 refine wl_regF 10 [8] (by decide +kernel) ?_
 refine zg3 ?_
 refine cp am1 (c_SWidth (a,b) (by show rl b+rl a≤_;omega)) ?_
 refine cp am1 (c_SPoint (b-a) (by omega)) ?_
 refine cp am2 (hz2) ?_
 refine zg8 ?_
 refine wl_regW ((Weak.kill _ 9).trans (Weak.kill _ 8)) ?_
 refine zg4 ?_
 refine wl_unroll ?_
 refine zg6 ?_
 refine wl_condY (b:=_) rfl (by decide) ?_
 refine zg12 ?_
 exact retC [] rfl rfl rfl cs (at_all cs rfl) T74 (.pure pu)
namespace H_c_PSpd
theorem zSm {p q:Prop} (k:q) (e:p=q:=by simp only [e1,e2,e3,e4,p1,p2,p3,q1,q2,q3,l1,t0,t1,r1,r2,r3,r4,Nat.zero_add,Nat.reduceMul,Nat.reduceAdd,b1,b2,b3,b4,b5,b6,i1,i2,i3,i4,i5,i6,Nat.reduceBEq,frz_nil,prL_kill,kills_map prE,dfr,dfq,take_map_len,map_snoc,len_snoc,List.length_cons,List.length_nil,List.nil_append,List.map_nil,List.take_nil,List.append_nil,List.set_cons_zero,List.set_cons_succ,Nat.reduceEqDiff,reduceIte,if_true,if_false,ptL_kill,poL_kill,kills_map ptE,kills_map poE,kills_map ratE,ratL_kill,spL_kill,LV.kill,kills];exact rfl):p:=e.mpr k
end H_c_PSpd
open H_c_PSpd in
theorem c_PSpd (R U V:Nat) (ua ub va vb:Rat) (rows:List (List PoR)) (h:pf R U V rows) (hua:rl ua≤100) (hub:rl ub≤100) (hva:rl va≤100) (hvb:rl vb≤100) (hu:ua<ub) (hv:va<vb) (hR:R≤20000):CallP Tryz.prog 40 [.agg [nI64 U,nI64 V,.list 3 ((kn2 U ua ub).map ratL),.list 3 ((kn2 V va vb).map ratL),.list 1 (rows.map prL)]] (.tup [bxL (psB U V (U-1) V (dfU U V) rows.flatten (ub-ua)),bxL (psB U V U (V-1) (dfV U V) rows.flatten (vb-va))]):=by
 have hpu:∀ l:List Rat,pures (l.map ratL)=true:=fun l=>pures_map ratE l
 have hsp:LV.pure (.agg [nI64 U,nI64 V,.list 3 ((kn2 U ua ub).map ratL),.list 3 ((kn2 V va vb).map ratL),.list 1 (rows.map prL)])=true:=by simp [LV.pure,pures,pures_map ratE,pures_map prE]
 have hku:=pure_lst ratE 3 (kn2 U ua ub)
 have hkv:=pure_lst ratE 3 (kn2 V va vb)
 have hu3:=h.u3
 have hv3:=h.v3
 have hr1:=h.r1
 have hwd1:=rl_sub ub ua
 have hwd2:=rl_sub vb va
 have hdu:dfS U V (U-1) V (dfU U V):=dfS_U h.u3 h.v3
 have hdv:dfS U V U (V-1) (dfV U V):=dfS_V h.u3 h.v3
 have hwq:=h.wsq
 have hwb:=bnd_rl h.r1 h.wr
 have hwl:=h.wl
 have h49:=sq_le3 hu3 hv3
 have hw49:(wtP rows.flatten).length≤49:=by omega
 have hpW:=net_pureN U V (wtP rows.flatten)
 have hpU:LV.pure (.agg [.agg [nI64 ((U-1)+U),nI64 (V+V),.list 3 ((sgN U V (U-1) V (dfU U V) rows.flatten 0).map ratL)],.agg [nI64 ((U-1)+U),nI64 (V+V),.list 3 ((sgN U V (U-1) V (dfU U V) rows.flatten 1).map ratL)],.agg [nI64 ((U-1)+U),nI64 (V+V),.list 3 ((sgN U V (U-1) V (dfU U V) rows.flatten 2).map ratL)]])=true:=by simp [LV.pure,pures,pures_map ratE]
 have hpV:LV.pure (.agg [.agg [nI64 (U+U),nI64 ((V-1)+V),.list 3 ((sgN U V U (V-1) (dfV U V) rows.flatten 0).map ratL)],.agg [nI64 (U+U),nI64 ((V-1)+V),.list 3 ((sgN U V U (V-1) (dfV U V) rows.flatten 1).map ratL)],.agg [nI64 (U+U),nI64 ((V-1)+V),.list 3 ((sgN U V U (V-1) (dfV U V) rows.flatten 2).map ratL)]])=true:=by simp [LV.pure,pures,pures_map ratE]
 have hbp:pures [.boxp (spL (sqS (bndP (wtP rows.flatten))))]=true:=by simp [pures,LV.pure,spE.pure]
 have hAU:=c_box13 ((U-1)+U) (V+V) (sgN U V (U-1) V (dfU U V) rows.flatten 0) (sgN U V (U-1) V (dfU U V) rows.flatten 1) (sgN U V (U-1) V (dfU U V) rows.flatten 2) ua ub (sqS (bndP (wtP rows.flatten))) (1800*R+4201) (by omega) (by omega) hua hub hu (hwq.1.le (by omega)) hwq.2 (sg_l49 h hdu 0) (sg_rl h hdu 0) (sg_l49 h hdu 1) (sg_rl h hdu 1) (sg_l49 h hdu 2) (sg_rl h hdu 2)
 have hTU:=c_turns13 R U V (U-1) V (kn2 U ua ub) (kn2 V va vb) rows h (by omega) (dfU U V) hdu 72 (fun c hc hr=>c_DiffU U V c hc (by rw [hc];have:=sq_le3 hu3 hv3;omega) (fun t ht=>by have:=hr t ht;omega) (by omega))
 have hAV:=c_box13 (U+U) ((V-1)+V) (sgN U V U (V-1) (dfV U V) rows.flatten 0) (sgN U V U (V-1) (dfV U V) rows.flatten 1) (sgN U V U (V-1) (dfV U V) rows.flatten 2) va vb (sqS (bndP (wtP rows.flatten))) (1800*R+4201) (by omega) (by omega) hva hvb hv (hwq.1.le (by omega)) hwq.2 (sg_l49 h hdv 0) (sg_rl h hdv 0) (sg_l49 h hdv 1) (sg_rl h hdv 1) (sg_l49 h hdv 2) (sg_rl h hdv 2)
 have hTV:=c_turns13 R U V U (V-1) (kn2 U ua ub) (kn2 V va vb) rows h (by omega) (dfV U V) hdv 73 (fun c hc hr=>c_DiffV U V c hc (by rw [hc];have:=sq_le3 hu3 hv3;omega) (fun t ht=>by have:=hr t ht;omega) (by omega))
 refine fnP Tryz.func40 (ht:=(tame2 (bxE.pure _) (bxE.pure _))) ?_
 refine zg10 ?_
 refine cp am1 (c_PNum U V (kn2 U ua ub) (kn2 V va vb) rows (by omega) (by omega) R (by omega) h.rw) ?_
 refine zg1 ?_
 refine cp am1 (c_TBnd U V (wtP rows.flatten) (by omega) (fun t ht=>by have:=h.wr t ht;omega)) ?_
 refine cp am1 (c_SSqr (bndP (wtP rows.flatten)) R (by omega) hwb) ?_
 refine zg6 ?_
 refine st_opc [4] rfl rfl (.mk (caps:=[.boxp (spL (sqS (bndP (wtP rows.flatten))))]) (.cons (.eptr rfl rfl rfl (spE.csize _) (spL_all _) (spE.pure _) rfl) .nil) (fun x hx=>by rw [List.mem_singleton.1 hx];exact⟨rfl,rfl⟩)) rfl ?_
 refine zg6 ?_
 refine cp am1 (c_PDom U V ua ub va vb rows hua hub hva hvb hu hv (by omega) (by omega)) ?_
 refine zg10 ?_
 refine wl_regD 10 (by decide +kernel) ?_
 refine zg2 ?_
 refine cp am2 (hTU) ?_
 refine zg1 ?_
 refine st_opc [] rfl rfl (.clo (f:=107) (cap:=[.boxp (spL (sqS (bndP (wtP rows.flatten))))]) (args:=[.agg [.agg [nI64 ((U-1)+U),nI64 (V+V),.list 3 ((sgN U V (U-1) V (dfU U V) rows.flatten 0).map ratL)],.agg [nI64 ((U-1)+U),nI64 (V+V),.list 3 ((sgN U V (U-1) V (dfU U V) rows.flatten 1).map ratL)],.agg [nI64 ((U-1)+U),nI64 (V+V),.list 3 ((sgN U V (U-1) V (dfU U V) rows.flatten 2).map ratL)]],spL (ua,ub)]) rfl (.cons im0 (.cons im0 .nil)) ⟨hbp,(fun x hx=>by rw [List.mem_singleton.1 hx];exact⟨rfl,rfl⟩)⟩ hAU.1 (by decide) (fun _ h=>by cases h)) (hAU.2 _) ?_
 refine zg2 ?_
 refine cp am2 (hTV) ?_
 refine zg1 ?_
 refine st_opc [] rfl rfl (.clo (f:=107) (cap:=[.boxp (spL (sqS (bndP (wtP rows.flatten))))]) (args:=[.agg [.agg [nI64 (U+U),nI64 ((V-1)+V),.list 3 ((sgN U V U (V-1) (dfV U V) rows.flatten 0).map ratL)],.agg [nI64 (U+U),nI64 ((V-1)+V),.list 3 ((sgN U V U (V-1) (dfV U V) rows.flatten 1).map ratL)],.agg [nI64 (U+U),nI64 ((V-1)+V),.list 3 ((sgN U V U (V-1) (dfV U V) rows.flatten 2).map ratL)]],spL (va,vb)]) rfl (.cons im0 (.cons im0 .nil)) ⟨hbp,(fun x hx=>by rw [List.mem_singleton.1 hx];exact⟨rfl,rfl⟩)⟩ hAV.1 (by decide) (fun _ h=>by cases h)) (hAV.2 _) ?_
 refine zg5 ?_
 exact retCC [] rfl rfl rfl cs (at_all cs rfl) T74 (.pure pu) rfl rfl cs (at_all cs rfl) T74 (.pure pu)
namespace H_c_FPspdU
theorem zSm {p q:Prop} (k:q) (e:p=q:=by simp only [e1,e2,e3,e4,p1,p2,p3,q1,q2,q3,l1,t0,t1,r1,r2,r3,r4,Nat.zero_add,Nat.reduceMul,Nat.reduceAdd,b1,b2,b3,b4,b5,b6,i1,i2,i3,i4,i5,i6,Nat.reduceBEq,frz_nil,prL_kill,kills_map prE,dfr,dfq,take_map_len,map_snoc,len_snoc,List.length_cons,List.length_nil,List.nil_append,List.map_nil,List.take_nil,List.append_nil,List.set_cons_zero,List.set_cons_succ,Nat.reduceEqDiff,reduceIte,if_true,if_false,ptL_kill,poL_kill,kills_map ptE,kills_map poE,kills_map ratE,ratL_kill,spL_kill,LV.kill,kills];exact rfl):p:=e.mpr k
end H_c_FPspdU
open H_c_FPspdU in
theorem c_FPspdU (R U V:Nat) (ua ub va vb:Rat) (rows:List (List PoR)) (h:pf R U V rows) (hua:rl ua≤100) (hub:rl ub≤100) (hva:rl va≤100) (hvb:rl vb≤100) (hu:ua<ub) (hv:va<vb) (hR:R≤20000):CallP Tryz.prog 111 [.agg [nI64 U,nI64 V,.list 3 ((kn2 U ua ub).map ratL),.list 3 ((kn2 V va vb).map ratL),.list 1 (rows.map prL)],bL false] (bxL (psB U V (U-1) V (dfU U V) rows.flatten (ub-ua))):=by
 have hpu:∀ l:List Rat,pures (l.map ratL)=true:=fun l=>pures_map ratE l
 have hsp:LV.pure (.agg [nI64 U,nI64 V,.list 3 ((kn2 U ua ub).map ratL),.list 3 ((kn2 V va vb).map ratL),.list 1 (rows.map prL)])=true:=by simp [LV.pure,pures,pures_map ratE,pures_map prE]
 have hku:=pure_lst ratE 3 (kn2 U ua ub)
 have hkv:=pure_lst ratE 3 (kn2 V va vb)
 have hu3:=h.u3
 have hv3:=h.v3
 have hr1:=h.r1
 have hwd1:=rl_sub ub ua
 have hwd2:=rl_sub vb va
 have hdu:dfS U V (U-1) V (dfU U V):=dfS_U h.u3 h.v3
 have hdv:dfS U V U (V-1) (dfV U V):=dfS_V h.u3 h.v3
 have hwq:=h.wsq
 have hwb:=bnd_rl h.r1 h.wr
 have hwl:=h.wl
 have h49:=sq_le3 hu3 hv3
 have hw49:(wtP rows.flatten).length≤49:=by omega
 have hpW:=net_pureN U V (wtP rows.flatten)
 have hpU:LV.pure (.agg [.agg [nI64 ((U-1)+U),nI64 (V+V),.list 3 ((sgN U V (U-1) V (dfU U V) rows.flatten 0).map ratL)],.agg [nI64 ((U-1)+U),nI64 (V+V),.list 3 ((sgN U V (U-1) V (dfU U V) rows.flatten 1).map ratL)],.agg [nI64 ((U-1)+U),nI64 (V+V),.list 3 ((sgN U V (U-1) V (dfU U V) rows.flatten 2).map ratL)]])=true:=by simp [LV.pure,pures,pures_map ratE]
 have hpV:LV.pure (.agg [.agg [nI64 (U+U),nI64 ((V-1)+V),.list 3 ((sgN U V U (V-1) (dfV U V) rows.flatten 0).map ratL)],.agg [nI64 (U+U),nI64 ((V-1)+V),.list 3 ((sgN U V U (V-1) (dfV U V) rows.flatten 1).map ratL)],.agg [nI64 (U+U),nI64 ((V-1)+V),.list 3 ((sgN U V U (V-1) (dfV U V) rows.flatten 2).map ratL)]])=true:=by simp [LV.pure,pures,pures_map ratE]
 have hwl0:0<(wtP rows.flatten).length:=by rw [wtP_len];exact h.pos
 have hq1:rl 1=1:=rfl
 have hT:=c_slopes13U R U V (kn2 U ua ub) (kn2 V va vb) rows h (by omega)
 have hps0:=net_pureN ((U-1)+U) (V+V) (sgN U V (U-1) V (dfU U V) rows.flatten 0)
 have hsl0:=sg_l49 h hdu 0
 have hsp0:0<(sgN U V (U-1) V (dfU U V) rows.flatten 0).length:=by rw [sg_len h hdu 0];exact Nat.mul_pos (Nat.succ_pos _) (Nat.succ_pos _)
 have hbn0:=sg_bnd h hdu 0
 have hbk0:=psK_bd h hdu (wd:=(ub-ua)) (by omega) 0
 have hps1:=net_pureN ((U-1)+U) (V+V) (sgN U V (U-1) V (dfU U V) rows.flatten 1)
 have hsl1:=sg_l49 h hdu 1
 have hsp1:0<(sgN U V (U-1) V (dfU U V) rows.flatten 1).length:=by rw [sg_len h hdu 1];exact Nat.mul_pos (Nat.succ_pos _) (Nat.succ_pos _)
 have hbn1:=sg_bnd h hdu 1
 have hbk1:=psK_bd h hdu (wd:=(ub-ua)) (by omega) 1
 have hps2:=net_pureN ((U-1)+U) (V+V) (sgN U V (U-1) V (dfU U V) rows.flatten 2)
 have hsl2:=sg_l49 h hdu 2
 have hsp2:0<(sgN U V (U-1) V (dfU U V) rows.flatten 2).length:=by rw [sg_len h hdu 2];exact Nat.mul_pos (Nat.succ_pos _) (Nat.succ_pos _)
 have hbn2:=sg_bnd h hdu 2
 have hbk2:=psK_bd h hdu (wd:=(ub-ua)) (by omega) 2
 refine fnP Tryz.func111 (ht:=(fun r=>LV.ren_pure r _ (bxE.pure _))) ?_
 refine zg10 ?_
 refine cp am2 (hT) ?_
 refine zg7 ?_
 refine cp am1 (c_FPNum U V (kn2 U ua ub) (kn2 V va vb) rows (by omega) (by omega) R (by omega) h.rw) ?_
 refine zg1 ?_
 refine cp am1 (c_fBounds7 U V (wtP rows.flatten) hwl0 (by omega) (fun t ht=>by have:=h.wr t ht;omega)) ?_
 refine cp am1 (c_FSSqr (bndP (wtP rows.flatten)) R (by omega) hwb) ?_
 refine zg7 ?_
 refine cp am1 (c_FDom12 U V ua ub va vb rows hua hub hva hvb hu hv (by omega) (by omega)) ?_
 refine zg15 ?_
 refine wl_if rfl (fun h27r h27=>?_) (fun h27r h27=>?_)
 ·first | exact h27.elim | exact absurd rfl h27 | cases h27r
 ·refine zg3 ?_
  refine wl_regD 6 (by decide +kernel) ?_
  refine cp am1 (c_FInt 1 (by decide) (by decide)) ?_
  refine zg1 ?_
  refine cp am1 (c_FWidth (ua,ub) (by show rl ub+rl ua≤_;omega)) ?_
  refine cp am2 (c_FOver 1 (ub-ua) (by omega)) ?_
  refine cp am1 (c_FPoint (1/(ub-ua))) ?_
  refine zg16 ?_
  refine wl_unroll ?_
  refine zg7 ?_
  refine wl_condX (b:=_) rfl (by decide) ?_
  refine zg5 ?_
  refine wl_regF 10 [8] (by decide +kernel) ?_
  refine zg3 ?_
  refine cp am1 (c_fBounds7 (((U-1)+U:Nat):Int) ((V+V:Nat):Int) (sgN U V (U-1) V (dfU U V) rows.flatten 0) hsp0 (by omega) (fun t ht=>by have:=sg_rl h hdu 0 t ht;omega)) ?_
  refine zg1 ?_
  refine cp am2 (c_FSQuo (bndP (sgN U V (U-1) V (dfU U V) rows.flatten 0)) (sqS (bndP (wtP rows.flatten))) (1800*R+4201) (by omega) hbn0 (hwq.1.le (by omega)) hwq.2) ?_
  refine zg12 ?_
  refine cp am2 (c_FSMul (quS (bndP (sgN U V (U-1) V (dfU U V) rows.flatten 0)) (sqS (bndP (wtP rows.flatten)))) (1/(ub-ua),1/(ub-ua)) (1802*R+4202) (by omega) hbk0.1 (hbk0.2.1.le (by omega))) ?_
  refine zg5 ?_
  refine wl_regW (Weak.kill _ 12) ?_
  refine zg5 ?_
  refine wl_unroll ?_
  refine zg7 ?_
  refine wl_condX (b:=_) rfl (by decide) ?_
  refine zg5 ?_
  refine wl_regF 10 [8] (by decide +kernel) ?_
  refine zg3 ?_
  refine cp am1 (c_fBounds7 (((U-1)+U:Nat):Int) ((V+V:Nat):Int) (sgN U V (U-1) V (dfU U V) rows.flatten 1) hsp1 (by omega) (fun t ht=>by have:=sg_rl h hdu 1 t ht;omega)) ?_
  refine zg1 ?_
  refine cp am2 (c_FSQuo (bndP (sgN U V (U-1) V (dfU U V) rows.flatten 1)) (sqS (bndP (wtP rows.flatten))) (1800*R+4201) (by omega) hbn1 (hwq.1.le (by omega)) hwq.2) ?_
  refine zg12 ?_
  refine cp am2 (c_FSMul (quS (bndP (sgN U V (U-1) V (dfU U V) rows.flatten 1)) (sqS (bndP (wtP rows.flatten)))) (1/(ub-ua),1/(ub-ua)) (1802*R+4202) (by omega) hbk1.1 (hbk1.2.1.le (by omega))) ?_
  refine zg5 ?_
  refine wl_regW (Weak.kill _ 12) ?_
  refine zg5 ?_
  refine wl_unroll ?_
  refine zg7 ?_
  refine wl_condX (b:=_) rfl (by decide) ?_
  refine zg5 ?_
  refine wl_regF 10 [8] (by decide +kernel) ?_
  refine zg3 ?_
  refine cp am1 (c_fBounds7 (((U-1)+U:Nat):Int) ((V+V:Nat):Int) (sgN U V (U-1) V (dfU U V) rows.flatten 2) hsp2 (by omega) (fun t ht=>by have:=sg_rl h hdu 2 t ht;omega)) ?_
  refine zg1 ?_
  refine cp am2 (c_FSQuo (bndP (sgN U V (U-1) V (dfU U V) rows.flatten 2)) (sqS (bndP (wtP rows.flatten))) (1800*R+4201) (by omega) hbn2 (hwq.1.le (by omega)) hwq.2) ?_
  refine zg12 ?_
  refine cp am2 (c_FSMul (quS (bndP (sgN U V (U-1) V (dfU U V) rows.flatten 2)) (sqS (bndP (wtP rows.flatten)))) (1/(ub-ua),1/(ub-ua)) (1802*R+4202) (by omega) hbk2.1 (hbk2.2.1.le (by omega))) ?_
  refine zg5 ?_
  refine wl_regW (Weak.kill _ 12) ?_
  refine zg5 ?_
  refine wl_unroll ?_
  refine zg7 ?_
  refine wl_condY (b:=_) rfl (by decide) ?_
  refine zg12 ?_
  exact retC [] rfl rfl rfl cs (at_all cs rfl) T74 (.pure pu)
namespace H_c_FPspdV
theorem zSm {p q:Prop} (k:q) (e:p=q:=by simp only [e1,e2,e3,e4,p1,p2,p3,q1,q2,q3,l1,t0,t1,r1,r2,r3,r4,Nat.zero_add,Nat.reduceMul,Nat.reduceAdd,b1,b2,b3,b4,b5,b6,i1,i2,i3,i4,i5,i6,Nat.reduceBEq,frz_nil,prL_kill,kills_map prE,dfr,dfq,take_map_len,map_snoc,len_snoc,List.length_cons,List.length_nil,List.nil_append,List.map_nil,List.take_nil,List.append_nil,List.set_cons_zero,List.set_cons_succ,Nat.reduceEqDiff,reduceIte,if_true,if_false,ptL_kill,poL_kill,kills_map ptE,kills_map poE,kills_map ratE,ratL_kill,spL_kill,LV.kill,kills];exact rfl):p:=e.mpr k
end H_c_FPspdV
open H_c_FPspdV in
theorem c_FPspdV (R U V:Nat) (ua ub va vb:Rat) (rows:List (List PoR)) (h:pf R U V rows) (hua:rl ua≤100) (hub:rl ub≤100) (hva:rl va≤100) (hvb:rl vb≤100) (hu:ua<ub) (hv:va<vb) (hR:R≤20000):CallP Tryz.prog 111 [.agg [nI64 U,nI64 V,.list 3 ((kn2 U ua ub).map ratL),.list 3 ((kn2 V va vb).map ratL),.list 1 (rows.map prL)],bL true] (bxL (psB U V U (V-1) (dfV U V) rows.flatten (vb-va))):=by
 have hpu:∀ l:List Rat,pures (l.map ratL)=true:=fun l=>pures_map ratE l
 have hsp:LV.pure (.agg [nI64 U,nI64 V,.list 3 ((kn2 U ua ub).map ratL),.list 3 ((kn2 V va vb).map ratL),.list 1 (rows.map prL)])=true:=by simp [LV.pure,pures,pures_map ratE,pures_map prE]
 have hku:=pure_lst ratE 3 (kn2 U ua ub)
 have hkv:=pure_lst ratE 3 (kn2 V va vb)
 have hu3:=h.u3
 have hv3:=h.v3
 have hr1:=h.r1
 have hwd1:=rl_sub ub ua
 have hwd2:=rl_sub vb va
 have hdu:dfS U V (U-1) V (dfU U V):=dfS_U h.u3 h.v3
 have hdv:dfS U V U (V-1) (dfV U V):=dfS_V h.u3 h.v3
 have hwq:=h.wsq
 have hwb:=bnd_rl h.r1 h.wr
 have hwl:=h.wl
 have h49:=sq_le3 hu3 hv3
 have hw49:(wtP rows.flatten).length≤49:=by omega
 have hpW:=net_pureN U V (wtP rows.flatten)
 have hpU:LV.pure (.agg [.agg [nI64 ((U-1)+U),nI64 (V+V),.list 3 ((sgN U V (U-1) V (dfU U V) rows.flatten 0).map ratL)],.agg [nI64 ((U-1)+U),nI64 (V+V),.list 3 ((sgN U V (U-1) V (dfU U V) rows.flatten 1).map ratL)],.agg [nI64 ((U-1)+U),nI64 (V+V),.list 3 ((sgN U V (U-1) V (dfU U V) rows.flatten 2).map ratL)]])=true:=by simp [LV.pure,pures,pures_map ratE]
 have hpV:LV.pure (.agg [.agg [nI64 (U+U),nI64 ((V-1)+V),.list 3 ((sgN U V U (V-1) (dfV U V) rows.flatten 0).map ratL)],.agg [nI64 (U+U),nI64 ((V-1)+V),.list 3 ((sgN U V U (V-1) (dfV U V) rows.flatten 1).map ratL)],.agg [nI64 (U+U),nI64 ((V-1)+V),.list 3 ((sgN U V U (V-1) (dfV U V) rows.flatten 2).map ratL)]])=true:=by simp [LV.pure,pures,pures_map ratE]
 have hwl0:0<(wtP rows.flatten).length:=by rw [wtP_len];exact h.pos
 have hq1:rl 1=1:=rfl
 have hT:=c_slopes13V R U V (kn2 U ua ub) (kn2 V va vb) rows h (by omega)
 have hps0:=net_pureN (U+U) ((V-1)+V) (sgN U V U (V-1) (dfV U V) rows.flatten 0)
 have hsl0:=sg_l49 h hdv 0
 have hsp0:0<(sgN U V U (V-1) (dfV U V) rows.flatten 0).length:=by rw [sg_len h hdv 0];exact Nat.mul_pos (Nat.succ_pos _) (Nat.succ_pos _)
 have hbn0:=sg_bnd h hdv 0
 have hbk0:=psK_bd h hdv (wd:=(vb-va)) (by omega) 0
 have hps1:=net_pureN (U+U) ((V-1)+V) (sgN U V U (V-1) (dfV U V) rows.flatten 1)
 have hsl1:=sg_l49 h hdv 1
 have hsp1:0<(sgN U V U (V-1) (dfV U V) rows.flatten 1).length:=by rw [sg_len h hdv 1];exact Nat.mul_pos (Nat.succ_pos _) (Nat.succ_pos _)
 have hbn1:=sg_bnd h hdv 1
 have hbk1:=psK_bd h hdv (wd:=(vb-va)) (by omega) 1
 have hps2:=net_pureN (U+U) ((V-1)+V) (sgN U V U (V-1) (dfV U V) rows.flatten 2)
 have hsl2:=sg_l49 h hdv 2
 have hsp2:0<(sgN U V U (V-1) (dfV U V) rows.flatten 2).length:=by rw [sg_len h hdv 2];exact Nat.mul_pos (Nat.succ_pos _) (Nat.succ_pos _)
 have hbn2:=sg_bnd h hdv 2
 have hbk2:=psK_bd h hdv (wd:=(vb-va)) (by omega) 2
 refine fnP Tryz.func111 (ht:=(fun r=>LV.ren_pure r _ (bxE.pure _))) ?_
 refine zg10 ?_
 refine cp am2 (hT) ?_
 refine zg7 ?_
 refine cp am1 (c_FPNum U V (kn2 U ua ub) (kn2 V va vb) rows (by omega) (by omega) R (by omega) h.rw) ?_
 refine zg1 ?_
 refine cp am1 (c_fBounds7 U V (wtP rows.flatten) hwl0 (by omega) (fun t ht=>by have:=h.wr t ht;omega)) ?_
 refine cp am1 (c_FSSqr (bndP (wtP rows.flatten)) R (by omega) hwb) ?_
 refine zg7 ?_
 refine cp am1 (c_FDom12 U V ua ub va vb rows hua hub hva hvb hu hv (by omega) (by omega)) ?_
 refine zg15 ?_
 refine wl_if rfl (fun h27r h27=>?_) (fun h27r h27=>?_)
 ·refine zg6 ?_
  refine wl_regD 6 (by decide +kernel) ?_
  refine cp am1 (c_FInt 1 (by decide) (by decide)) ?_
  refine zg1 ?_
  refine cp am1 (c_FWidth (va,vb) (by show rl vb+rl va≤_;omega)) ?_
  refine cp am2 (c_FOver 1 (vb-va) (by omega)) ?_
  refine cp am1 (c_FPoint (1/(vb-va))) ?_
  refine zg16 ?_
  refine wl_unroll ?_
  refine zg7 ?_
  refine wl_condX (b:=_) rfl (by decide) ?_
  refine zg5 ?_
  refine wl_regF 10 [8] (by decide +kernel) ?_
  refine zg3 ?_
  refine cp am1 (c_fBounds7 ((U+U:Nat):Int) (((V-1)+V:Nat):Int) (sgN U V U (V-1) (dfV U V) rows.flatten 0) hsp0 (by omega) (fun t ht=>by have:=sg_rl h hdv 0 t ht;omega)) ?_
  refine zg1 ?_
  refine cp am2 (c_FSQuo (bndP (sgN U V U (V-1) (dfV U V) rows.flatten 0)) (sqS (bndP (wtP rows.flatten))) (1800*R+4201) (by omega) hbn0 (hwq.1.le (by omega)) hwq.2) ?_
  refine zg12 ?_
  refine cp am2 (c_FSMul (quS (bndP (sgN U V U (V-1) (dfV U V) rows.flatten 0)) (sqS (bndP (wtP rows.flatten)))) (1/(vb-va),1/(vb-va)) (1802*R+4202) (by omega) hbk0.1 (hbk0.2.1.le (by omega))) ?_
  refine zg5 ?_
  refine wl_regW (Weak.kill _ 12) ?_
  refine zg5 ?_
  refine wl_unroll ?_
  refine zg7 ?_
  refine wl_condX (b:=_) rfl (by decide) ?_
  refine zg5 ?_
  refine wl_regF 10 [8] (by decide +kernel) ?_
  refine zg3 ?_
  refine cp am1 (c_fBounds7 ((U+U:Nat):Int) (((V-1)+V:Nat):Int) (sgN U V U (V-1) (dfV U V) rows.flatten 1) hsp1 (by omega) (fun t ht=>by have:=sg_rl h hdv 1 t ht;omega)) ?_
  refine zg1 ?_
  refine cp am2 (c_FSQuo (bndP (sgN U V U (V-1) (dfV U V) rows.flatten 1)) (sqS (bndP (wtP rows.flatten))) (1800*R+4201) (by omega) hbn1 (hwq.1.le (by omega)) hwq.2) ?_
  refine zg12 ?_
  refine cp am2 (c_FSMul (quS (bndP (sgN U V U (V-1) (dfV U V) rows.flatten 1)) (sqS (bndP (wtP rows.flatten)))) (1/(vb-va),1/(vb-va)) (1802*R+4202) (by omega) hbk1.1 (hbk1.2.1.le (by omega))) ?_
  refine zg5 ?_
  refine wl_regW (Weak.kill _ 12) ?_
  refine zg5 ?_
  refine wl_unroll ?_
  refine zg7 ?_
  refine wl_condX (b:=_) rfl (by decide) ?_
  refine zg5 ?_
  refine wl_regF 10 [8] (by decide +kernel) ?_
  refine zg3 ?_
  refine cp am1 (c_fBounds7 ((U+U:Nat):Int) (((V-1)+V:Nat):Int) (sgN U V U (V-1) (dfV U V) rows.flatten 2) hsp2 (by omega) (fun t ht=>by have:=sg_rl h hdv 2 t ht;omega)) ?_
  refine zg1 ?_
  refine cp am2 (c_FSQuo (bndP (sgN U V U (V-1) (dfV U V) rows.flatten 2)) (sqS (bndP (wtP rows.flatten))) (1800*R+4201) (by omega) hbn2 (hwq.1.le (by omega)) hwq.2) ?_
  refine zg12 ?_
  refine cp am2 (c_FSMul (quS (bndP (sgN U V U (V-1) (dfV U V) rows.flatten 2)) (sqS (bndP (wtP rows.flatten)))) (1/(vb-va),1/(vb-va)) (1802*R+4202) (by omega) hbk2.1 (hbk2.2.1.le (by omega))) ?_
  refine zg5 ?_
  refine wl_regW (Weak.kill _ 12) ?_
  refine zg5 ?_
  refine wl_unroll ?_
  refine zg7 ?_
  refine wl_condY (b:=_) rfl (by decide) ?_
  refine zg12 ?_
  exact retC [] rfl rfl rfl cs (at_all cs rfl) T74 (.pure pu)
 ·first | exact h27.elim | exact absurd rfl h27 | cases h27r
namespace H_c_FPSpd
theorem zSm {p q:Prop} (k:q) (e:p=q:=by simp only [e1,e2,e3,e4,p1,p2,p3,q1,q2,q3,l1,t0,t1,r1,r2,r3,r4,Nat.zero_add,Nat.reduceMul,Nat.reduceAdd,b1,b2,b3,b4,b5,b6,i1,i2,i3,i4,i5,i6,Nat.reduceBEq,prL_kill,kills_map prE,dfr,dfq,take_map_len,map_snoc,len_snoc,List.length_cons,List.length_nil,List.nil_append,List.map_nil,List.take_nil,List.append_nil,List.set_cons_zero,List.set_cons_succ,Nat.reduceEqDiff,reduceIte,if_true,if_false,ptL_kill,poL_kill,kills_map ptE,kills_map poE,kills_map ratE,ratL_kill,spL_kill,LV.kill,kills];exact rfl):p:=e.mpr k
end H_c_FPSpd
open H_c_FPSpd in
theorem c_FPSpd (R U V:Nat) (ua ub va vb:Rat) (rows:List (List PoR)) (h:pf R U V rows) (hua:rl ua≤100) (hub:rl ub≤100) (hva:rl va≤100) (hvb:rl vb≤100) (hu:ua<ub) (hv:va<vb) (hR:R≤20000):CallP Tryz.prog 41 [.agg [nI64 U,nI64 V,.list 3 ((kn2 U ua ub).map ratL),.list 3 ((kn2 V va vb).map ratL),.list 1 (rows.map prL)]] (.tup [bxL (psB U V (U-1) V (dfU U V) rows.flatten (ub-ua)),bxL (psB U V U (V-1) (dfV U V) rows.flatten (vb-va))]):=by
 have hpu:∀ l:List Rat,pures (l.map ratL)=true:=fun l=>pures_map ratE l
 have hsp:LV.pure (.agg [nI64 U,nI64 V,.list 3 ((kn2 U ua ub).map ratL),.list 3 ((kn2 V va vb).map ratL),.list 1 (rows.map prL)])=true:=by simp [LV.pure,pures,pures_map ratE,pures_map prE]
 have hku:=pure_lst ratE 3 (kn2 U ua ub)
 have hkv:=pure_lst ratE 3 (kn2 V va vb)
 have hu3:=h.u3
 have hv3:=h.v3
 have hr1:=h.r1
 have hwd1:=rl_sub ub ua
 have hwd2:=rl_sub vb va
 have hdu:dfS U V (U-1) V (dfU U V):=dfS_U h.u3 h.v3
 have hdv:dfS U V U (V-1) (dfV U V):=dfS_V h.u3 h.v3
 refine fnP Tryz.func41 (ht:=(tame2 (bxE.pure _) (bxE.pure _))) ?_
 refine zg8 ?_
 refine wl_regD 4 (by decide +kernel) ?_
 refine zg1 ?_
 refine cp am2 (c_FPspdU R U V ua ub va vb rows h hua hub hva hvb hu hv hR) ?_
 refine zg1 ?_
 refine cp am2 (c_FPspdV R U V ua ub va vb rows h hua hub hva hvb hu hv hR) ?_
 refine zg5 ?_
 exact retCC [] rfl rfl rfl cs (at_all cs rfl) T74 (.pure pu) rfl rfl cs (at_all cs rfl) T74 (.pure pu)
namespace H_c_PNors
theorem zSm {p q:Prop} (k:q) (e:p=q:=by simp only [e1,e2,e3,e4,p1,p2,p3,q1,q2,q3,l1,t0,t1,r1,r2,r3,r4,Nat.zero_add,Nat.reduceMul,Nat.reduceAdd,b1,b2,b3,b4,b5,b6,i1,i2,i3,i4,i5,i6,Nat.reduceBEq,prL_kill,kills_map prE,dfr,dfq,take_map_len,map_snoc,len_snoc,List.length_cons,List.length_nil,List.nil_append,List.map_nil,List.take_nil,List.append_nil,List.set_cons_zero,List.set_cons_succ,Nat.reduceEqDiff,reduceIte,if_true,if_false,ptL_kill,poL_kill,kills_map ptE,kills_map poE,kills_map ratE,ratL_kill,spL_kill,LV.kill,kills];exact rfl):p:=e.mpr k
end H_c_PNors
open H_c_PNors in
theorem c_PNors (U V:Nat) (kU kV:List Rat) (rows:List (List PoR)) (a b:Bx3) (S:Nat) (hS:S≤100000000) (ha:bdB S a) (hb:bdB S b) (hD:CallP Tryz.prog 40 [.agg [nI64 U,nI64 V,.list 3 (kU.map ratL),.list 3 (kV.map ratL),.list 1 (rows.map prL)]] (.tup [bxL a,bxL b])):CallP Tryz.prog 42 [.agg [nI64 U,nI64 V,.list 3 (kU.map ratL),.list 3 (kV.map ratL),.list 1 (rows.map prL)]] (bxL (bxX a b)):=by
 have hsp:LV.pure (.agg [nI64 U,nI64 V,.list 3 (kU.map ratL),.list 3 (kV.map ratL),.list 1 (rows.map prL)])=true:=by simp [LV.pure,pures,pures_map ratE,pures_map prE]
 obtain⟨a1,a2,a3⟩:=ha
 obtain⟨y1,y2,y3⟩:=hb
 have m01:=muS_bd a1 y2
 have m02:=muS_bd a1 y3
 have m10:=muS_bd a2 y1
 have m12:=muS_bd a2 y3
 have m20:=muS_bd a3 y1
 have m21:=muS_bd a3 y2
 refine fnP Tryz.func42 (ht:=(fun r=>LV.ren_pure r _ (bxE.pure _))) ?_
 refine zg9 ?_
 refine cp am1 (hD) ?_
 refine zg21 ?_
 refine wl_unroll ?_
 refine zg6 ?_
 refine wl_condX (b:=_) rfl (by decide) ?_
 refine zg13 ?_
 refine st_pure rfl (.bin rfl rfl (show binI .add .i64 0 1=some (.int .i64 ((1:Nat):Int)) from rfl)) ?_
 refine st_pure rfl (.bin rfl rfl (show binI .rem .i64 1 3=some (.int .i64 ((1:Nat):Int)) from rfl)) ?_
 refine zg1 ?_
 refine st_pure rfl (.bin rfl rfl (show binI .add .i64 0 2=some (.int .i64 ((2:Nat):Int)) from rfl)) ?_
 refine st_pure rfl (.bin rfl rfl (show binI .rem .i64 2 3=some (.int .i64 ((2:Nat):Int)) from rfl)) ?_
 refine zg4 ?_
 refine wl_regD 17 (by decide +kernel) ?_
 refine zg7 ?_
 refine cp am2 (c_SMul a.y b.z S (by omega) a2 y3) ?_
 refine zg6 ?_
 refine cp am2 (c_SMul a.z b.y S (by omega) a3 y2) ?_
 refine cp am2 (c_SSub (muS a.y b.z) (muS a.z b.y) (S+S) (by omega) m12 m21) ?_
 refine zg10 ?_
 refine wl_unroll ?_
 refine zg6 ?_
 refine wl_condX (b:=_) rfl (by decide) ?_
 refine zg13 ?_
 refine st_pure rfl (.bin rfl rfl (show binI .add .i64 1 1=some (.int .i64 ((2:Nat):Int)) from rfl)) ?_
 refine st_pure rfl (.bin rfl rfl (show binI .rem .i64 2 3=some (.int .i64 ((2:Nat):Int)) from rfl)) ?_
 refine zg1 ?_
 refine st_pure rfl (.bin rfl rfl (show binI .add .i64 1 2=some (.int .i64 ((3:Nat):Int)) from rfl)) ?_
 refine st_pure rfl (.bin rfl rfl (show binI .rem .i64 3 3=some (.int .i64 ((0:Nat):Int)) from rfl)) ?_
 refine zg4 ?_
 refine wl_regD 17 (by decide +kernel) ?_
 refine zg7 ?_
 refine cp am2 (c_SMul a.z b.x S (by omega) a3 y1) ?_
 refine zg6 ?_
 refine cp am2 (c_SMul a.x b.z S (by omega) a1 y3) ?_
 refine cp am2 (c_SSub (muS a.z b.x) (muS a.x b.z) (S+S) (by omega) m20 m02) ?_
 refine zg10 ?_
 refine wl_unroll ?_
 refine zg6 ?_
 refine wl_condX (b:=_) rfl (by decide) ?_
 refine zg13 ?_
 refine st_pure rfl (.bin rfl rfl (show binI .add .i64 2 1=some (.int .i64 ((3:Nat):Int)) from rfl)) ?_
 refine st_pure rfl (.bin rfl rfl (show binI .rem .i64 3 3=some (.int .i64 ((0:Nat):Int)) from rfl)) ?_
 refine zg1 ?_
 refine st_pure rfl (.bin rfl rfl (show binI .add .i64 2 2=some (.int .i64 ((4:Nat):Int)) from rfl)) ?_
 refine st_pure rfl (.bin rfl rfl (show binI .rem .i64 4 3=some (.int .i64 ((1:Nat):Int)) from rfl)) ?_
 refine zg4 ?_
 refine wl_regD 17 (by decide +kernel) ?_
 refine zg7 ?_
 refine cp am2 (c_SMul a.x b.y S (by omega) a1 y2) ?_
 refine zg6 ?_
 refine cp am2 (c_SMul a.y b.x S (by omega) a2 y1) ?_
 refine cp am2 (c_SSub (muS a.x b.y) (muS a.y b.x) (S+S) (by omega) m01 m10) ?_
 refine zg10 ?_
 refine wl_unroll ?_
 refine zg6 ?_
 refine wl_condY (b:=_) rfl (by decide) ?_
 refine zg12 ?_
 exact retC [] rfl rfl rfl cs (at_all cs rfl) T74 (.pure pu)
namespace H_c_FPNors
theorem zSm {p q:Prop} (k:q) (e:p=q:=by simp only [e1,e2,e3,e4,p1,p2,p3,q1,q2,q3,l1,t0,t1,r1,r2,r3,r4,Nat.zero_add,Nat.reduceMul,Nat.reduceAdd,b1,b2,b3,b4,b5,b6,i1,i2,i3,i4,i5,i6,Nat.reduceBEq,prL_kill,kills_map prE,dfr,dfq,take_map_len,map_snoc,len_snoc,List.length_cons,List.length_nil,List.nil_append,List.map_nil,List.take_nil,List.append_nil,List.set_cons_zero,List.set_cons_succ,Nat.reduceEqDiff,reduceIte,if_true,if_false,ptL_kill,poL_kill,kills_map ptE,kills_map poE,kills_map ratE,ratL_kill,spL_kill,LV.kill,kills];exact rfl):p:=e.mpr k
end H_c_FPNors
open H_c_FPNors in
theorem c_FPNors (U V:Nat) (kU kV:List Rat) (rows:List (List PoR)) (a b:Bx3) (S:Nat) (hS:S≤100000000) (ha:bdB S a) (hb:bdB S b) (hD:CallP Tryz.prog 41 [.agg [nI64 U,nI64 V,.list 3 (kU.map ratL),.list 3 (kV.map ratL),.list 1 (rows.map prL)]] (.tup [bxL a,bxL b])):CallP Tryz.prog 43 [.agg [nI64 U,nI64 V,.list 3 (kU.map ratL),.list 3 (kV.map ratL),.list 1 (rows.map prL)]] (bxL (bxX a b)):=by
 have hsp:LV.pure (.agg [nI64 U,nI64 V,.list 3 (kU.map ratL),.list 3 (kV.map ratL),.list 1 (rows.map prL)])=true:=by simp [LV.pure,pures,pures_map ratE,pures_map prE]
 obtain⟨a1,a2,a3⟩:=ha
 obtain⟨y1,y2,y3⟩:=hb
 have m01:=muS_bd a1 y2
 have m02:=muS_bd a1 y3
 have m10:=muS_bd a2 y1
 have m12:=muS_bd a2 y3
 have m20:=muS_bd a3 y1
 have m21:=muS_bd a3 y2
 refine fnP Tryz.func43 (ht:=(fun r=>LV.ren_pure r _ (bxE.pure _))) ?_
 refine zg9 ?_
 refine cp am1 (hD) ?_
 refine zg21 ?_
 refine wl_unroll ?_
 refine zg7 ?_
 refine wl_condX (b:=_) rfl (by decide) ?_
 refine zg7 ?_
 refine st_pure rfl (.bin rfl rfl (show binI .add .i64 0 1=some (.int .i64 ((1:Nat):Int)) from rfl)) ?_
 refine st_pure rfl (.bin rfl rfl (show binI .rem .i64 1 3=some (.int .i64 ((1:Nat):Int)) from rfl)) ?_
 refine zg1 ?_
 refine st_pure rfl (.bin rfl rfl (show binI .add .i64 0 2=some (.int .i64 ((2:Nat):Int)) from rfl)) ?_
 refine st_pure rfl (.bin rfl rfl (show binI .rem .i64 2 3=some (.int .i64 ((2:Nat):Int)) from rfl)) ?_
 refine zg4 ?_
 refine wl_regD 17 (by decide +kernel) ?_
 refine zg7 ?_
 refine cp am2 (c_FSMul a.y b.z S (by omega) a2 y3) ?_
 refine zg6 ?_
 refine cp am2 (c_FSMul a.z b.y S (by omega) a3 y2) ?_
 refine cp am2 (c_FSSub (muS a.y b.z) (muS a.z b.y) (S+S) (by omega) m12 m21) ?_
 refine zg11 ?_
 refine wl_unroll ?_
 refine zg7 ?_
 refine wl_condX (b:=_) rfl (by decide) ?_
 refine zg7 ?_
 refine st_pure rfl (.bin rfl rfl (show binI .add .i64 1 1=some (.int .i64 ((2:Nat):Int)) from rfl)) ?_
 refine st_pure rfl (.bin rfl rfl (show binI .rem .i64 2 3=some (.int .i64 ((2:Nat):Int)) from rfl)) ?_
 refine zg1 ?_
 refine st_pure rfl (.bin rfl rfl (show binI .add .i64 1 2=some (.int .i64 ((3:Nat):Int)) from rfl)) ?_
 refine st_pure rfl (.bin rfl rfl (show binI .rem .i64 3 3=some (.int .i64 ((0:Nat):Int)) from rfl)) ?_
 refine zg4 ?_
 refine wl_regD 17 (by decide +kernel) ?_
 refine zg7 ?_
 refine cp am2 (c_FSMul a.z b.x S (by omega) a3 y1) ?_
 refine zg6 ?_
 refine cp am2 (c_FSMul a.x b.z S (by omega) a1 y3) ?_
 refine cp am2 (c_FSSub (muS a.z b.x) (muS a.x b.z) (S+S) (by omega) m20 m02) ?_
 refine zg11 ?_
 refine wl_unroll ?_
 refine zg7 ?_
 refine wl_condX (b:=_) rfl (by decide) ?_
 refine zg7 ?_
 refine st_pure rfl (.bin rfl rfl (show binI .add .i64 2 1=some (.int .i64 ((3:Nat):Int)) from rfl)) ?_
 refine st_pure rfl (.bin rfl rfl (show binI .rem .i64 3 3=some (.int .i64 ((0:Nat):Int)) from rfl)) ?_
 refine zg1 ?_
 refine st_pure rfl (.bin rfl rfl (show binI .add .i64 2 2=some (.int .i64 ((4:Nat):Int)) from rfl)) ?_
 refine st_pure rfl (.bin rfl rfl (show binI .rem .i64 4 3=some (.int .i64 ((1:Nat):Int)) from rfl)) ?_
 refine zg4 ?_
 refine wl_regD 17 (by decide +kernel) ?_
 refine zg7 ?_
 refine cp am2 (c_FSMul a.x b.y S (by omega) a1 y2) ?_
 refine zg6 ?_
 refine cp am2 (c_FSMul a.y b.x S (by omega) a2 y1) ?_
 refine cp am2 (c_FSSub (muS a.x b.y) (muS a.y b.x) (S+S) (by omega) m01 m10) ?_
 refine zg11 ?_
 refine wl_unroll ?_
 refine zg7 ?_
 refine wl_condY (b:=_) rfl (by decide) ?_
 refine zg12 ?_
 exact retC [] rfl rfl rfl cs (at_all cs rfl) T74 (.pure pu)
end Go.Proofs.YtfpdccbgngdhkaaGreat
end
section
set_option linter.unusedVariables false
set_option linter.unusedSimpArgs false
set_option maxHeartbeats 8000000
set_option maxRecDepth 100000
attribute [local irreducible] Go.Lg.opsL Go.Lg.wpL Go.Lg.thenL Go.Lg.blockL
namespace Go.Proofs.YtfpdccbgngdhkaaGreat
open Go.Lg
def eqV (p q:V3):Bool:=decide (p.x=q.x) && (decide (p.y=q.y) && decide (p.z=q.z))
theorem eqV_iff {p q:V3}:eqV p q=true↔p=q:=by
 obtain⟨a,b,c⟩:=p
 obtain⟨d,e,f⟩:=q
 simp [eqV]
theorem eqV_no {p q:V3} (h:eqV p q=false):p≠q:=fun e=>by
 rw [eqV_iff.2 e] at h;cases h
def thN (a b c:V3):V3:=v3x (v3s b a) (v3s c a)
theorem thN_bd {R:Nat} {a b c:V3} (ha:bd3 R a) (hb:bd3 R b) (hc:bd3 R c):bd3 (8*R+9) (thN a b c):=(v3x_bd (v3s_rl hb ha) (v3s_rl hc ha)).le (by omega)
def flT (n:V3) (d:Rat) (l:List V3):Rat:=l.foldl (fun o p=>mxR o ((v3d n p-d)*(v3d n p-d))) 0
theorem fl_nil (n:V3) (d:Rat):flT n d []=0:=rfl
theorem fl_snoc (n:V3) (d:Rat) (l:List V3) {i:Nat} (h:i<l.length):mxR (flT n d (l.take i)) ((v3d n (l.getD i default)-d)*(v3d n (l.getD i default)-d))=flT n d (l.take (i+1)):=by
 rw [List.take_succ_eq_append_getElem h,flT,flT,List.foldl_append,List.getD_eq_getElem?_getD,List.getElem?_eq_getElem h];rfl
theorem fl_rl {n:V3} {d:Rat} {B:Nat}:∀ (l:List V3) (o:Rat),(∀ p∈l,rl ((v3d n p-d)*(v3d n p-d))≤B)→rl o≤B→rl (l.foldl (fun o p=>mxR o ((v3d n p-d)*(v3d n p-d))) o)≤B
 | [],o,_,h=>h
 | p :: l,o,hl,h=>fl_rl l _ (fun q hq=>hl q (List.mem_cons_of_mem _ hq)) (mx_rl3 h (hl p (List.mem_cons_self ..)))
theorem nn_pos {n:V3} (h:eqV n ⟨0,0,0⟩=false):0<v3d n n:=by
 have h1:=eqV_no h
 obtain⟨x,y,z⟩:=n
 have sq:∀ a:Rat,0≤a*a:=fun a=>by
  rcases Rat.le_total (a:=0) (b:=a) with g | g
  ·exact Rat.mul_nonneg g g
  ·have:=Rat.mul_nonneg (show 0≤-a by grind) (show 0≤-a by grind)
   grind
 have sp:∀ a:Rat,a≠0→0<a*a:=fun a ha=>by
  rcases Rat.le_total (a:=0) (b:=a) with g | g
  ·exact Rat.mul_pos (by grind) (by grind)
  ·have:=Rat.mul_pos (show 0 < -a by grind) (show 0 < -a by grind)
   grind
 have s1:=sq x
 have s2:=sq y
 have s3:=sq z
 unfold v3d
 simp only
 by_cases hx:x=0
 ·by_cases hy:y=0
  ·by_cases hz:z=0
   ·subst hx hy hz;exact absurd rfl h1
   ·have:=sp z hz;grind
  ·have:=sp y hy;grind
 ·have:=sp x hx;grind
section
variable {R U V:Nat} {rows:List (List PoR)} (h:pf R U V rows)
include h
theorem pf.r0 {i:Nat} (hi:i≤U):(rows.getD i []).length=V+1:=h.m _ (getR_mem (by rw [h.n];omega))
theorem pf.pt {i j:Nat} (hi:i≤U) (hj:j≤V):bd3 R ((rows.getD i []).getD j default).p:=(h.ok _ (getR_mem (by rw [h.n];omega)) _ (getD_memP (by rw [h.r0 hi];omega))).1
theorem pf.fp {i:Nat} (hi:i<(rows.flatten.map (·.p)).length):bd3 R ((rows.flatten.map (·.p)).getD i default):=by
 rw [ps_get]
 exact(h.fok _ (getD_memP (by rw [List.length_map] at hi;exact hi))).1
theorem pf.fa:∀ p∈rows.flatten.map (·.p),bd3 R p:=fun p hp=>by
 obtain⟨q,hq,rfl⟩:=List.mem_map.1 hp
 exact(h.fok q hq).1
theorem pf.thb:bd3 (8*R+9) (thN ((rows.getD 0 []).getD 0 default).p ((rows.getD U []).getD 0 default).p ((rows.getD 0 []).getD V default).p):=thN_bd (h.pt (Nat.zero_le _) (Nat.zero_le _)) (h.pt (Nat.le_refl _) (Nat.zero_le _)) (h.pt (Nat.zero_le _) (Nat.le_refl _))
end
theorem fl_sz {R:Nat} {n p:V3} {d:Rat} (hn:bd3 (8*R+9) n) (hd:rl d≤27*R+31) (hp:bd3 R p):rl (v3d n p)≤27*R+31∧rl (v3d n p-d)≤54*R+63∧rl ((v3d n p-d)*(v3d n p-d))≤108*R+126:=by
 have h1:=v3d_rl hn hp
 have h2:=rl_sub (v3d n p) d
 have h3:=rl_mul (v3d n p-d) (v3d n p-d)
 omega
theorem fl_all {R:Nat} {n:V3} {d:Rat} {l:List V3} (hn:bd3 (8*R+9) n) (hd:rl d≤27*R+31) (hl:∀ p∈l,bd3 R p) (i:Nat):rl (flT n d (l.take i))≤108*R+126 :=
 fl_rl _ _ (fun p hp=>(fl_sz hn hd (hl p (List.mem_of_mem_take hp))).2.2) (by show rl 0≤_;rw [show rl 0=1 from rfl];omega)
theorem zdiv (c:Rat):0/c=0:=by rw [Rat.div_def,Rat.zero_mul]
theorem plcs:(LV.agg [LV.agg [ratL 0,ratL 0,ratL 0],ratL 0]).csize=12:=by simp [LV.csize,csizes,ratE.csize]
theorem plcs2:(LV.agg [LV.agg [LV.agg [.v (.bool false),.list 1 [],.list 1 []],LV.agg [.v (.bool false),.list 1 [],.list 1 []],LV.agg [.v (.bool false),.list 1 [],.list 1 []]],LV.agg [.v (.bool false),.list 1 [],.list 1 []]]).csize=12:=by simp [LV.csize,csizes]
namespace H_c_VPtEq
theorem zSm {p q:Prop} (k:q) (e:p=q:=by simp only [e1,e2,e3,e4,p1,p2,p3,q1,q2,q3,l1,t0,t1,r1,r2,r3,r4,Nat.zero_add,Nat.reduceMul,Nat.reduceAdd,b1,b2,b3,b4,b5,b6,i1,i2,i3,i4,i5,i6,Nat.reduceBEq,List.set_cons_zero,List.set_cons_succ,Nat.reduceEqDiff,reduceIte,if_true,if_false,ptL_kill,poL_kill,kills_map ptE,kills_map poE,kills_map ratE,ratL_kill,spL_kill,LV.kill,kills];exact rfl):p:=e.mpr k
end H_c_VPtEq
open H_c_VPtEq in
theorem c_VPtEq (p q:V3) (hp:bd3 100000000000 p) (hq:bd3 100000000000 q):CallP Tryz.prog 95 [ptL p,ptL q] (bL (eqV p q)):=by
 obtain⟨a1,a2,a3⟩:=hp
 obtain⟨y1,y2,y3⟩:=hq
 refine fnP Tryz.func95 ?_
 refine zg14 ?_
 refine wl_unroll ?_
 refine zg6 ?_
 refine wl_condX (b:=_) rfl (by decide) ?_
 refine zg11 ?_
 refine wl_regD 8 (by decide +kernel) ?_
 refine zg6 ?_
 refine cp am2 (c_RSame p.x q.x (by omega)) ?_
 refine zg3 ?_
 refine wl_if rfl (fun h16r h16=>?_) (fun h16r h16=>?_)
 ·refine zg11 ?_
  rw [show eqV p q=false from by unfold eqV;simp [h16]]
  exact ret1 rfl (.pure rfl)
 ·have g00:p.x=q.x:=by simpa using h16
  refine zg8 ?_
  refine wl_unroll ?_
  refine zg6 ?_
  refine wl_condX (b:=_) rfl (by decide) ?_
  refine zg11 ?_
  refine wl_regD 8 (by decide +kernel) ?_
  refine zg6 ?_
  refine cp am2 (c_RSame p.y q.y (by omega)) ?_
  refine zg3 ?_
  refine wl_if rfl (fun h16r h16=>?_) (fun h16r h16=>?_)
  ·refine zg11 ?_
   rw [show eqV p q=false from by unfold eqV;simp [h16]]
   exact ret1 rfl (.pure rfl)
  ·have g10:p.y=q.y:=by simpa using h16
   refine zg8 ?_
   refine wl_unroll ?_
   refine zg6 ?_
   refine wl_condX (b:=_) rfl (by decide) ?_
   refine zg11 ?_
   refine wl_regD 8 (by decide +kernel) ?_
   refine zg6 ?_
   refine cp am2 (c_RSame p.z q.z (by omega)) ?_
   refine zg3 ?_
   refine wl_if rfl (fun h16r h16=>?_) (fun h16r h16=>?_)
   ·refine zg11 ?_
    rw [show eqV p q=false from by unfold eqV;simp [h16]]
    exact ret1 rfl (.pure rfl)
   ·have g20:p.z=q.z:=by simpa using h16
    refine zg8 ?_
    refine wl_unroll ?_
    refine zg6 ?_
    refine wl_condY (b:=_) rfl (by decide) ?_
    refine zg11 ?_
    rw [show eqV p q=true from by unfold eqV;simp [g00,g10,g20]]
    exact ret1 rfl (.pure rfl)
namespace H_c_VZero
theorem zSm {p q:Prop} (k:q) (e:p=q:=by simp only [e1,e2,e3,e4,p1,p2,p3,q1,q2,q3,l1,t0,t1,r1,r2,r3,r4,Nat.zero_add,Nat.reduceMul,Nat.reduceAdd,b1,b2,b3,b4,b5,b6,i1,i2,i3,i4,i5,i6,Nat.reduceBEq,List.set_cons_zero,List.set_cons_succ,Nat.reduceEqDiff,reduceIte,if_true,if_false,ptL_kill,poL_kill,kills_map ptE,kills_map poE,kills_map ratE,ratL_kill,spL_kill,LV.kill,kills];exact rfl):p:=e.mpr k
end H_c_VZero
open H_c_VZero in
theorem c_VZero (p:V3) (hp:bd3 100000000000 p):CallP Tryz.prog 150 [ptL p] (bL (eqV p ⟨0,0,0⟩)):=by
 refine fnP Tryz.func150 ?_
 refine zg9 ?_
 refine s0bd bdP0 ?_
 refine cp am2 (c_VPtEq p ⟨0,0,0⟩ hp ⟨by decide +kernel,by decide +kernel,by decide +kernel⟩) ?_
 refine zg4 ?_
 exact ret1 rfl (.pure rfl)
namespace H_c_VTh
theorem zSm {p q:Prop} (k:q) (e:p=q:=by simp only [e1,e2,e3,e4,p1,p2,p3,q1,q2,q3,l1,t0,t1,r1,r2,r3,r4,Nat.zero_add,Nat.reduceMul,Nat.reduceAdd,b1,b2,b3,b4,b5,b6,i1,i2,i3,i4,i5,i6,Nat.reduceBEq,List.set_cons_zero,List.set_cons_succ,Nat.reduceEqDiff,reduceIte,if_true,if_false,ptL_kill,poL_kill,kills_map ptE,kills_map poE,kills_map ratE,ratL_kill,spL_kill,LV.kill,kills];exact rfl):p:=e.mpr k
end H_c_VTh
open H_c_VTh in
theorem c_VTh (a b c:V3) (R:Nat) (hR:R≤10000000) (ha:bd3 R a) (hb:bd3 R b) (hc:bd3 R c) (hz:eqV (thN a b c) ⟨0,0,0⟩=false):CallP Tryz.prog 80 [ptL a,ptL b,ptL c] (.tup [poL ⟨(thN a b c),v3d (thN a b c) a⟩,iL 0]):=by
 have hn:=thN_bd ha hb hc
 have hs1:=v3s_rl hb ha
 have hs2:=v3s_rl hc ha
 have hZ:CallP Tryz.prog 150 [ptL (thN a b c)] (bL false):=by
  have:=c_VZero (thN a b c) (hn.le (by omega))
  rwa [hz] at this
 refine fnP Tryz.func80 (ht:=(tame2 (poE.pure _) rfl)) ?_
 refine zg10 ?_
 refine wl_regD 8 (by decide +kernel) ?_
 refine zg2 ?_
 refine cp am2 (c_VSub b a R (by omega) hb ha) ?_
 refine zg2 ?_
 refine cp am2 (c_VSub c a R (by omega) hc ha) ?_
 refine cp am2 (c_VCross (v3s b a) (v3s c a) (2*R+1) (by omega) hs1 hs2) ?_
 refine zg8 ?_
 refine cp am1 (hZ) ?_
 refine zg2 ?_
 refine wl_if rfl (fun h17r h17=>?_) (fun h17r h17=>?_)
 ·first | exact h17.elim | cases h17r
 ·refine zg3 ?_
  refine wl_regD 5 (by decide +kernel) ?_
  refine zg3 ?_
  refine cp am2 (c_VDot (thN a b c) a (8*R+9) (by omega) hn (ha.le (by omega))) ?_
  refine s0bd (bdPo (p:=(thN a b c)) (r:=v3d (thN a b c) a) rfl rfl) ?_
  refine zg5 ?_
  exact retCT [] rfl rfl rfl cs (at_all cs rfl) T86 (.pure pu) rfl (.pure rfl)
namespace H_c_ppts
theorem zSm {p q:Prop} (k:q) (e:p=q:=by simp only [e1,e2,e3,e4,p1,p2,p3,q1,q2,q3,l1,t0,t1,r1,r2,r3,r4,Nat.zero_add,Nat.reduceMul,Nat.reduceAdd,b1,b2,b3,b4,b5,b6,i1,i2,i3,i4,i5,i6,Nat.reduceBEq,prL,etk,ers,ehpm,len_snoc,prL_kill,kills_map prE,dfr,dfq,take_map_len,map_snoc,len_snoc,List.length_cons,List.length_nil,List.nil_append,List.map_nil,List.take_nil,List.append_nil,List.set_cons_zero,List.set_cons_succ,Nat.reduceEqDiff,reduceIte,if_true,if_false,ptL_kill,poL_kill,kills_map ptE,kills_map poE,kills_map ratE,ratL_kill,spL_kill,LV.kill,kills];exact rfl):p:=e.mpr k
end H_c_ppts
open H_c_ppts in
theorem c_ppts (U V:Nat) (kU kV:List Rat) (rows:List (List PoR)) (R:Nat) (hw:rwOK rows R):CallP Tryz.prog 81 [.agg [nI64 U,nI64 V,.list 3 (kU.map ratL),.list 3 (kV.map ratL),.list 1 (rows.map prL)]] (.list 9 ((rows.flatten.map (·.p)).map ptL)):=by
 have hsp:LV.pure (.agg [nI64 U,nI64 V,.list 3 (kU.map ratL),.list 3 (kV.map ratL),.list 1 (rows.map prL)])=true:=by simp [LV.pure,pures,pures_map ratE,pures_map prE]
 have hwn:=hw.n
 have hwf:=hw.f
 refine fnP Tryz.func81 (ht:=(fun g=>LV.ren_pure g _ (pure_lst ptE 9 _))) ?_
 have etk:True:=trivial
 have ers:True:=trivial
 have ehpm:True:=trivial
 refine zg21 ?_
 refine wl_weak ((Weak.kill _ 1).trans (Weak.own (t:=3) 25 9 rfl rfl)) ?_
 refine lp2 (fun(i:Nat) (ps:List PoR) L=>(((((St.mk L.slot (hp [(25,⟨9,(ps.map (·.p)).map ptL,true⟩)])).put (some 3) (.ref 25 9 0 ps.length)).put (some 9) (.list 1 (rows.map prL))).put (some 10) (nI64 rows.length)).put (some 11) (nI64 i))) (fun i ps=>rwI rows i ps) (fun i ps=>rows.length-i) 0 ([]) (rwI.zero rows) ?_
 rintro i ps L1 hI
 refine zg6 ?_
 refine wl_if rfl (fun h12r h12=>?_) (fun h12r h12=>?_)
 ·have hi2:i<rows.length:=by omega
  refine zg19 ?_
  refine lp2 (fun(j:Nat) (qs:List PoR) L=>((((((((St.mk L.slot (hp [(25,⟨9,(qs.map (·.p)).map ptL,true⟩)])).put (some 3) (.ref 25 9 0 qs.length)).put (some 9) (.list 1 (rows.map prL))).put (some 10) (nI64 rows.length)).put (some 11) (nI64 i)).put (some 15) (.list 12 ((rows.getD i []).map poL))).put (some 16) (nI64 (rows.getD i []).length)).put (some 17) (nI64 j))) (fun j qs=>rwJ rows i j qs) (fun j qs=>(rows.getD i []).length-j) 0 ps (hI.go hi2) ?_
  rintro j qs L2 hJ
  refine zg6 ?_
  refine wl_if rfl (fun h18r h18=>?_) (fun h18r h18=>?_)
  ·have hj2:j<(rows.getD i []).length:=by omega
   have hJe:=hJ.hj
   have hJl:=hJ.le
   have hJi:=hJ.hi
   have hrm:=getR_mem hJi
   have hrl:=hw.m _ hrm
   have ers:(qs.map (·.p))++[((rows.getD i []).getD j default).p]=((qs++[((rows.getD i []).getD j default)]).map (·.p)):=by simp
   have etk:((qs.map (·.p)).map ptL).take qs.length=(qs.map (·.p)).map ptL:=List.take_of_length_le (by simp)
   have ehpm:(qs.map (·.p)).length=qs.length:=List.length_map ..
   have hJ2:=hJ.lt hj2
   refine zg17 ?_
   refine st_store rfl (.appX (d:=25) (news:=[ptL ((rows.getD i []).getD j default).p]) rfl rfl rfl rfl (by simp) (.inl rfl) (by decide) Tryz.underlying122 Tryz.underlying122 Z31 T31 cs B31 (.inl ⟨24,0,_,rfl,by decide,rfl,rfl,by simp,rfl,by simp [pures,ptE.pure]⟩) (by simp;omega) (by simp;omega) (by decide)) ?_
   refine zg4 ?_
   refine wl_regW ((Weak.kill _ 7).trans (Weak.kill _ 24)) ?_
   refine st_pure rfl (.bin rfl rfl (add1N (by omega))) ?_
   refine zg3 ?_
   exact nx2 (j+1) (qs++[((rows.getD i []).getD j default)]) (hJ.next hj2)
  ·have hJe:=hJ.hj
   have hJl:=hJ.le
   have hJi:=hJ.hi
   have hrm:=getR_mem hJi
   have hrl:=hw.m _ hrm
   obtain rfl:j=(rows.getD i []).length:=by omega
   refine zg7 ?_
   refine st_pure rfl (.bin rfl rfl (add1N (by omega))) ?_
   refine zg3 ?_
   exact nx2 (i+1) qs hJ.last (hm:=by have:=hJ.hi;omega)
 ·have hIi:=hI.hi
  obtain rfl:i=rows.length:=by omega
  have hE:=hI.last
  subst hE
  refine zg12 ?_
  exact ret1f [25] rfl rfl (imm_refm ptE rfl rfl (by rw [List.length_map]))
namespace H_c_PFlat
theorem zSm {p q:Prop} (k:q) (e:p=q:=by simp only [e1,e2,e3,e4,p1,p2,p3,q1,q2,q3,l1,t0,t1,r1,r2,r3,r4,Nat.zero_add,Nat.reduceMul,Nat.reduceAdd,b1,b2,b3,b4,b5,b6,i1,i2,i3,i4,i5,i6,Nat.reduceBEq,hT,hT2,ratL_zero,plcs,plcs2,Nat.add_sub_cancel,dfr,dfq,prL,hrn,hr0,hrU,hixU,hixV,hpl,List.length_map,List.take_zero,fl_nil,zdiv,List.set_cons_zero,List.set_cons_succ,Nat.reduceEqDiff,reduceIte,if_true,if_false,ptL_kill,poL_kill,kills_map ptE,kills_map poE,kills_map ratE,ratL_kill,spL_kill,LV.kill,kills];exact rfl):p:=e.mpr k
end H_c_PFlat
open H_c_PFlat in
theorem c_PFlat (R U V:Nat) (kU kV:List Rat) (rows:List (List PoR)) (h:pf R U V rows) (hR:R≤200000) (hz:eqV (thN ((rows.getD 0 []).getD 0 default).p ((rows.getD U []).getD 0 default).p ((rows.getD 0 []).getD V default).p) ⟨0,0,0⟩=false):CallP Tryz.prog 27 [.agg [nI64 U,nI64 V,.list 3 (kU.map ratL),.list 3 (kV.map ratL),.list 1 (rows.map prL)]] (.tup [ratL ((flT (thN ((rows.getD 0 []).getD 0 default).p ((rows.getD U []).getD 0 default).p ((rows.getD 0 []).getD V default).p) (v3d (thN ((rows.getD 0 []).getD 0 default).p ((rows.getD U []).getD 0 default).p ((rows.getD 0 []).getD V default).p) ((rows.getD 0 []).getD 0 default).p) (rows.flatten.map (·.p)))/(v3d (thN ((rows.getD 0 []).getD 0 default).p ((rows.getD U []).getD 0 default).p ((rows.getD 0 []).getD V default).p) (thN ((rows.getD 0 []).getD 0 default).p ((rows.getD U []).getD 0 default).p ((rows.getD 0 []).getD V default).p))),iL 0]):=by
 have hsp:LV.pure (.agg [nI64 U,nI64 V,.list 3 (kU.map ratL),.list 3 (kV.map ratL),.list 1 (rows.map prL)])=true:=by simp [LV.pure,pures,pures_map ratE,pures_map prE]
 have h16:=h.l16
 have h0:=h.pos
 have hpl:(rows.flatten.map (·.p)).length=rows.flatten.length:=List.length_map ..
 have hu3:=h.u3
 have hv3:=h.v3
 have hrn:=h.n
 have hr0:=h.r0 (Nat.zero_le U)
 have hrU:=h.r0 (Nat.le_refl U)
 have hixU:(((U+1:Nat):Int)-1).toNat=U:=by omega
 have hixV:(((V+1:Nat):Int)-1).toNat=V:=by omega
 have hA:=h.pt (i:=0) (j:=0) (by omega) (by omega)
 have hB:=h.pt (i:=U) (j:=0) (by omega) (by omega)
 have hC:=h.pt (i:=0) (j:=V) (by omega) (by omega)
 have hT:(rows.flatten.map (·.p)).take (rows.flatten.map (·.p)).length=(rows.flatten.map (·.p)):=List.take_of_length_le (Nat.le_refl _)
 have hT2:(rows.flatten.map (·.p)).take rows.flatten.length=(rows.flatten.map (·.p)):=by rw [←hpl];exact hT
 have hnb:bd3 (8*R+9) (thN ((rows.getD 0 []).getD 0 default).p ((rows.getD U []).getD 0 default).p ((rows.getD 0 []).getD V default).p):=h.thb
 have hdr:rl (v3d (thN ((rows.getD 0 []).getD 0 default).p ((rows.getD U []).getD 0 default).p ((rows.getD 0 []).getD V default).p) ((rows.getD 0 []).getD 0 default).p)≤27*R+31:=by have:=v3d_rl hnb hA;omega
 have hdd:rl (v3d (thN ((rows.getD 0 []).getD 0 default).p ((rows.getD U []).getD 0 default).p ((rows.getD 0 []).getD V default).p) (thN ((rows.getD 0 []).getD 0 default).p ((rows.getD U []).getD 0 default).p ((rows.getD 0 []).getD V default).p))≤48*R+58:=by have:=v3d_rl hnb hnb;omega
 have hfa:=fun i=>fl_all hnb hdr h.fa i
 have hdp:0<(v3d (thN ((rows.getD 0 []).getD 0 default).p ((rows.getD U []).getD 0 default).p ((rows.getD 0 []).getD V default).p) (thN ((rows.getD 0 []).getD 0 default).p ((rows.getD U []).getD 0 default).p ((rows.getD 0 []).getD V default).p)):=nn_pos hz
 refine fnP Tryz.func27 (ht:=(tame2 (ratE.pure _) rfl)) ?_
 refine zg15 ?_
 refine st_pure (guardX (v:=false) rfl rfl ((beq_eq_false_iff_ne.2 (by first | omega | (simp only [List.length_map,prL,hrn,dfr,t0,t1,Nat.add_sub_cancel,hr0,hixU,hrU];omega)))) rfl) faA ?_
 refine st_pure (guardX (v:=false) rfl rfl ((beq_eq_false_iff_ne.2 (by first | omega | (simp only [List.length_map,prL,hrn,dfr,t0,t1,Nat.add_sub_cancel,hr0,hixU,hrU];omega)))) rfl) ldA ?_
 refine st_pure (guardX (v:=false) rfl rfl ((beq_eq_false_iff_ne.2 (by first | omega | (simp only [List.length_map,prL,hrn,dfr,t0,t1,Nat.add_sub_cancel,hr0,hixU,hrU];omega)))) rfl) ixA ?_
 refine st_pure (guardX (v:=false) rfl rfl ((beq_eq_false_iff_ne.2 (by first | omega | (simp only [List.length_map,prL,hrn,dfr,t0,t1,Nat.add_sub_cancel,hr0,hixU,hrU];omega)))) rfl) ldA ?_
 refine st_pure (guardX (v:=false) rfl rfl ((beq_eq_false_iff_ne.2 (by first | omega | (simp only [List.length_map,prL,hrn,dfr,t0,t1,Nat.add_sub_cancel,hr0,hixU,hrU];omega)))) rfl) lnA ?_
 refine st_pure (guardX (v:=false) rfl rfl ((beq_eq_false_iff_ne.2 (by first | omega | (simp only [List.length_map,prL,hrn,dfr,t0,t1,Nat.add_sub_cancel,hr0,hixU,hrU];omega)))) rfl) (.bin rfl rfl rfl) ?_
 refine st_pure rfl (.pickF rfl ((beq_eq_false_iff_ne.2 (by first | omega | (simp only [List.length_map,prL,hrn,dfr,t0,t1,Nat.add_sub_cancel,hr0,hixU,hrU];omega))))) ?_
 refine zg1 ?_
 refine st_pure (guardX (v:=false) rfl rfl ((beq_eq_false_iff_ne.2 (by first | omega | (simp only [List.length_map,prL,hrn,dfr,t0,t1,Nat.add_sub_cancel,hr0,hixU,hrU];omega)))) rfl) faA ?_
 refine st_pure (guardX (v:=false) rfl rfl ((beq_eq_false_iff_ne.2 (by first | omega | (simp only [List.length_map,prL,hrn,dfr,t0,t1,Nat.add_sub_cancel,hr0,hixU,hrU];omega)))) rfl) ldA ?_
 refine st_pure (guardX (v:=false) rfl rfl ((beq_eq_false_iff_ne.2 (by first | omega | (simp only [List.length_map,prL,hrn,dfr,t0,t1,Nat.add_sub_cancel,hr0,hixU,hrU];omega)))) rfl) faA ?_
 refine st_pure (guardX (v:=false) rfl rfl ((beq_eq_false_iff_ne.2 (by first | omega | (simp only [List.length_map,prL,hrn,dfr,t0,t1,Nat.add_sub_cancel,hr0,hixU,hrU];omega)))) rfl) ldA ?_
 refine st_pure (guardX (v:=false) rfl rfl ((beq_eq_false_iff_ne.2 (by first | omega | (simp only [List.length_map,prL,hrn,dfr,t0,t1,Nat.add_sub_cancel,hr0,hixU,hrU];omega)))) rfl) lnA ?_
 refine st_pure (guardX (v:=false) rfl rfl ((beq_eq_false_iff_ne.2 (by first | omega | (simp only [List.length_map,prL,hrn,dfr,t0,t1,Nat.add_sub_cancel,hr0,hixU,hrU];omega)))) rfl) (.bin rfl rfl (sub1N (by first | omega | (simp only [List.length_map,prL,hrn,dfr,t0,t1,Nat.add_sub_cancel,hr0,hixU,hrU];omega)) (by first | omega | (simp only [List.length_map,prL,hrn,dfr,t0,t1,Nat.add_sub_cancel,hr0,hixU,hrU];omega)))) ?_
 refine st_pure (guardX (v:=false) rfl rfl ((beq_eq_false_iff_ne.2 (by first | omega | (simp only [List.length_map,prL,hrn,dfr,t0,t1,Nat.add_sub_cancel,hr0,hixU,hrU];omega)))) rfl) ixA ?_
 try simp only [t1,dfr,prL,List.length_map,hrn,hixU,Nat.add_sub_cancel]
 refine st_pure (guardX (v:=false) rfl rfl ((beq_eq_false_iff_ne.2 (by first | omega | (simp only [List.length_map,prL,hrn,dfr,t0,t1,Nat.add_sub_cancel,hr0,hixU,hrU];omega)))) rfl) ldA ?_
 refine st_pure (guardX (v:=false) rfl rfl ((beq_eq_false_iff_ne.2 (by first | omega | (simp only [List.length_map,prL,hrn,dfr,t0,t1,Nat.add_sub_cancel,hr0,hixU,hrU];omega)))) rfl) lnA ?_
 refine st_pure (guardX (v:=false) rfl rfl ((beq_eq_false_iff_ne.2 (by first | omega | (simp only [List.length_map,prL,hrn,dfr,t0,t1,Nat.add_sub_cancel,hr0,hixU,hrU];omega)))) rfl) (.bin rfl rfl rfl) ?_
 refine st_pure rfl (.pickF rfl ((beq_eq_false_iff_ne.2 (by first | omega | (simp only [List.length_map,prL,hrn,dfr,t0,t1,Nat.add_sub_cancel,hr0,hixU,hrU];omega))))) ?_
 refine zg2 ?_
 refine wl_condY (b:=_) rfl (beq_eq_false_iff_ne.2 (by first | omega | (simp only [List.length_map,prL,hrn,dfr,t0,t1,Nat.add_sub_cancel,hr0,hixU,hrU];omega))) ?_
 refine zg12 ?_
 refine wl_regF 27 [25] (by decide +kernel) ?_
 refine zg9 ?_
 refine st_pure rfl (.bin rfl rfl (sub1N (by first | omega | (simp only [List.length_map,prL,hrn,dfr,t0,t1,Nat.add_sub_cancel,hr0,hixU,hrU];omega)) (by first | omega | (simp only [List.length_map,prL,hrn,dfr,t0,t1,Nat.add_sub_cancel,hr0,hixU,hrU];omega)))) ?_
 refine zg8 ?_
 refine st_pure rfl (.bin rfl rfl (sub1N (by first | omega | (simp only [List.length_map,prL,hrn,dfr,t0,t1,Nat.add_sub_cancel,hr0,hixU,hrU];omega)) (by first | omega | (simp only [List.length_map,prL,hrn,dfr,t0,t1,Nat.add_sub_cancel,hr0,hixU,hrU];omega)))) ?_
 refine zg3 ?_
 try simp only [t1,dfr,dfq,prL,List.length_map,hrn,hr0,hrU,hixU,hixV,Nat.add_sub_cancel]
 refine cp am3 (c_VTh ((rows.getD 0 []).getD 0 default).p ((rows.getD U []).getD 0 default).p ((rows.getD 0 []).getD V default).p R (by omega) hA hB hC hz) ?_
 refine zg15 ?_
 refine wl_condY (b:=_) rfl (rfl) ?_
 refine zg11 ?_
 refine cp am1 (c_ppts U V kU kV rows R h.rw) ?_
 refine zg5 ?_
 refine lp1 (fun(i:Nat) L=>((((((((St.mk L.slot (hp [(1,⟨5,[.agg [nI64 U,nI64 V,.list 3 (kU.map ratL),.list 3 (kV.map ratL),.list 1 (rows.map prL)]],true⟩),(2,⟨3,[ratL 0],true⟩),(5,⟨12,[poL ⟨(thN ((rows.getD 0 []).getD 0 default).p ((rows.getD U []).getD 0 default).p ((rows.getD 0 []).getD V default).p),(v3d (thN ((rows.getD 0 []).getD 0 default).p ((rows.getD U []).getD 0 default).p ((rows.getD 0 []).getD V default).p) ((rows.getD 0 []).getD 0 default).p)⟩],true⟩),(7,⟨3,[ratL (flT (thN ((rows.getD 0 []).getD 0 default).p ((rows.getD U []).getD 0 default).p ((rows.getD 0 []).getD V default).p) (v3d (thN ((rows.getD 0 []).getD 0 default).p ((rows.getD U []).getD 0 default).p ((rows.getD 0 []).getD V default).p) ((rows.getD 0 []).getD 0 default).p) ((rows.flatten.map (·.p)).take i))],true⟩)])).put (some 1) (.eptr 1 5 0 0)).put (some 2) (.eptr 2 3 0 0)).put (some 5) (.eptr 5 12 0 0)).put (some 7) (.eptr 7 3 0 0)).put (some 73) (.list 9 ((rows.flatten.map (·.p)).map ptL))).put (some 74) (nI64 (rows.flatten.map (·.p)).length)).put (some 75) (nI64 i))) (fun i=>i≤(rows.flatten.map (·.p)).length) (fun i=>(rows.flatten.map (·.p)).length-i) 0 (Nat.zero_le _) ?_
 rintro i L1 hi
 refine zg6 ?_
 refine wl_if rfl (fun h76r h76=>?_) (fun h76r h76=>?_)
 ·have hi2:i<(rows.flatten.map (·.p)).length:=by omega
  have hP:=h.fp hi2
  obtain⟨z1,z2,z3⟩:=fl_sz hnb hdr hP
  have hfi:=hfa i
  have hM:CallP Tryz.prog 84 [ratL (flT (thN ((rows.getD 0 []).getD 0 default).p ((rows.getD U []).getD 0 default).p ((rows.getD 0 []).getD V default).p) (v3d (thN ((rows.getD 0 []).getD 0 default).p ((rows.getD U []).getD 0 default).p ((rows.getD 0 []).getD V default).p) ((rows.getD 0 []).getD 0 default).p) ((rows.flatten.map (·.p)).take i)),ratL ((v3d (thN ((rows.getD 0 []).getD 0 default).p ((rows.getD U []).getD 0 default).p ((rows.getD 0 []).getD V default).p) ((rows.flatten.map (·.p)).getD i default)-(v3d (thN ((rows.getD 0 []).getD 0 default).p ((rows.getD U []).getD 0 default).p ((rows.getD 0 []).getD V default).p) ((rows.getD 0 []).getD 0 default).p))*(v3d (thN ((rows.getD 0 []).getD 0 default).p ((rows.getD U []).getD 0 default).p ((rows.getD 0 []).getD V default).p) ((rows.flatten.map (·.p)).getD i default)-(v3d (thN ((rows.getD 0 []).getD 0 default).p ((rows.getD U []).getD 0 default).p ((rows.getD 0 []).getD V default).p) ((rows.getD 0 []).getD 0 default).p)))] (ratL (flT (thN ((rows.getD 0 []).getD 0 default).p ((rows.getD U []).getD 0 default).p ((rows.getD 0 []).getD V default).p) (v3d (thN ((rows.getD 0 []).getD 0 default).p ((rows.getD U []).getD 0 default).p ((rows.getD 0 []).getD V default).p) ((rows.getD 0 []).getD 0 default).p) ((rows.flatten.map (·.p)).take (i+1)))):=by
   have:CallP Tryz.prog 84 [ratL (flT (thN ((rows.getD 0 []).getD 0 default).p ((rows.getD U []).getD 0 default).p ((rows.getD 0 []).getD V default).p) (v3d (thN ((rows.getD 0 []).getD 0 default).p ((rows.getD U []).getD 0 default).p ((rows.getD 0 []).getD V default).p) ((rows.getD 0 []).getD 0 default).p) ((rows.flatten.map (·.p)).take i)),ratL ((v3d (thN ((rows.getD 0 []).getD 0 default).p ((rows.getD U []).getD 0 default).p ((rows.getD 0 []).getD V default).p) ((rows.flatten.map (·.p)).getD i default)-(v3d (thN ((rows.getD 0 []).getD 0 default).p ((rows.getD U []).getD 0 default).p ((rows.getD 0 []).getD V default).p) ((rows.getD 0 []).getD 0 default).p))*(v3d (thN ((rows.getD 0 []).getD 0 default).p ((rows.getD U []).getD 0 default).p ((rows.getD 0 []).getD V default).p) ((rows.flatten.map (·.p)).getD i default)-(v3d (thN ((rows.getD 0 []).getD 0 default).p ((rows.getD U []).getD 0 default).p ((rows.getD 0 []).getD V default).p) ((rows.getD 0 []).getD 0 default).p)))] (ratL (mxR (flT (thN ((rows.getD 0 []).getD 0 default).p ((rows.getD U []).getD 0 default).p ((rows.getD 0 []).getD V default).p) (v3d (thN ((rows.getD 0 []).getD 0 default).p ((rows.getD U []).getD 0 default).p ((rows.getD 0 []).getD V default).p) ((rows.getD 0 []).getD 0 default).p) ((rows.flatten.map (·.p)).take i)) ((v3d (thN ((rows.getD 0 []).getD 0 default).p ((rows.getD U []).getD 0 default).p ((rows.getD 0 []).getD V default).p) ((rows.flatten.map (·.p)).getD i default)-(v3d (thN ((rows.getD 0 []).getD 0 default).p ((rows.getD U []).getD 0 default).p ((rows.getD 0 []).getD V default).p) ((rows.getD 0 []).getD 0 default).p))*(v3d (thN ((rows.getD 0 []).getD 0 default).p ((rows.getD U []).getD 0 default).p ((rows.getD 0 []).getD V default).p) ((rows.flatten.map (·.p)).getD i default)-(v3d (thN ((rows.getD 0 []).getD 0 default).p ((rows.getD U []).getD 0 default).p ((rows.getD 0 []).getD V default).p) ((rows.getD 0 []).getD 0 default).p))))):=c_RMax (flT (thN ((rows.getD 0 []).getD 0 default).p ((rows.getD U []).getD 0 default).p ((rows.getD 0 []).getD V default).p) (v3d (thN ((rows.getD 0 []).getD 0 default).p ((rows.getD U []).getD 0 default).p ((rows.getD 0 []).getD V default).p) ((rows.getD 0 []).getD 0 default).p) ((rows.flatten.map (·.p)).take i)) ((v3d (thN ((rows.getD 0 []).getD 0 default).p ((rows.getD U []).getD 0 default).p ((rows.getD 0 []).getD V default).p) ((rows.flatten.map (·.p)).getD i default)-(v3d (thN ((rows.getD 0 []).getD 0 default).p ((rows.getD U []).getD 0 default).p ((rows.getD 0 []).getD V default).p) ((rows.getD 0 []).getD 0 default).p))*(v3d (thN ((rows.getD 0 []).getD 0 default).p ((rows.getD U []).getD 0 default).p ((rows.getD 0 []).getD V default).p) ((rows.flatten.map (·.p)).getD i default)-(v3d (thN ((rows.getD 0 []).getD 0 default).p ((rows.getD U []).getD 0 default).p ((rows.getD 0 []).getD V default).p) ((rows.getD 0 []).getD 0 default).p))) (by omega)
   rwa [fl_snoc _ _ _ hi2] at this
  refine zg13 ?_
  refine wl_regD 8 (by decide +kernel) ?_
  refine zg3 ?_
  refine cp am2 (c_VDot (thN ((rows.getD 0 []).getD 0 default).p ((rows.getD U []).getD 0 default).p ((rows.getD 0 []).getD V default).p) ((rows.flatten.map (·.p)).getD i default) (8*R+9) (by omega) hnb (hP.le (by omega))) ?_
  refine zg2 ?_
  refine cp am2 (c_RSub (v3d (thN ((rows.getD 0 []).getD 0 default).p ((rows.getD U []).getD 0 default).p ((rows.getD 0 []).getD V default).p) ((rows.flatten.map (·.p)).getD i default)) (v3d (thN ((rows.getD 0 []).getD 0 default).p ((rows.getD U []).getD 0 default).p ((rows.getD 0 []).getD V default).p) ((rows.getD 0 []).getD 0 default).p) (by omega)) ?_
  refine zg4 ?_
  refine wl_regD 5 (by decide +kernel) ?_
  refine zg3 ?_
  refine cp am2 (c_RMul (v3d (thN ((rows.getD 0 []).getD 0 default).p ((rows.getD U []).getD 0 default).p ((rows.getD 0 []).getD V default).p) ((rows.flatten.map (·.p)).getD i default)-(v3d (thN ((rows.getD 0 []).getD 0 default).p ((rows.getD U []).getD 0 default).p ((rows.getD 0 []).getD V default).p) ((rows.getD 0 []).getD 0 default).p)) (v3d (thN ((rows.getD 0 []).getD 0 default).p ((rows.getD U []).getD 0 default).p ((rows.getD 0 []).getD V default).p) ((rows.flatten.map (·.p)).getD i default)-(v3d (thN ((rows.getD 0 []).getD 0 default).p ((rows.getD U []).getD 0 default).p ((rows.getD 0 []).getD V default).p) ((rows.getD 0 []).getD 0 default).p)) (by omega)) ?_
  refine cp am2 (hM) ?_
  refine zg4 ?_
  refine wl_regW ((Weak.kill _ 10).trans (Weak.kill _ 9)) ?_
  refine st_pure rfl (.bin rfl rfl (add1N (by omega))) ?_
  refine zg3 ?_
  exact nx1 (i+1) (by omega)
 ·obtain rfl:i=(rows.flatten.map (·.p)).length:=by omega
  refine zg6 ?_
  refine wl_regF 11 [9] (by decide +kernel) ?_
  refine zg5 ?_
  refine cp am2 (c_VDot (thN ((rows.getD 0 []).getD 0 default).p ((rows.getD U []).getD 0 default).p ((rows.getD 0 []).getD V default).p) (thN ((rows.getD 0 []).getD 0 default).p ((rows.getD U []).getD 0 default).p ((rows.getD 0 []).getD V default).p) (8*R+9) (by omega) hnb hnb) ?_
  simp only [hT]
  refine cp am2 (c_RQuo (flT (thN ((rows.getD 0 []).getD 0 default).p ((rows.getD U []).getD 0 default).p ((rows.getD 0 []).getD V default).p) (v3d (thN ((rows.getD 0 []).getD 0 default).p ((rows.getD U []).getD 0 default).p ((rows.getD 0 []).getD V default).p) ((rows.getD 0 []).getD 0 default).p) (rows.flatten.map (·.p))) (v3d (thN ((rows.getD 0 []).getD 0 default).p ((rows.getD U []).getD 0 default).p ((rows.getD 0 []).getD V default).p) (thN ((rows.getD 0 []).getD 0 default).p ((rows.getD U []).getD 0 default).p ((rows.getD 0 []).getD V default).p)) (by have:=hfa (rows.flatten.map (·.p)).length;rw [hT] at this;omega)) ?_
  refine zg16 ?_
  exact retCT [] rfl rfl rfl (ratE.csize _) (ratL_all _) T29 (.pure (ratE.pure _)) rfl (.pure rfl)
end Go.Proofs.YtfpdccbgngdhkaaGreat
end
section
set_option linter.unusedVariables false
set_option linter.unusedSimpArgs false
set_option maxHeartbeats 8000000
set_option maxRecDepth 100000
attribute [local irreducible] Go.Lg.opsL Go.Lg.wpL Go.Lg.thenL Go.Lg.blockL
namespace Go.Proofs.YtfpdccbgngdhkaaGreat
open Go.Lg
theorem plZ36:ZeroOK Tryz.prog 36 (plL []):=⟨Tryz.t36,_,by kernel_rfl,rfl,rfl,fun _ _ _=>repNil0 3⟩
instance:EC Tryz.prog 36 plL 1 false []:=⟨plE,plZ36,T36⟩
theorem rep0 (n:Nat):List.replicate n (ratL 0)=(List.replicate n (0:Rat)).map ratL:=by simp
def poN (q:PoR):List Rat:=[q.p.x,q.p.y,q.p.z,q.w]
def sfN (a b:List Rat) (ps:List PoR):List Rat:=a++b++(ps.map poN).flatten
theorem sfN_nil (a b:List Rat):sfN a b []=a++b:=by simp [sfN]
theorem sfN_sn (a b:List Rat) (ps:List PoR) (q:PoR):sfN a b ps++[q.p.x,q.p.y,q.p.z,q.w]=sfN a b (ps++[q]):=by simp [sfN,poN]
theorem sfN_len (a b:List Rat) (ps:List PoR):(sfN a b ps).length=a.length+b.length+4*ps.length:=by
 induction ps with
 | nil=>simp [sfN]
 | cons q ps ih =>
  simp only [sfN,List.map_cons,List.flatten_cons,List.length_append,List.length_cons,poN,List.length_nil] at ih ⊢
  omega
theorem sfN_rl {a b:List Rat} {ps:List PoR} (ha:∀ x∈a,rl x≤64) (hb:∀ x∈b,rl x≤64) (hp:∀ q∈ps,okP 64 q):∀ x∈sfN a b ps,rl x≤64:=fun x hx=>by
 simp only [sfN,List.mem_append,List.mem_flatten,List.mem_map] at hx
 rcases hx with(h | h) | ⟨l,⟨q,hq,rfl⟩,h⟩
 ·exact ha x h
 ·exact hb x h
 ·obtain⟨⟨h1,h2,h3⟩,h4,_⟩:=hp q hq
  simp only [poN,List.mem_cons,List.not_mem_nil,or_false] at h
  rcases h with rfl | rfl | rfl | rfl<;>assumption
theorem neqF {a b:Int} {k:IntKind} (h:a=b):binI .neq k a b=some (.bool false):=by simp [binI,h]
theorem okP.le {R S:Nat} {q:PoR} (h:okP R q) (hRS:R≤S):okP S q:=⟨h.1.le hRS,Nat.le_trans h.2.1 hRS,h.2.2⟩
theorem frz_c (bs:List Nat) (c:Nat) (y:Blk) (l:List (Nat × Blk)):frzH bs ((c,y) :: l)=(c,⟨y.sz,y.vals,y.mt && !bs.contains c⟩) :: frzH bs l:=rfl
theorem tz01:Int.toNat (0+1)=1:=rfl
namespace H_c_Grow0
theorem zSm {p q:Prop} (k:q) (e:p=q:=by simp only [e1,e2,e3,e4,p1,p2,p3,q1,q2,q3,l1,t0,t1,r1,r2,r3,r4,Nat.zero_add,Nat.reduceMul,Nat.reduceAdd,b1,b2,b3,b4,b5,b6,i1,i2,i3,i4,i5,i6,Nat.reduceBEq,rep0,List.set_cons_zero,List.set_cons_succ,Nat.reduceEqDiff,reduceIte,if_true,if_false,ptL_kill,poL_kill,kills_map ptE,kills_map poE,kills_map ratE,ratL_kill,spL_kill,LV.kill,kills];exact rfl):p:=e.mpr k
end H_c_Grow0
open H_c_Grow0 in
theorem c_Grow0 (n:Nat) (h0:0<n) (hl:n≤1048576):CallOK Tryz.prog 267 [.v (.slice none 0 0),nI64 n] (.ref 1 3 0 0) [⟨3,(List.replicate n (0:Rat)).map ratL,true⟩]:=by
 refine fnO Tryz.func267 ?_
 refine zg12 ?_
 refine wl_if rfl (fun h6r h6=>?_) (fun h6r h6=>?_)
 ·omega
 ·refine zg7 ?_
  refine st_pure rfl (.capN rfl rfl Tryz.underlying36) ?_
  refine zg2 ?_
  refine st_pure rfl (.bin rfl rfl (subNN (a:=0) (b:=0) (c:=0) (by omega) (by omega))) ?_
  refine st_pure rfl (.bin rfl rfl (subNN (a:=n) (b:=0) (c:=n) (by omega) (by omega))) ?_
  refine zg9 ?_
  refine wl_if rfl (fun h16r h16=>?_) (fun h16r h16=>?_)
  ·refine zg3 ?_
   refine st_pure rfl (.capN rfl rfl Tryz.underlying36) ?_
   refine st_pure rfl (.sliceN rfl Tryz.underlying36 T29 rfl) ?_
   refine zg1 ?_
   refine st_opm rfl rfl (.appz (d:=22) (z:=ratL 0) (n:=n) Tryz.underlying36 Tryz.underlying3 (ratL_zero ▸ Z29a) (by rw [ratE.isAgg];exact T29) (ratE.csize _) B29 rfl rfl rfl (by omega) (by decide) (by omega) (by omega)) ?_
   refine zg2 ?_
   refine st_pure rfl (by first | exact .sliceLh (h:=_) ratE rfl Tryz.underlying36 T29 rfl om | exact .sliceRh rfl Tryz.underlying36 T29 rfl om om) ?_
   refine zg10 ?_
   refine ret1own (b:=22) (len:=0) (blk:=⟨3,(List.replicate n (0:Rat)).map ratL,true⟩) ?_ ?_ (pures_map ratE _)
   ·exact cl
   ·exact cl
  ·omega
namespace H_c_Concat2
theorem zSm {p q:Prop} (k:q) (e:p=q:=by simp only [e1,e2,e3,e4,p1,p2,p3,q1,q2,q3,l1,t0,t1,r1,r2,r3,r4,Nat.zero_add,Nat.reduceMul,Nat.reduceAdd,b1,b2,b3,b4,b5,b6,i1,i2,i3,i4,i5,i6,Nat.reduceBEq,kills_append,tz01,List.getD_cons_zero,List.getD_cons_succ,List.length_cons,List.length_nil,htk,frz_nil,List.take_zero,List.nil_append,List.map_append,List.length_append,List.length_map,List.set_cons_zero,List.set_cons_succ,Nat.reduceEqDiff,reduceIte,if_true,if_false,ptL_kill,poL_kill,kills_map ptE,kills_map poE,kills_map ratE,ratL_kill,spL_kill,LV.kill,kills];exact rfl):p:=e.mpr k
end H_c_Concat2
open H_c_Concat2 in
theorem c_Concat2 (k m:List Rat) (h0:0<k.length) (hk:k.length≤1000) (hm:m.length≤1000):CallOK Tryz.prog 221 [.list 1 ([k,m].map plL)] (.ref 1 3 0 (k.length+m.length)) [⟨3,(k++m).map ratL,true⟩]:=by
 have hpk:=pure_lst ratE 3 k
 have hpm:=pure_lst ratE 3 m
 have hkl:(k.map ratL).length=k.length:=List.length_map ..
 have htk:(k.map ratL).take k.length=k.map ratL:=List.take_of_length_le (by simp)
 refine fnO Tryz.func221 ?_
 refine zg19 ?_
 refine wl_unroll ?_
 refine zg6 ?_
 refine wl_condX (b:=_) rfl (rfl) ?_
 refine zg16 ?_
 refine st_pure rfl (.bin rfl rfl (add64N (a:=0) (b:=k.length) (by omega))) ?_
 refine zg9 ?_
 refine wl_if rfl (fun h20r h20=>?_) (fun h20r h20=>?_)
 ·omega
 ·refine zg8 ?_
  refine wl_unroll ?_
  refine zg6 ?_
  refine wl_condX (b:=_) rfl (rfl) ?_
  refine zg16 ?_
  refine st_pure rfl (.bin rfl rfl (add64N (a:=k.length) (b:=m.length) (by omega))) ?_
  refine zg9 ?_
  refine wl_if rfl (fun h20r h20=>?_) (fun h20r h20=>?_)
  ·omega
  ·refine zg8 ?_
   refine wl_unroll ?_
   refine zg6 ?_
   refine wl_condY (b:=_) rfl (rfl) ?_
   refine zg8 ?_
   refine st_call1 [] rfl rfl (.cons (.pure rfl) (.cons (.pure rfl) .nil)) (c_Grow0 (k.length+m.length) (by omega) (by omega)) (pures_map ratE _) rfl ?_
   refine zg12 ?_
   refine wl_unroll ?_
   refine zg6 ?_
   refine wl_condX (b:=_) rfl (rfl) ?_
   refine zg14 ?_
   refine st_store rfl (.appX (d:=33) (news:=k.map ratL) rfl rfl rfl rfl (by simp) (.inr rfl) (by decide) Tryz.underlying36 Tryz.underlying36 Z29a T29 rfl B29 (.inr (.inl rfl)) (by rw [List.length_map];omega) (by rw [List.length_map];omega) (by decide)) ?_
   refine zg9 ?_
   refine wl_unroll ?_
   refine zg6 ?_
   refine wl_condX (b:=_) rfl (rfl) ?_
   refine zg14 ?_
   refine st_store rfl (.appX (d:=33) (news:=m.map ratL) rfl rfl rfl rfl (by simp) (.inl rfl) (by decide) Tryz.underlying36 Tryz.underlying36 Z29a T29 rfl B29 (.inr (.inl rfl)) (by rw [List.length_map];omega) (by rw [List.length_map];omega) (by decide)) ?_
   refine zg9 ?_
   refine wl_unroll ?_
   refine zg6 ?_
   refine wl_condY (b:=_) rfl (rfl) ?_
   refine zg12 ?_
   refine ret1own (b:=33) (len:=k.length+m.length) (blk:=⟨3,(k++m).map ratL,true⟩) ?_ ?_ (pures_map ratE _)
   ·exact cl
   ·exact cl
namespace H_c_snums
theorem zSm {p q:Prop} (k:q) (e:p=q:=by simp only [e1,e2,e3,e4,p1,p2,p3,q1,q2,q3,l1,t0,t1,r1,r2,r3,r4,Nat.zero_add,Nat.reduceMul,Nat.reduceAdd,b1,b2,b3,b4,b5,b6,i1,i2,i3,i4,i5,i6,Nat.reduceBEq,frz_c,fz0,prL,ehetk,ehers,hs0,map4,prL_kill,kills_map prE,dfr,dfq,take_map_len,map_snoc,len_snoc,List.length_cons,List.length_nil,List.nil_append,List.map_nil,List.take_nil,List.append_nil,List.set_cons_zero,List.set_cons_succ,Nat.reduceEqDiff,reduceIte,if_true,if_false,ptL_kill,poL_kill,kills_map ptE,kills_map poE,kills_map ratE,ratL_kill,spL_kill,LV.kill,kills];exact rfl):p:=e.mpr k
end H_c_snums
open H_c_snums in
theorem c_snums (U V:Nat) (kU kV:List Rat) (rows:List (List PoR)) (R:Nat) (hw:rwOK rows R) (h0:0<kU.length) (hkU:kU.length≤1000) (hkV:kV.length≤1000):CallP Tryz.prog 155 [.agg [nI64 U,nI64 V,.list 3 (kU.map ratL),.list 3 (kV.map ratL),.list 1 (rows.map prL)]] (.list 3 ((sfN kU kV rows.flatten).map ratL)):=by
 have hsp:LV.pure (.agg [nI64 U,nI64 V,.list 3 (kU.map ratL),.list 3 (kV.map ratL),.list 1 (rows.map prL)])=true:=by simp [LV.pure,pures,pures_map ratE,pures_map prE]
 have hwn:=hw.n
 have hwf:=hw.f
 have hs0:=sfN_nil kU kV
 have hp2:=pure_lst plE 1 [kU,kV]
 refine fnP Tryz.func155 (ht:=(fun g=>LV.ren_pure g _ (pure_lst ratE 3 _))) ?_
 have ehetk:True:=trivial
 have ehers:True:=trivial
 refine zg13 ?_
 refine st_call1 [12] rfl rfl (.cons (imm_refm plE rfl rfl rfl) .nil) (c_Concat2 kU kV h0 hkU hkV) (pures_map ratE _) rfl ?_
 refine zg13 ?_
 refine wl_weak ((Weak.kill _ 1).trans (Weak.kill _ 12)) ?_
 refine lp2 (fun(i:Nat) (ps:List PoR) L=>(((((St.mk L.slot (hp [(1000209,⟨3,(sfN kU kV ps).map ratL,true⟩)])).put (some 3) (.ref 1000209 3 0 (kU.length+kV.length+4*ps.length))).put (some 15) (.list 1 (rows.map prL))).put (some 16) (nI64 rows.length)).put (some 17) (nI64 i))) (fun i ps=>rwI rows i ps) (fun i ps=>rows.length-i) 0 ([]) (rwI.zero rows) ?_
 rintro i ps L1 hI
 refine zg6 ?_
 refine wl_if rfl (fun h18r h18=>?_) (fun h18r h18=>?_)
 ·have hi2:i<rows.length:=by omega
  refine zg19 ?_
  refine lp2 (fun(j:Nat) (qs:List PoR) L=>((((((((St.mk L.slot (hp [(1000209,⟨3,(sfN kU kV qs).map ratL,true⟩)])).put (some 3) (.ref 1000209 3 0 (kU.length+kV.length+4*qs.length))).put (some 15) (.list 1 (rows.map prL))).put (some 16) (nI64 rows.length)).put (some 17) (nI64 i)).put (some 21) (.list 12 ((rows.getD i []).map poL))).put (some 22) (nI64 (rows.getD i []).length)).put (some 23) (nI64 j))) (fun j qs=>rwJ rows i j qs) (fun j qs=>(rows.getD i []).length-j) 0 ps (hI.go hi2) ?_
  rintro j qs L2 hJ
  refine zg6 ?_
  refine wl_if rfl (fun h24r h24=>?_) (fun h24r h24=>?_)
  ·have hj2:j<(rows.getD i []).length:=by omega
   have hJe:=hJ.hj
   have hJl:=hJ.le
   have hJi:=hJ.hi
   have hrm:=getR_mem hJi
   have hrl:=hw.m _ hrm
   have hlc:=sfN_len kU kV qs
   have ehers:(sfN kU kV qs)++[((rows.getD i []).getD j default).p.x,((rows.getD i []).getD j default).p.y,((rows.getD i []).getD j default).p.z,((rows.getD i []).getD j default).w]=(sfN kU kV (qs++[((rows.getD i []).getD j default)])):=sfN_sn _ _ _ _
   have ehetk:((sfN kU kV qs).map ratL).take (kU.length+kV.length+4*qs.length)=(sfN kU kV qs).map ratL:=List.take_of_length_le (by rw [List.length_map];omega)
   have hJ2:=hJ.lt hj2
   refine zg26 ?_
   refine st_store rfl (.appX (d:=1000209) (news:=[ratL ((rows.getD i []).getD j default).p.x,ratL ((rows.getD i []).getD j default).p.y,ratL ((rows.getD i []).getD j default).p.z,ratL ((rows.getD i []).getD j default).w]) rfl rfl rfl rfl (by simp;omega) (.inl rfl) (by decide) Tryz.underlying36 Tryz.underlying36 Z29a T29 rfl B29 (.inl ⟨39,0,_,rfl,by decide,rfl,rfl,by simp,rfl,by simp [pures,ratE.pure]⟩) (by simp;omega) (by simp;omega) (by decide)) ?_
   refine zg4 ?_
   refine wl_regW ((Weak.kill _ 7).trans (Weak.kill _ 39)) ?_
   refine st_pure rfl (.bin rfl rfl (add1N (by omega))) ?_
   refine zg3 ?_
   exact nx2 (j+1) (qs++[((rows.getD i []).getD j default)]) (hJ.next hj2)
  ·have hJe:=hJ.hj
   have hJl:=hJ.le
   have hJi:=hJ.hi
   have hrm:=getR_mem hJi
   have hrl:=hw.m _ hrm
   obtain rfl:j=(rows.getD i []).length:=by omega
   refine zg7 ?_
   refine st_pure rfl (.bin rfl rfl (add1N (by omega))) ?_
   refine zg3 ?_
   exact nx2 (i+1) qs hJ.last (hm:=by have:=hJ.hi;omega)
 ·have hIi:=hI.hi
  obtain rfl:i=rows.length:=by omega
  have hE:=hI.last
  subst hE
  refine zg12 ?_
  exact ret1f [1000209] rfl rfl (imm_refm ratE rfl rfl (by rw [sfN_len]))
namespace H_c_IdxW
theorem zSm {p q:Prop} (k:q) (e:p=q:=by simp only [e1,e2,e3,e4,p1,p2,p3,q1,q2,q3,l1,t0,t1,r1,r2,r3,r4,Nat.zero_add,Nat.reduceMul,Nat.reduceAdd,b1,b2,b3,b4,b5,b6,i1,i2,i3,i4,i5,i6,Nat.reduceBEq,dfr,List.set_cons_zero,List.set_cons_succ,Nat.reduceEqDiff,reduceIte,if_true,if_false,ptL_kill,poL_kill,kills_map ptE,kills_map poE,kills_map ratE,ratL_kill,spL_kill,LV.kill,kills,List.length_map];exact rfl):p:=e.mpr k
end H_c_IdxW
open H_c_IdxW in
theorem c_IdxW (f:Nat) (cap:List LV) (hcp:pures cap=true) (hcs:∀ x∈cap,x.csize=1∧x.isAgg=false) (pr:List PoR→Bool) (l:List (List PoR)) (hl:l.length≤1048576) (hf:∀ x∈l,CallP Tryz.prog f ([prL x]++cap) (bL (pr x))):CallP Tryz.prog 270 [.list 1 (l.map prL),.clo f cap] (iL (fIdx pr l)):=by
 refine fnP Tryz.func270 ?_
 refine zg14 ?_
 refine lp1 (fun(i:Nat) L=>((((((St.mk L.slot (hp [])).put (some 0) (.list 1 (l.map prL))).put (some 1) (.clo f cap)).put (some 6) (.list 1 (l.map prL))).put (some 7) (nI64 l.length)).put (some 8) (nI64 i))) (fun i=>i≤l.length∧∀ j,j<i→pr (l.getD j default)=false) (fun i=>l.length-i) 0 ⟨Nat.zero_le _,fun j hj=>absurd hj (Nat.not_lt_zero j)⟩ ?_
 rintro i L1 ⟨hi,h0⟩
 refine zg6 ?_
 refine wl_if rfl (fun h9r h9=>?_) (fun h9r h9=>?_)
 ·have hi2:i<l.length:=by omega
  have hc:=hf _ (getD_memL hi2)
  have hpp:=prE.pure (l.getD i [])
  refine zg17 ?_
  refine st_opc [] rfl rfl (.clo (f:=f) (cap:=cap) (args:=[prL (l.getD i [])]) rfl (.cons im0 .nil) ⟨hcp,hcs⟩ hc.1 (by decide) (fun _ h=>by cases h)) (hc.2 _) ?_
  refine zg2 ?_
  refine wl_if rfl (fun h16r h16=>?_) (fun h16r h16=>?_)
  ·have hV:fIdx pr l=(i:Int):=fIdx_hit hi2 h0 (by first | exact h16r | exact h16)
   refine zg12 ?_
   rw [hV]
   exact ret1 rfl (.pure rfl)
  ·have hn:∀ j,j<i+1→pr (l.getD j default)=false:=fun j hj=>by
    rcases Nat.lt_succ_iff_lt_or_eq.1 hj with e | rfl
    ·exact h0 j e
    ·first | exact h16r | (simpa using h16)
   refine zg4 ?_
   refine st_pure rfl (.bin rfl rfl (add1N (by omega))) ?_
   refine zg3 ?_
   exact nx1 (i+1) ⟨by omega,hn⟩
 ·obtain rfl:i=l.length:=by omega
  refine zg11 ?_
  rw [fIdx_none h0]
  exact ret1 rfl (.pure rfl)
namespace H_c_HasW
theorem zSm {p q:Prop} (k:q) (e:p=q:=by simp only [e1,e2,e3,e4,p1,p2,p3,q1,q2,q3,l1,t0,t1,r1,r2,r3,r4,Nat.zero_add,Nat.reduceMul,Nat.reduceAdd,b1,b2,b3,b4,b5,b6,i1,i2,i3,i4,i5,i6,Nat.reduceBEq,List.set_cons_zero,List.set_cons_succ,Nat.reduceEqDiff,reduceIte,if_true,if_false,ptL_kill,poL_kill,kills_map ptE,kills_map poE,kills_map ratE,ratL_kill,spL_kill,LV.kill,kills];exact rfl):p:=e.mpr k
end H_c_HasW
open H_c_HasW in
theorem c_HasW (f:Nat) (cap:List LV) (hcp:pures cap=true) (hcs:∀ x∈cap,x.csize=1∧x.isAgg=false) (pr:List PoR→Bool) (l:List (List PoR)) (hl:l.length≤1048576) (hf:∀ x∈l,CallP Tryz.prog f ([prL x]++cap) (bL (pr x))):CallP Tryz.prog 228 [.list 1 (l.map prL),.clo f cap] (bL (l.any pr)):=by
 refine fnP Tryz.func228 ?_
 refine zg9 ?_
 refine st_callP rfl (.cons (.pure (pure_lst prE 1 _)) (.cons (.pure (show LV.pure (.clo f cap)=true by simpa [LV.pure] using hcp)) .nil)) (c_IdxW f cap hcp hcs pr l hl hf) ?_
 refine zg5 ?_
 rw [←fIdx_any]
 exact ret1 rfl (.pure rfl)
open H0 in
theorem c_SChk1 (q:Rat) (h:rl q≤1000):CallP Tryz.prog 157 [ratL q] (bL false):=by
 refine fnP Tryz.func157 ?_
 refine zg9 ?_
 refine cp am1 (c_RValid _ (by omega)) ?_
 refine zg5 ?_
 exact ret1 rfl (.pure rfl)
namespace H_c_SChk2
theorem zSm {p q:Prop} (k:q) (e:p=q:=by simp only [e1,e2,e3,e4,p1,p2,p3,q1,q2,q3,l1,t0,t1,r1,r2,r3,r4,Nat.zero_add,Nat.reduceMul,Nat.reduceAdd,b1,b2,b3,b4,b5,b6,i1,i2,i3,i4,i5,i6,Nat.reduceBEq,hsg];exact rfl):p:=e.mpr k
end H_c_SChk2
open H_c_SChk2 in
theorem c_SChk2 (q:PoR) (h:okP 1000 q):CallP Tryz.prog 162 [poL q] (bL false):=by
 obtain⟨_,hw,hp⟩:=h
 have hsg:sgnR q.w=1:=sgn_pos hp
 refine fnP Tryz.func162 ?_
 refine zg10 ?_
 refine cp am1 (c_RSign q.w (by omega)) ?_
 refine zg5 ?_
 exact ret1 rfl (.pure rfl)
open H0 in
theorem c_SChk3 (q:Rat) (h:rl q≤64):CallP Tryz.prog 163 [ratL q] (bL false):=by
 have hb:=bitR_le h
 refine fnP Tryz.func163 ?_
 refine zg9 ?_
 refine cp am1 (c_RBits q (by omega)) ?_
 refine zg5 ?_
 refine ret1 (x:=bL (decide ((bitR q:Int) > 2048))) rfl ?_
 rw [decide_eq_false (by omega)]
 exact .pure rfl
namespace H_c_SRc1
theorem zSm {p q:Prop} (k:q) (e:p=q:=by simp only [e1,e2,e3,e4,p1,p2,p3,q1,q2,q3,l1,t0,t1,r1,r2,r3,r4,Nat.zero_add,Nat.reduceMul,Nat.reduceAdd,b1,b2,b3,b4,b5,b6,i1,i2,i3,i4,i5,i6,Nat.reduceBEq,prL,List.length_map,prL_kill,kills_map prE,dfr,dfq,take_map_len,map_snoc,len_snoc,List.length_cons,List.length_nil,List.nil_append,List.map_nil,List.take_nil,List.append_nil,List.set_cons_zero,List.set_cons_succ,Nat.reduceEqDiff,reduceIte,if_true,if_false,ptL_kill,poL_kill,kills_map ptE,kills_map poE,kills_map ratE,ratL_kill,spL_kill,LV.kill,kills];exact rfl):p:=e.mpr k
end H_c_SRc1
open H_c_SRc1 in
theorem c_SRc1 (U V:Nat) (kU kV:List Rat) (rows:List (List PoR)) (r:List PoR) (hl:V+1≤kV.length) (hkl:kV.length≤1000) (hr:r.length=kV.length-V-1):CallP Tryz.prog 229 [prL r,.boxp (.agg [nI64 U,nI64 V,.list 3 (kU.map ratL),.list 3 (kV.map ratL),.list 1 (rows.map prL)])] (bL false):=by
 have hsp:LV.pure (.agg [nI64 U,nI64 V,.list 3 (kU.map ratL),.list 3 (kV.map ratL),.list 1 (rows.map prL)])=true:=by simp [LV.pure,pures,pures_map ratE,pures_map prE]
 have hpr:=prE.pure r
 have hpv:=pure_lst ratE 3 kV
 refine fnP Tryz.func229 ?_
 refine zg13 ?_
 refine cp am2 (c_KPoles kV V hl (by omega)) ?_
 refine st_pure rfl (.bin rfl rfl ((neqF (by first | omega | (simp only [List.length_map,prL];omega))))) ?_
 refine zg4 ?_
 exact ret1 rfl (.pure rfl)
namespace H_c_SRct
theorem zSm {p q:Prop} (k:q) (e:p=q:=by simp only [e1,e2,e3,e4,p1,p2,p3,q1,q2,q3,l1,t0,t1,r1,r2,r3,r4,Nat.zero_add,Nat.reduceMul,Nat.reduceAdd,b1,b2,b3,b4,b5,b6,i1,i2,i3,i4,i5,i6,Nat.reduceBEq,prL,any_ff,List.length_map,prL_kill,kills_map prE,dfr,dfq,take_map_len,map_snoc,len_snoc,List.length_cons,List.length_nil,List.nil_append,List.map_nil,List.take_nil,List.append_nil,List.set_cons_zero,List.set_cons_succ,Nat.reduceEqDiff,reduceIte,if_true,if_false,ptL_kill,poL_kill,kills_map ptE,kills_map poE,kills_map ratE,ratL_kill,spL_kill,LV.kill,kills];exact rfl):p:=e.mpr k
end H_c_SRct
open H_c_SRct in
theorem c_SRct (U V:Nat) (kU kV:List Rat) (rows:List (List PoR)) (hkU:kOK kU U) (hkV:kOK kV V) (hn:rows.length=kU.length-U-1) (hm:∀ r∈rows,r.length=kV.length-V-1) (hq:∀ r∈rows,∀ q∈r,okP 64 q):CallP Tryz.prog 160 [.agg [nI64 U,nI64 V,.list 3 (kU.map ratL),.list 3 (kV.map ratL),.list 1 (rows.map prL)]] (bL true):=by
 have hsp:LV.pure (.agg [nI64 U,nI64 V,.list 3 (kU.map ratL),.list 3 (kV.map ratL),.list 1 (rows.map prL)])=true:=by simp [LV.pure,pures,pures_map ratE,pures_map prE]
 have hU1:=hkU.d1
 have hU6:=hkU.d6
 have hUl:=hkU.len
 have hUm:=hkU.max
 have hV1:=hkV.d1
 have hV6:=hkV.d6
 have hVl:=hkV.len
 have hVm:=hkV.max
 have hbp:pures [.boxp (.agg [nI64 U,nI64 V,.list 3 (kU.map ratL),.list 3 (kV.map ratL),.list 1 (rows.map prL)])]=true:=by simp [pures,LV.pure,pures_map ratE,pures_map prE]
 refine fnP Tryz.func160 ?_
 refine zg7 ?_
 refine wl_regD 17 (by decide +kernel) ?_
 refine zg7 ?_
 refine cp am2 (c_KPoles kU U (by omega) (by omega)) ?_
 refine zg2 ?_
 refine st_pure (guardX (v:=true) rfl rfl ((beq_iff_eq.2 (by first | omega | (simp only [List.length_map];omega)))) rfl) faA ?_
 refine st_pure (guardX (v:=true) rfl rfl ((beq_iff_eq.2 (by first | omega | (simp only [List.length_map];omega)))) rfl) ldA ?_
 refine st_opc [1] (guardX (v:=true) rfl rfl ((beq_iff_eq.2 (by first | omega | (simp only [List.length_map];omega)))) rfl) rfl (.mk (caps:=[.boxp (.agg [nI64 U,nI64 V,.list 3 (kU.map ratL),.list 3 (kV.map ratL),.list 1 (rows.map prL)])]) (.cons (.eptr rfl rfl rfl cs (at_all cs rfl) hsp rfl) .nil) (fun x hx=>by rw [List.mem_singleton.1 hx];exact⟨rfl,rfl⟩)) rfl ?_
 refine st_callP (guardX (v:=true) rfl rfl ((beq_iff_eq.2 (by first | omega | (simp only [List.length_map];omega)))) rfl) (.cons (.pure (pure_lst prE 1 _)) (.cons (.pure (show LV.pure (.clo 229 [.boxp (.agg [nI64 U,nI64 V,.list 3 (kU.map ratL),.list 3 (kV.map ratL),.list 1 (rows.map prL)])])=true by simpa [LV.pure] using hbp)) .nil)) (c_HasW 229 [.boxp (.agg [nI64 U,nI64 V,.list 3 (kU.map ratL),.list 3 (kV.map ratL),.list 1 (rows.map prL)])] hbp (fun x hx=>by rw [List.mem_singleton.1 hx];exact⟨rfl,rfl⟩) (fun _=>false) rows (by omega) (fun x hx=>c_SRc1 U V kU kV rows x (by omega) (by omega) (hm x hx))) ?_
 refine st_pure (guardX (v:=true) rfl rfl ((beq_iff_eq.2 (by first | omega | (simp only [List.length_map];omega)))) rfl) (.not rfl) ?_
 refine st_pure rfl (.pickT rfl ((beq_iff_eq.2 (by first | omega | (simp only [List.length_map];omega))))) ?_
 refine zg4 ?_
 refine ret1 ?_ (.pure rfl)
 first | rfl | (simp only [any_ff];rfl)
namespace H_c_SCheck
theorem zSm {p q:Prop} (k:q) (e:p=q:=by simp only [e1,e2,e3,e4,p1,p2,p3,q1,q2,q3,l1,t0,t1,r1,r2,r3,r4,Nat.zero_add,Nat.reduceMul,Nat.reduceAdd,b1,b2,b3,b4,b5,b6,i1,i2,i3,i4,i5,i6,Nat.reduceBEq,prL,any_ff,dfr,List.length_map,prL_kill,kills_map prE,dfr,dfq,take_map_len,map_snoc,len_snoc,List.length_cons,List.length_nil,List.nil_append,List.map_nil,List.take_nil,List.append_nil,List.set_cons_zero,List.set_cons_succ,Nat.reduceEqDiff,reduceIte,if_true,if_false,ptL_kill,poL_kill,kills_map ptE,kills_map poE,kills_map ratE,ratL_kill,spL_kill,LV.kill,kills];exact rfl):p:=e.mpr k
end H_c_SCheck
open H_c_SCheck in
theorem c_SCheck (U V:Nat) (kU kV:List Rat) (rows:List (List PoR)) (hkU:kOK kU U) (hkV:kOK kV V) (hn:rows.length=kU.length-U-1) (hm:∀ r∈rows,r.length=kV.length-V-1) (hq:∀ r∈rows,∀ q∈r,okP 64 q):CallP Tryz.prog 88 [.agg [nI64 U,nI64 V,.list 3 (kU.map ratL),.list 3 (kV.map ratL),.list 1 (rows.map prL)]] (iL 0):=by
 have hsp:LV.pure (.agg [nI64 U,nI64 V,.list 3 (kU.map ratL),.list 3 (kV.map ratL),.list 1 (rows.map prL)])=true:=by simp [LV.pure,pures,pures_map ratE,pures_map prE]
 have hU1:=hkU.d1
 have hU6:=hkU.d6
 have hUl:=hkU.len
 have hUm:=hkU.max
 have hV1:=hkV.d1
 have hV6:=hkV.d6
 have hVl:=hkV.len
 have hVm:=hkV.max
 have hrw:rwOK rows 64:=by
  refine⟨hq,by omega,fun r hr=>by have:=hm r hr;omega,?_⟩
  rw [flat_len hm]
  exact Nat.le_trans (Nat.mul_le_mul (show rows.length≤100 by omega) (show kV.length-V-1≤100 by omega)) (by decide)
 have hfl:=hrw.f
 have hN:=sfN_len kU kV rows.flatten
 have hR:=sfN_rl (ps:=rows.flatten) hkU.sz hkV.sz (fun q hx=>by
  obtain⟨r,g1,g2⟩:=List.mem_flatten.1 hx
  exact hq r g1 q g2)
 refine fnP Tryz.func88 ?_
 refine zg9 ?_
 refine cp am1 (c_snums U V kU kV rows 64 hrw (by omega) (by omega) (by omega)) ?_
 refine zg7 ?_
 refine cp am2 (c_HasR 157 (fun _=>false) (sfN kU kV rows.flatten) (by omega) (fun x hx=>c_SChk1 x (Nat.le_trans (hR x hx) (by decide)))) ?_
 refine zg2 ?_
 refine wl_condY (b:=_) rfl (by first | rfl | exact any_ff _) ?_
 refine zg9 ?_
 refine cp am2 (c_KCheck kU U hkU) ?_
 refine zg9 ?_
 refine wl_condY (b:=_) rfl (rfl) ?_
 refine zg9 ?_
 refine cp am2 (c_KCheck kV V hkV) ?_
 refine zg9 ?_
 refine wl_condY (b:=_) rfl (rfl) ?_
 refine zg6 ?_
 refine cp am1 (c_SRct U V kU kV rows hkU hkV hn hm hq) ?_
 refine zg3 ?_
 refine wl_condY (b:=_) rfl (rfl) ?_
 refine zg12 ?_
 refine lp1 (fun(i:Nat) L=>((((((St.mk L.slot (hp [(1,⟨5,[.agg [nI64 U,nI64 V,.list 3 (kU.map ratL),.list 3 (kV.map ratL),.list 1 (rows.map prL)]],true⟩)])).put (some 1) (.eptr 1 5 0 0)).put (some 3) (.list 3 ((sfN kU kV rows.flatten).map ratL))).put (some 32) (.list 1 (rows.map prL))).put (some 33) (nI64 rows.length)).put (some 34) (nI64 i))) (fun i=>i≤rows.length) (fun i=>rows.length-i) 0 (Nat.zero_le _) ?_
 rintro i L1 hi
 refine zg6 ?_
 refine wl_if rfl (fun h35r h35=>?_) (fun h35r h35=>?_)
 ·have hi2:i<rows.length:=by omega
  have hrm:=getR_mem hi2
  have hrl:=hm _ hrm
  refine zg14 ?_
  refine cp am2 (c_HasP 162 (fun _=>false) (rows.getD i []) (by omega) (fun x hx=>c_SChk2 x ((hq _ hrm x hx).le (by decide)))) ?_
  refine zg2 ?_
  refine wl_condY (b:=_) rfl (by first | rfl | exact any_ff _) ?_
  refine zg4 ?_
  refine st_pure rfl (.bin rfl rfl (add1N (by omega))) ?_
  refine zg3 ?_
  exact nx1 (i+1) (by omega)
 ·obtain rfl:i=rows.length:=by omega
  refine zg9 ?_
  refine cp am2 (c_HasR 163 (fun _=>false) (sfN kU kV rows.flatten) (by omega) (fun x hx=>c_SChk3 x (hR x hx))) ?_
  refine zg2 ?_
  refine wl_condY (b:=_) rfl (by first | rfl | exact any_ff _) ?_
  refine zg8 ?_
  exact ret1 rfl (.pure rfl)
namespace H_c_PChk
theorem zSm {p q:Prop} (k:q) (e:p=q:=by simp only [e1,e2,e3,e4,p1,p2,p3,q1,q2,q3,l1,t0,t1,r1,r2,r3,r4,Nat.zero_add,Nat.reduceMul,Nat.reduceAdd,b1,b2,b3,b4,b5,b6,i1,i2,i3,i4,i5,i6,Nat.reduceBEq,prL,dfr,List.length_map,prL_kill,kills_map prE,dfr,dfq,take_map_len,map_snoc,len_snoc,List.length_cons,List.length_nil,List.nil_append,List.map_nil,List.take_nil,List.append_nil,List.set_cons_zero,List.set_cons_succ,Nat.reduceEqDiff,reduceIte,if_true,if_false,ptL_kill,poL_kill,kills_map ptE,kills_map poE,kills_map ratE,ratL_kill,spL_kill,LV.kill,kills];exact rfl):p:=e.mpr k
end H_c_PChk
open H_c_PChk in
theorem c_PChk (U V:Nat) (kU kV:List Rat) (rows:List (List PoR)) (hkU:kOK kU U) (hkV:kOK kV V) (hn:rows.length=kU.length-U-1) (hm:∀ r∈rows,r.length=kV.length-V-1) (hq:∀ r∈rows,∀ q∈r,okP 64 q) (hpn:rows.length=U+1) (hpm:(rows.getD 0 []).length=V+1):CallP Tryz.prog 29 [.agg [nI64 U,nI64 V,.list 3 (kU.map ratL),.list 3 (kV.map ratL),.list 1 (rows.map prL)]] (iL 0):=by
 have hsp:LV.pure (.agg [nI64 U,nI64 V,.list 3 (kU.map ratL),.list 3 (kV.map ratL),.list 1 (rows.map prL)])=true:=by simp [LV.pure,pures,pures_map ratE,pures_map prE]
 have hU1:=hkU.d1
 have hU6:=hkU.d6
 have hUl:=hkU.len
 have hUm:=hkU.max
 have hV1:=hkV.d1
 have hV6:=hkV.d6
 have hVl:=hkV.len
 have hVm:=hkV.max
 refine fnP Tryz.func29 ?_
 refine zg10 ?_
 refine cp am1 (c_SCheck U V kU kV rows hkU hkV hn hm hq) ?_
 refine zg9 ?_
 refine wl_condY (b:=_) rfl (rfl) ?_
 refine zg4 ?_
 refine wl_regD 18 (by decide +kernel) ?_
 refine zg5 ?_
 refine st_pure rfl (.bin rfl rfl (add1N (by omega))) ?_
 refine zg2 ?_
 refine st_pure (guardX (v:=false) rfl rfl ((bne_eq_false_iff_eq.2 (by first | omega | (simp only [List.length_map];omega)))) rfl) faA ?_
 refine st_pure (guardX (v:=false) rfl rfl ((bne_eq_false_iff_eq.2 (by first | omega | (simp only [List.length_map];omega)))) rfl) ldA ?_
 refine st_pure (guardX (v:=false) rfl rfl ((bne_eq_false_iff_eq.2 (by first | omega | (simp only [List.length_map];omega)))) rfl) ixA ?_
 refine st_pure (guardX (v:=false) rfl rfl ((bne_eq_false_iff_eq.2 (by first | omega | (simp only [List.length_map];omega)))) rfl) ldA ?_
 refine st_pure (guardX (v:=false) rfl rfl ((bne_eq_false_iff_eq.2 (by first | omega | (simp only [List.length_map];omega)))) rfl) lnA ?_
 refine st_pure (guardX (v:=false) rfl rfl ((bne_eq_false_iff_eq.2 (by first | omega | (simp only [List.length_map];omega)))) rfl) faA ?_
 refine st_pure (guardX (v:=false) rfl rfl ((bne_eq_false_iff_eq.2 (by first | omega | (simp only [List.length_map];omega)))) rfl) ldA ?_
 refine st_pure (guardX (v:=false) rfl rfl ((bne_eq_false_iff_eq.2 (by first | omega | (simp only [List.length_map];omega)))) rfl) (.bin rfl rfl (add1N (by omega))) ?_
 refine st_pure (guardX (v:=false) rfl rfl ((bne_eq_false_iff_eq.2 (by first | omega | (simp only [List.length_map];omega)))) rfl) (.bin rfl rfl rfl) ?_
 refine st_pure rfl (.pickF rfl ((bne_eq_false_iff_eq.2 (by first | omega | (simp only [List.length_map];omega))))) ?_
 refine zg2 ?_
 refine wl_condY (b:=_) rfl (bne_eq_false_iff_eq.2 (by first | omega | (simp only [List.length_map,prL,dfr,t0,hpm];omega))) ?_
 refine zg8 ?_
 exact ret1 rfl (.pure rfl)
end Go.Proofs.YtfpdccbgngdhkaaGreat
end
section
set_option linter.unusedVariables false
set_option linter.unusedSimpArgs false
set_option maxHeartbeats 8000000
set_option maxRecDepth 100000
attribute [local irreducible] Go.Lg.opsL Go.Lg.wpL Go.Lg.thenL Go.Lg.blockL
namespace Go.Proofs.YtfpdccbgngdhkaaGreat
open Go.Lg
def twK:List Rat:=[0,0,1,1]
def twA:List PoR:=[⟨⟨0,0,0⟩,1⟩,⟨⟨0,1,0⟩,1⟩]
def twB:List PoR:=[⟨⟨1,0,0⟩,1⟩,⟨⟨1,1,1⟩,1⟩]
def twR:List (List PoR):=[twA,twB]
theorem twK_eq:kn2 1 0 1=twK:=by decide +kernel
theorem tw_okP:∀ r∈twR,∀ q∈r,okP 1 q:=fun r hr q hq=>by
 simp only [twR,List.mem_cons,List.not_mem_nil,or_false] at hr
 rcases hr with rfl | rfl<;>simp only [twA,twB,List.mem_cons,List.not_mem_nil,or_false] at hq<;>rcases hq with rfl | rfl<;>exact⟨⟨by decide +kernel,by decide +kernel,by decide +kernel⟩,by decide +kernel,by decide +kernel⟩
theorem tw_len:∀ r∈twR,r.length=2:=fun r hr=>by
 simp only [twR,List.mem_cons,List.not_mem_nil,or_false] at hr
 rcases hr with rfl | rfl<;>rfl
theorem tw_pf:pf 1 1 1 twR:=⟨by decide,by decide,by decide,by decide,by decide,by decide,rfl,tw_len,tw_okP⟩
theorem tw_kn:kOK twK 1:=by
 have:=kn0_ok (d:=1) (T:=0) (by decide) (by decide) (by decide +kernel) (by decide +kernel)
 rwa [show kn0 1 0=twK from by decide +kernel] at this
theorem v3_ext {p q:V3} (h1:p.x=q.x) (h2:p.y=q.y) (h3:p.z=q.z):p=q:=by
 obtain⟨a,b,c⟩:=p
 obtain⟨d,e,f⟩:=q
 simp only at h1 h2 h3
 rw [h1,h2,h3]
theorem tw_nor:v3x (pdv 1 1 (1-1) 1 (dfU 1 1) twR.flatten (1-0) 0 0) (pdv 1 1 1 (1-1) (dfV 1 1) twR.flatten (1-0) 0 0)=⟨0,0,1⟩ :=
 v3_ext (by decide +kernel) (by decide +kernel) (by decide +kernel)
theorem tw_zero:eqV (thN ((twR.getD 0 []).getD 0 default).p ((twR.getD 1 []).getD 0 default).p ((twR.getD 0 []).getD 1 default).p) ⟨0,0,0⟩=false:=by decide +kernel
theorem tw_flat:flT (thN ((twR.getD 0 []).getD 0 default).p ((twR.getD 1 []).getD 0 default).p ((twR.getD 0 []).getD 1 default).p) (v3d (thN ((twR.getD 0 []).getD 0 default).p ((twR.getD 1 []).getD 0 default).p ((twR.getD 0 []).getD 1 default).p) ((twR.getD 0 []).getD 0 default).p) (twR.flatten.map (·.p)) /
  v3d (thN ((twR.getD 0 []).getD 0 default).p ((twR.getD 1 []).getD 0 default).p ((twR.getD 0 []).getD 1 default).p) (thN ((twR.getD 0 []).getD 0 default).p ((twR.getD 1 []).getD 0 default).p ((twR.getD 0 []).getD 1 default).p)=1:=by decide +kernel
namespace H_c_Unit2
theorem zSm {p q:Prop} (k:q) (e:p=q:=by simp only [e1,e2,e3,e4,p1,p2,p3,q1,q2,q3,l1,t0,t1,r1,r2,r3,r4,Nat.zero_add,Nat.reduceMul,Nat.reduceAdd,b1,b2,b3,b4,b5,b6,i1,i2,i3,i4,i5,i6,Nat.reduceBEq,List.set_cons_zero,List.set_cons_succ,Nat.reduceEqDiff,reduceIte,if_true,if_false,ptL_kill,poL_kill,kills_map ptE,kills_map poE,kills_map ratE,ratL_kill,spL_kill,LV.kill,kills];exact rfl):p:=e.mpr k
end H_c_Unit2
open H_c_Unit2 in
theorem c_Unit2 :CallP Tryz.prog 53 [iL 2] (ptL ⟨0,0,1⟩):=by
 have hI1:CallP Tryz.prog 60 [iL 1] (ratL 1):=c_FInt 1 (by decide) (by decide)
 refine fnP Tryz.func53 (ht:=(fun r=>LV.ren_pure r _ (ptE.pure _))) ?_
 refine zg13 ?_
 refine cp am1 (hI1) ?_
 refine zg11 ?_
 exact retC [] rfl rfl rfl cs (at_all cs rfl) T31 (.pure pu)
namespace H_c_twist
theorem zSm {p q:Prop} (k:q) (e:p=q:=by simp only [e1,e2,e3,e4,p1,p2,p3,q1,q2,q3,l1,t0,t1,r1,r2,r3,r4,Nat.zero_add,Nat.reduceMul,Nat.reduceAdd,b1,b2,b3,b4,b5,b6,i1,i2,i3,i4,i5,i6,Nat.reduceBEq,List.set_cons_zero,List.set_cons_succ,Nat.reduceEqDiff,reduceIte,if_true,if_false,ptL_kill,poL_kill,kills_map ptE,kills_map poE,kills_map ratE,ratL_kill,spL_kill,LV.kill,kills];exact rfl):p:=e.mpr k
end H_c_twist
open H_c_twist in
theorem c_twist :CallP Tryz.prog 52 [] (.agg [nI64 1,nI64 1,.list 3 (twK.map ratL),.list 3 (twK.map ratL),.list 1 (twR.map prL)]):=by
 have hI1:CallP Tryz.prog 60 [iL 1] (ratL 1):=c_FInt 1 (by decide) (by decide)
 refine fnP Tryz.func52 (ht:=(fun g=>LV.ren_pure g _ (by simp [LV.pure,pures,pures_map ratE,pures_map prE]))) ?_
 refine zg7 ?_
 refine cp am1 (c_Unit0) ?_
 refine cp am1 (c_Unit1) ?_
 refine zg8 ?_
 refine cp am1 (hI1) ?_
 refine zg6 ?_
 refine st_pure rfl (.build0 SL29 Z29a) ?_
 refine st_pure rfl (.build0 SL29 Z29a) ?_
 refine zg2 ?_
 refine st_alloc rfl rfl (.lit4 (a:=0) (b:=0) (c:=1) (f:=1) ratE Tryz.underlying36 (ratL_zero ▸ Z29a) T29 rfl rfl rfl rfl (by decide) (by decide)) ?_
 refine zg8 ?_
 refine s0bd (bdW rfl) ?_
 refine zg2 ?_
 refine s0bd (bdPo (p:=⟨0,1,0⟩) (r:=1) rfl rfl) ?_
 refine st_alloc rfl rfl (.lit2 (a:=⟨⟨0,0,0⟩,1⟩) (b:=⟨⟨0,1,0⟩,1⟩) (z:=⟨⟨0,0,0⟩,0⟩) poE Tryz.underlying60 (show ZeroOK _ _ (poL ⟨⟨0,0,0⟩,0⟩) from Z62) T62 rfl rfl (by decide) (by decide)) ?_
 refine zg2 ?_
 refine s0bd (bdPo (p:=⟨1,0,0⟩) (r:=1) rfl rfl) ?_
 refine zg5 ?_
 refine s0bd (bdPo (p:=⟨1,1,1⟩) (r:=1) rfl rfl) ?_
 refine st_alloc rfl rfl (.lit2 (a:=⟨⟨1,0,0⟩,1⟩) (b:=⟨⟨1,1,1⟩,1⟩) (z:=⟨⟨0,0,0⟩,0⟩) poE Tryz.underlying60 (show ZeroOK _ _ (poL ⟨⟨0,0,0⟩,0⟩) from Z62) T62 rfl rfl (by decide) (by decide)) ?_
 refine st_alloc rfl rfl (.lit (z:=prL []) (sz:=1) Tryz.underlying37 prZ T60 rfl (by decide) (by decide) (by decide) (by intro p hp;simp only [List.mem_cons,List.not_mem_nil,or_false] at hp;rcases hp with rfl | rfl<;>exact⟨by decide,rfl,(fun h=>by cases h),(fun _ h=>by cases h)⟩)) ?_
 refine st_pure rfl (.build (zs:=[.v (.int .i64 0),.v (.int .i64 0),.v (.slice none 0 0),.v (.slice none 0 0),.v (.slice none 0 0)]) SL39 Z39 (by simp only [List.forall_mem_cons];exact⟨⟨_,rfl,rfl,ne0⟩,⟨_,rfl,rfl,ne0⟩,⟨_,rfl,rfl,ne0⟩,⟨_,rfl,rfl,ne0⟩,⟨_,rfl,rfl,ne0⟩,fun _ h=>by cases h⟩)) ?_
 refine zg4 ?_
 exact retC [12,20,30,31] rfl rfl rfl cs (at_all cs rfl) T39 (.agg (.cons (.pure rfl) (.cons (.pure rfl) (.cons (imm_refm (l:=twK) ratE rfl rfl rfl) (.cons (imm_refm (l:=twK) ratE rfl rfl rfl) (.cons (.refI (blk:=⟨1,_,false⟩) rfl rfl (by decide) rfl (.cons (imm_refm (l:=twA) poE rfl rfl rfl) (.cons (imm_refm (l:=twB) poE rfl rfl rfl) .nil))) .nil))))))
namespace H_c_awake13
theorem zSm {p q:Prop} (k:q) (e:p=q:=by simp only [e1,e2,e3,e4,p1,p2,p3,q1,q2,q3,l1,t0,t1,r1,r2,r3,r4,Nat.zero_add,Nat.reduceMul,Nat.reduceAdd,b1,b2,b3,b4,b5,b6,i1,i2,i3,i4,i5,i6,Nat.reduceBEq,List.set_cons_zero,List.set_cons_succ,Nat.reduceEqDiff,reduceIte,if_true,if_false,ptL_kill,poL_kill,kills_map ptE,kills_map poE,kills_map ratE,ratL_kill,spL_kill,LV.kill,kills];exact rfl):p:=e.mpr k
end H_c_awake13
open H_c_awake13 in
theorem c_awake13 :CallP Tryz.prog 8 [] (bL true):=by
 have hsp:LV.pure (.agg [nI64 1,nI64 1,.list 3 (twK.map ratL),.list 3 (twK.map ratL),.list 1 (twR.map prL)])=true:=by simp [LV.pure,pures,pures_map ratE,pures_map prE]
 have hb1:bd3 100000000 (pdv 1 1 (1-1) 1 (dfU 1 1) twR.flatten (1-0) 0 0):=(pdv_bd tw_pf (dfS_U (U:=1) (V:=1) (by decide) (by decide)) (by decide) (wd:=1-0) (by decide +kernel) (shX_of (by decide +kernel)) (shX_of (by decide +kernel))).2.2
 have hb2:bd3 100000000 (pdv 1 1 1 (1-1) (dfV 1 1) twR.flatten (1-0) 0 0):=(pdv_bd tw_pf (dfS_V (U:=1) (V:=1) (by decide) (by decide)) (by decide) (wd:=1-0) (by decide +kernel) (shX_of (by decide +kernel)) (shX_of (by decide +kernel))).2.2
 have hD:=c_PDer 1 1 1 0 1 0 1 twR tw_pf (by decide +kernel) (by decide +kernel) (by decide +kernel) (by decide +kernel) (by decide +kernel) (by decide +kernel) 0 0 0 0 (by decide +kernel) (by decide +kernel) (shX_of (by decide +kernel)) (shX_of (by decide +kernel)) (by decide +kernel) (by decide +kernel) (by decide) (by decide +kernel) (by decide +kernel)
 rw [twK_eq] at hD
 have hN:=c_PNor 1 1 twK twK twR 0 0 _ _ 0 hb1 hb2 hD
 rw [tw_nor] at hN
 have hF:=c_PFlat 1 1 1 twK twK twR tw_pf (by decide) tw_zero
 rw [tw_flat] at hF
 have hC:CallP Tryz.prog 29 [.agg [nI64 1,nI64 1,.list 3 (twK.map ratL),.list 3 (twK.map ratL),.list 1 (twR.map prL)]] (iL 0):=c_PChk 1 1 twK twK twR tw_kn tw_kn rfl tw_len (fun r hr q hq=>(tw_okP r hr q hq).le (by decide)) rfl rfl
 have hS:CallP Tryz.prog 20 [ptL ⟨0,0,1⟩,ptL ⟨0,0,1⟩] (bL true):=c_FPtSame ⟨0,0,1⟩ ⟨by decide +kernel,by decide +kernel,by decide +kernel⟩
 refine fnP Tryz.func8 ?_
 refine zg7 ?_
 refine cp am0 (c_twist) ?_
 refine zg7 ?_
 refine st_pure rfl (.build0 SL29 Z29a) ?_
 refine st_pure rfl (.build0 SL29 Z29a) ?_
 refine cp am3 (hN) ?_
 refine zg11 ?_
 refine cp am1 (hF) ?_
 refine zg9 ?_
 refine wl_regD 22 (by decide +kernel) ?_
 refine zg1 ?_
 refine cp am1 (hC) ?_
 refine zg2 ?_
 refine st_pure (guardX (v:=true) rfl rfl ((by decide +kernel)) rfl) (.move _) ?_
 refine st_pure (guardX (v:=true) rfl rfl ((by decide +kernel)) rfl) (.bin rfl rfl rfl) ?_
 refine st_pure rfl (.pickT rfl ((by decide +kernel))) ?_
 refine zg1 ?_
 refine st_pure (guardX (v:=true) rfl rfl ((by decide +kernel)) rfl) ldA ?_
 refine st_callP (guardX (v:=true) rfl rfl ((by decide +kernel)) rfl) (.cons im0 .nil) (c_Unit2) ?_
 refine st_callP (guardX (v:=true) rfl rfl ((by decide +kernel)) rfl) (.cons im0 (.cons im0 .nil)) (hS) ?_
 refine st_pure rfl (.pickT rfl ((by decide +kernel))) ?_
 refine zg1 ?_
 refine st_pure (guardX (v:=true) rfl rfl ((by decide +kernel)) rfl) (.move _) ?_
 refine st_pure (guardX (v:=true) rfl rfl ((by decide +kernel)) rfl) (.bin rfl rfl rfl) ?_
 refine st_pure rfl (.pickT rfl ((by decide +kernel))) ?_
 refine zg1 ?_
 refine st_pure (guardX (v:=true) rfl rfl ((by decide +kernel)) rfl) ldA ?_
 refine st_callP (guardX (v:=true) rfl rfl ((by decide +kernel)) rfl) (.cons im0 .nil) (c_tx1) ?_
 refine st_pure (guardX (v:=true) rfl rfl ((by decide +kernel)) rfl) (.eqS rfl rfl) ?_
 refine st_pure rfl (.pickT rfl ((by decide +kernel))) ?_
 refine zg4 ?_
 refine ret1 (x:=bL ((⟨#[49]⟩:ByteArray).toList==(⟨#[49]⟩:ByteArray).toList)) rfl ?_
 have hbb:((⟨#[49]⟩:ByteArray).toList==(⟨#[49]⟩:ByteArray).toList)=true:=beq_self_eq_true _
 rw [hbb]
 exact .pure rfl
end Go.Proofs.YtfpdccbgngdhkaaGreat
end
section
set_option linter.unusedVariables false
set_option linter.unusedSimpArgs false
set_option maxHeartbeats 8000000
set_option maxRecDepth 100000
attribute [local irreducible] Go.Lg.opsL Go.Lg.wpL Go.Lg.thenL Go.Lg.blockL
namespace Go.Proofs.YtfpdccbgngdhkaaGreat
open Go.Lg
def pTU (l:List Int) (k n:Nat):Rat:=dtV l (sJ2 l k)
def pTV (l:List Int) (k n:Nat):Rat:=dtV l (sJ3 l k n 0)
theorem kiN_0 (l:List Int) (k:Nat):kiN l k 0=0:=Nat.le_zero.1 (kiN_in l k 0).2
theorem knX_0 (l:List Int) (d k:Nat):knX l d k 0=kn2 d (dtV l k) (dtV l k+1):=by
 unfold knX kiR
 rw [kiN_0];rfl
theorem pKU_eq (l:List Int) (k n:Nat):sKU l k n 0=kn2 (sU l k n) (pTU l k n) (pTU l k n+1):=knX_0 ..
theorem pKV_eq (l:List Int) (k n:Nat):sKV l k n 0=kn2 (sV l k n) (pTV l k n) (pTV l k n+1):=knX_0 ..
theorem sR_pf {l:List Int} {k n:Nat} (hl:l.length≤500) (hk:k≤500) (hn:0<n) (hn3:n≤3):pf 4 (sU l k n) (sV l k n) (sR l k n 0):=by
 have h:=s_in l hl hk hn (show n≤6 by omega) (show 0≤2 by omega)
 have h1:=h.un
 have h2:=h.vn
 have ha:sA l k n 0=sU l k n+1:=by unfold sA;rw [kiN_0]
 have hb:sB l k n 0=sV l k n+1:=by unfold sB;rw [kiN_0]
 exact⟨by decide,by decide,h.u1,by omega,h.v1,by omega,by rw [h.rl,ha],fun r hr=>by rw [(h.rk r hr).1,hb],fun r hr=>(h.rk r hr).2⟩
theorem par_gen (T v:Rat):(v-T)/(T+1-T)=v-T:=by rw [wid1,div1]
theorem lt_one (T:Rat):T<T+1:=by grind
theorem bdB.le {R S:Nat} {b:Bx3} (h:bdB R b) (k:R≤S):bdB S b:=⟨h.1.le k,h.2.1.le k,h.2.2.le k⟩
namespace H_c_made13
theorem zSm {p q:Prop} (k:q) (e:p=q:=by simp only [e1,e2,e3,e4,p1,p2,p3,q1,q2,q3,l1,t0,t1,r1,r2,r3,r4,Nat.zero_add,Nat.reduceMul,Nat.reduceAdd,b1,b2,b3,b4,b5,b6,i1,i2,i3,i4,i5,i6,Nat.reduceBEq,prL_kill,kills_map prE,dfr,dfq,take_map_len,map_snoc,len_snoc,List.length_cons,List.length_nil,List.nil_append,List.map_nil,List.take_nil,List.append_nil,List.set_cons_zero,List.set_cons_succ,Nat.reduceEqDiff,reduceIte,if_true,if_false,ptL_kill,poL_kill,kills_map ptE,kills_map poE,kills_map ratE,ratL_kill,spL_kill,LV.kill,kills,dice_kill];exact rfl):p:=e.mpr k
end H_c_made13
open H_c_made13 in
theorem c_made13 (l:List Int) (hl5:l.length≤500):CallP Tryz.prog 22 [.list 1 (l.map i64L)] (.agg [nI64 (sU l 0 3),nI64 (sV l 0 3),.list 3 ((kn2 (sU l 0 3) (pTU l 0 3) ((pTU l 0 3)+1)).map ratL),.list 3 ((kn2 (sV l 0 3) (pTV l 0 3) ((pTV l 0 3)+1)).map ratL),.list 1 ((sR l 0 3 0).map prL)]):=by
 have hcp:LV.pure (.agg [nI64 (sU l 0 3),nI64 (sV l 0 3),.list 3 ((kn2 (sU l 0 3) (pTU l 0 3) ((pTU l 0 3)+1)).map ratL),.list 3 ((kn2 (sV l 0 3) (pTV l 0 3) ((pTV l 0 3)+1)).map ratL),.list 1 ((sR l 0 3 0).map prL)])=true:=by simp [LV.pure,pures,pures_map ratE,pures_map prE]
 have hS:=c_DSurface l 0 hl5 3 (by decide) (by decide) 0 (by decide) (Nat.zero_le _)
 rw [pKU_eq l 0 3,pKV_eq l 0 3] at hS
 refine fnP Tryz.func22 (ht:=(fun g=>LV.ren_pure g _ (by simp [LV.pure,pures,pures_map ratE,pures_map prE]))) ?_
 refine zg8 ?_
 refine st_call1 [] rfl rfl (.cons im0 .nil) (c_Roll l) (dice_pure l 0) rfl ?_
 refine st_callMp 1000065 rfl rfl rfl (dice_pure l _) (.cons .ptr (.cons (.imm (.pure rfl)) (.cons (.imm (.pure rfl)) .nil))) .ptr hS rfl (dice_pure l _) hcp ?_
 refine zg4 ?_
 exact retC [] rfl rfl rfl cs (at_all cs rfl) T39 (.pure hcp)
theorem pder_any (l:List Int) (hl5:l.length≤500) (u v:Rat) (hu:rl u≤3) (hv:rl v≤3) (hi:hasR ((pTU l 0 3),(pTU l 0 3)+1) u=true):∃ (a b:V3) (e:Int),bd3 100000000 a∧bd3 100000000 b ∧
  CallP Tryz.prog 16 [.agg [nI64 (sU l 0 3),nI64 (sV l 0 3),.list 3 ((kn2 (sU l 0 3) (pTU l 0 3) ((pTU l 0 3)+1)).map ratL),.list 3 ((kn2 (sV l 0 3) (pTV l 0 3) ((pTV l 0 3)+1)).map ratL),.list 1 ((sR l 0 3 0).map prL)],ratL u,ratL v] (.tup [ptL a,ptL b,iL e])∧CallP Tryz.prog 38 [.agg [nI64 (sU l 0 3),nI64 (sV l 0 3),.list 3 ((kn2 (sU l 0 3) (pTU l 0 3) ((pTU l 0 3)+1)).map ratL),.list 3 ((kn2 (sV l 0 3) (pTV l 0 3) ((pTV l 0 3)+1)).map ratL),.list 1 ((sR l 0 3 0).map prL)],ratL u,ratL v] (.tup [ptL a,ptL b,iL e]):=by
 have hp:=sR_pf (n:=3) hl5 (Nat.zero_le 500) (by decide) (by decide)
 obtain⟨g1,g2⟩:rl (pTU l 0 3)≤1∧rl ((pTU l 0 3)+1)≤1:=dt_rl l _
 obtain⟨g3,g4⟩:rl (pTV l 0 3)≤1∧rl ((pTV l 0 3)+1)≤1:=dt_rl l _
 have s1:=rl_sub u (pTU l 0 3)
 have s2:=rl_sub v (pTV l 0 3)
 have w1:=rl_sub ((pTU l 0 3)+1) (pTU l 0 3)
 have w2:=rl_sub ((pTV l 0 3)+1) (pTV l 0 3)
 have hx:shX (u-(pTU l 0 3)):=shX_of (by omega)
 have hy:shX (v-(pTV l 0 3)):=shX_of (by omega)
 cases hV:hasR ((pTV l 0 3),(pTV l 0 3)+1) v with
 | true =>
  obtain⟨x,ex⟩:∃ x,u-(pTU l 0 3)=x:=⟨_,rfl⟩
  obtain⟨y,ey⟩:∃ y,v-(pTV l 0 3)=y:=⟨_,rfl⟩
  rw [ex] at hx
  rw [ey] at hy
  exact⟨(pdv (sU l 0 3) (sV l 0 3) ((sU l 0 3)-1) (sV l 0 3) (dfU (sU l 0 3) (sV l 0 3)) (sR l 0 3 0).flatten ((pTU l 0 3)+1-(pTU l 0 3)) x y),(pdv (sU l 0 3) (sV l 0 3) (sU l 0 3) ((sV l 0 3)-1) (dfV (sU l 0 3) (sV l 0 3)) (sR l 0 3 0).flatten ((pTV l 0 3)+1-(pTV l 0 3)) x y),0,(pdv_bd hp (dfS_U hp.u3 hp.v3) (by decide) (by omega) hx hy).2.2,(pdv_bd hp (dfS_V hp.u3 hp.v3) (by decide) (by omega) hx hy).2.2,
   c_PDer 4 (sU l 0 3) (sV l 0 3) (pTU l 0 3) ((pTU l 0 3)+1) (pTV l 0 3) ((pTV l 0 3)+1) (sR l 0 3 0) hp (by omega) (by omega) (by omega) (by omega) (lt_one _) (lt_one _) u v x y (by omega) (by omega) hx hy (by rw [par_gen,ex]) (by rw [par_gen,ey]) (by decide) hi hV,
   c_FPDer 4 (sU l 0 3) (sV l 0 3) (pTU l 0 3) ((pTU l 0 3)+1) (pTV l 0 3) ((pTV l 0 3)+1) (sR l 0 3 0) hp (by omega) (by omega) (by omega) (by omega) (lt_one _) (lt_one _) u v x y (by omega) (by omega) hx hy (by rw [par_gen,ex]) (by rw [par_gen,ey]) (by decide) hi hV⟩
 | false =>
  exact⟨⟨0,0,0⟩,⟨0,0,0⟩,7,⟨by decide +kernel,by decide +kernel,by decide +kernel⟩,⟨by decide +kernel,by decide +kernel,by decide +kernel⟩,
   c_PDerE 4 (sU l 0 3) (sV l 0 3) (pTU l 0 3) ((pTU l 0 3)+1) (pTV l 0 3) ((pTV l 0 3)+1) (sR l 0 3 0) hp (by omega) (by omega) (by omega) (by omega) (lt_one _) (lt_one _) u v (by omega) (by omega) hi hV,c_FPDerE 4 (sU l 0 3) (sV l 0 3) (pTU l 0 3) ((pTU l 0 3)+1) (pTV l 0 3) ((pTV l 0 3)+1) (sR l 0 3 0) hp (by omega) (by omega) (by omega) (by omega) (lt_one _) (lt_one _) u v (by omega) (by omega) hi hV⟩
namespace H_c_PatchDerivs
theorem zSm {p q:Prop} (k:q) (e:p=q:=by simp only [e1,e2,e3,e4,p1,p2,p3,q1,q2,q3,l1,t0,t1,r1,r2,r3,r4,Nat.zero_add,Nat.reduceMul,Nat.reduceAdd,b1,b2,b3,b4,b5,b6,i1,i2,i3,i4,i5,i6,Nat.reduceBEq,prL_kill,kills_map prE,dfr,dfq,take_map_len,map_snoc,len_snoc,List.length_cons,List.length_nil,List.nil_append,List.map_nil,List.take_nil,List.append_nil,List.set_cons_zero,List.set_cons_succ,Nat.reduceEqDiff,reduceIte,if_true,if_false,ptL_kill,poL_kill,kills_map ptE,kills_map poE,kills_map ratE,ratL_kill,spL_kill,LV.kill,kills];exact rfl):p:=e.mpr k
end H_c_PatchDerivs
open H_c_PatchDerivs in
theorem c_PatchDerivs (l:List Int) (i j k:Int) (hl:l.length≤9223372036854775807∧∀ n∈l,-9223372036854775808≤n∧n≤9223372036854775807) (hi:-9223372036854775808≤i∧i≤9223372036854775807) (hj:-9223372036854775808≤j∧j≤9223372036854775807) (hk:-9223372036854775808≤k∧k≤9223372036854775807):CallP Tryz.prog 5 [.list 1 (l.map i64L),iL i,iL j,iL k] (bL true):=by
 have hlt:=hl.1
 have hsp:LV.pure (.agg [nI64 (sU l 0 3),nI64 (sV l 0 3),.list 3 ((kn2 (sU l 0 3) (pTU l 0 3) ((pTU l 0 3)+1)).map ratL),.list 3 ((kn2 (sV l 0 3) (pTV l 0 3) ((pTV l 0 3)+1)).map ratL),.list 1 ((sR l 0 3 0).map prL)])=true:=by simp [LV.pure,pures,pures_map ratE,pures_map prE]
 obtain⟨g1,g2⟩:rl (pTU l 0 3)≤1∧rl ((pTU l 0 3)+1)≤1:=dt_rl l _
 obtain⟨g3,g4⟩:rl (pTV l 0 3)≤1∧rl ((pTV l 0 3)+1)≤1:=dt_rl l _
 have hS1:bdS 1 ((pTU l 0 3),(pTU l 0 3)+1):=⟨g1,g2⟩
 have hS2:bdS 1 ((pTV l 0 3),(pTV l 0 3)+1):=⟨g3,g4⟩
 have hpi:rl ((pTU l 0 3)+ptV i)≤3:=wi_rl g1 i
 have hpj:rl ((pTV l 0 3)+ptV j)≤3:=wi_rl g3 j
 have hWi:CallP Tryz.prog 13 [spL ((pTU l 0 3),(pTU l 0 3)+1),iL i] (ratL ((pTU l 0 3)+ptV i)):=by
  have:=c_Within ((pTU l 0 3),(pTU l 0 3)+1) i 1 (by decide) hS1 hi
  rwa [wi_one] at this
 have hWj:CallP Tryz.prog 13 [spL ((pTV l 0 3),(pTV l 0 3)+1),iL j] (ratL ((pTV l 0 3)+ptV j)):=by
  have:=c_Within ((pTV l 0 3),(pTV l 0 3)+1) j 1 (by decide) hS2 hj
  rwa [wi_one] at this
 refine fnP Tryz.func5 ?_
 refine zg9 ?_
 refine cp am1 (c_Light l hlt) ?_
 refine zg3 ?_
 refine wl_if rfl (fun h30r h30=>?_) (fun h30r h30=>?_)
 ·refine zg2 ?_
  refine cp am0 (c_awake13) ?_
  refine zg5 ?_
  exact ret1 rfl (.pure rfl)
 ·have hl5:l.length≤500:=by simpa using h30
  have hp:=sR_pf (n:=3) hl5 (Nat.zero_le 500) (by decide) (by decide)
  have w1:=rl_sub ((pTU l 0 3)+1) (pTU l 0 3)
  have w2:=rl_sub ((pTV l 0 3)+1) (pTV l 0 3)
  have hS3:=c_PSpd 4 (sU l 0 3) (sV l 0 3) (pTU l 0 3) ((pTU l 0 3)+1) (pTV l 0 3) ((pTV l 0 3)+1) (sR l 0 3 0) hp (by omega) (by omega) (by omega) (by omega) (lt_one _) (lt_one _) (by decide)
  have hS4:=c_FPSpd 4 (sU l 0 3) (sV l 0 3) (pTU l 0 3) ((pTU l 0 3)+1) (pTV l 0 3) ((pTV l 0 3)+1) (sR l 0 3 0) hp (by omega) (by omega) (by omega) (by omega) (lt_one _) (lt_one _) (by decide)
  have hB1:=psB_bd hp (dfS_U hp.u3 hp.v3) (wd:=(pTU l 0 3)+1-(pTU l 0 3)) (by omega)
  have hB2:=psB_bd hp (dfS_V hp.u3 hp.v3) (wd:=(pTV l 0 3)+1-(pTV l 0 3)) (by omega)
  have hB3:=bxX_bd hB1 hB2
  have hM1:=c_PNors (sU l 0 3) (sV l 0 3) (kn2 (sU l 0 3) (pTU l 0 3) ((pTU l 0 3)+1)) (kn2 (sV l 0 3) (pTV l 0 3) ((pTV l 0 3)+1)) (sR l 0 3 0) _ _ _ (by decide) hB1 hB2 hS3
  have hM2:=c_FPNors (sU l 0 3) (sV l 0 3) (kn2 (sU l 0 3) (pTU l 0 3) ((pTU l 0 3)+1)) (kn2 (sV l 0 3) (pTV l 0 3) ((pTV l 0 3)+1)) (sR l 0 3 0) _ _ _ (by decide) hB1 hB2 hS4
  have hu3:=hp.u3
  have hv3:=hp.v3
  have hD:=c_FDom12 (sU l 0 3) (sV l 0 3) (pTU l 0 3) ((pTU l 0 3)+1) (pTV l 0 3) ((pTV l 0 3)+1) (sR l 0 3 0) (by omega) (by omega) (by omega) (by omega) (lt_one _) (lt_one _) (by omega) (by omega)
  refine zg5 ?_
  refine cp am1 (c_made13 l hl5) ?_
  refine zg7 ?_
  refine cp am1 (hD) ?_
  refine zg10 ?_
  refine wl_regD 8 (by decide +kernel) ?_
  refine zg2 ?_
  refine cp am2 (hWi) ?_
  refine zg2 ?_
  refine cp am2 (hWj) ?_
  refine zg10 ?_
  refine cp am2 (c_Mod k 7 (by decide) (by decide)) ?_
  refine zg3 ?_
  refine wl_if rfl (fun h47r h47=>?_) (fun h47r h47=>?_)
  ·have hrt:=rtV_rl j k
   obtain⟨va,vb,ve,ha,hb,hD1,hD2⟩:=pder_any l hl5 ((pTU l 0 3)+ptV i) (rtV j k) hpi (by omega) (wi_has _ _)
   have hN1:=c_PNor (sU l 0 3) (sV l 0 3) (kn2 (sU l 0 3) (pTU l 0 3) ((pTU l 0 3)+1)) (kn2 (sV l 0 3) (pTV l 0 3) ((pTV l 0 3)+1)) (sR l 0 3 0) _ _ va vb ve ha hb hD1
   have hN2:=c_FPNor (sU l 0 3) (sV l 0 3) (kn2 (sU l 0 3) (pTU l 0 3) ((pTU l 0 3)+1)) (kn2 (sV l 0 3) (pTV l 0 3) ((pTV l 0 3)+1)) (sR l 0 3 0) _ _ va vb ve ha hb hD2
   have hx:=v3x_bd ha hb
   refine zg3 ?_
   refine cp am2 (c_MRat j k hj hk) ?_
   refine zg8 ?_
   refine cp am3 (hD1) ?_
   refine zg16 ?_
   refine cp am3 (hD2) ?_
   refine zg16 ?_
   refine cp am3 (hN1) ?_
   refine zg13 ?_
   refine cp am3 (hN2) ?_
   refine zg11 ?_
   refine cp am1 (hS3) ?_
   refine zg12 ?_
   refine cp am1 (hS4) ?_
   refine zg10 ?_
   refine wl_regD 44 (by decide +kernel) ?_
   refine zg4 ?_
   refine st_pure (guardX (v:=true) rfl rfl ((beq_self_eq_true _)) rfl) ldA ?_
   refine st_pure (guardX (v:=true) rfl rfl ((beq_self_eq_true _)) rfl) ldA ?_
   refine st_callP (guardX (v:=true) rfl rfl ((beq_self_eq_true _)) rfl) (.cons im0 (.cons im0 .nil)) (c_FPtSame va (ha.le (by decide))) ?_
   refine st_pure rfl (.pickT rfl ((beq_self_eq_true _))) ?_
   refine zg3 ?_
   refine cp am2 (c_FPtSame vb (hb.le (by decide))) ?_
   refine zg7 ?_
   refine st_pure (guardX (v:=true) rfl rfl ((beq_self_eq_true _)) rfl) ldA ?_
   refine st_pure (guardX (v:=true) rfl rfl ((beq_self_eq_true _)) rfl) ldA ?_
   refine st_callP (guardX (v:=true) rfl rfl ((beq_self_eq_true _)) rfl) (.cons im0 (.cons im0 .nil)) (c_FPtSame (v3x va vb) (hx.le (by decide))) ?_
   refine st_pure rfl (.pickT rfl ((beq_self_eq_true _))) ?_
   refine zg3 ?_
   refine st_callP (guardX (v:=true) rfl rfl (rfl) rfl) (.cons (.pure (bxE.pure _)) (.cons (.pure (bxE.pure _)) .nil)) (c_FBxSame (psB (sU l 0 3) (sV l 0 3) ((sU l 0 3)-1) (sV l 0 3) (dfU (sU l 0 3) (sV l 0 3)) (sR l 0 3 0).flatten ((pTU l 0 3)+1-(pTU l 0 3))) (hB1.le (by omega))) ?_
   refine zg4 ?_
   refine st_callP (guardX (v:=true) rfl rfl (rfl) rfl) (.cons (.pure (bxE.pure _)) (.cons (.pure (bxE.pure _)) .nil)) (c_FBxSame (psB (sU l 0 3) (sV l 0 3) (sU l 0 3) ((sV l 0 3)-1) (dfV (sU l 0 3) (sV l 0 3)) (sR l 0 3 0).flatten ((pTV l 0 3)+1-(pTV l 0 3))) (hB2.le (by omega))) ?_
   refine zg3 ?_
   refine cp am1 (hM1) ?_
   refine zg1 ?_
   refine cp am1 (hM2) ?_
   refine st_callP (guardX (v:=true) rfl rfl (rfl) rfl) (.cons (.pure (bxE.pure _)) (.cons (.pure (bxE.pure _)) .nil)) (c_FBxSame (bxX (psB (sU l 0 3) (sV l 0 3) ((sU l 0 3)-1) (sV l 0 3) (dfU (sU l 0 3) (sV l 0 3)) (sR l 0 3 0).flatten ((pTU l 0 3)+1-(pTU l 0 3))) (psB (sU l 0 3) (sV l 0 3) (sU l 0 3) ((sV l 0 3)-1) (dfV (sU l 0 3) (sV l 0 3)) (sR l 0 3 0).flatten ((pTV l 0 3)+1-(pTV l 0 3)))) (hB3.le (by omega))) ?_
   refine zg2 ?_
   refine cp am0 (c_awake13) ?_
   refine zg5 ?_
   exact ret1 rfl (.pure rfl)
  ·obtain⟨va,vb,ve,ha,hb,hD1,hD2⟩:=pder_any l hl5 ((pTU l 0 3)+ptV i) ((pTV l 0 3)+ptV j) hpi hpj (wi_has _ _)
   have hN1:=c_PNor (sU l 0 3) (sV l 0 3) (kn2 (sU l 0 3) (pTU l 0 3) ((pTU l 0 3)+1)) (kn2 (sV l 0 3) (pTV l 0 3) ((pTV l 0 3)+1)) (sR l 0 3 0) _ _ va vb ve ha hb hD1
   have hN2:=c_FPNor (sU l 0 3) (sV l 0 3) (kn2 (sU l 0 3) (pTU l 0 3) ((pTU l 0 3)+1)) (kn2 (sV l 0 3) (pTV l 0 3) ((pTV l 0 3)+1)) (sR l 0 3 0) _ _ va vb ve ha hb hD2
   have hx:=v3x_bd ha hb
   refine zg7 ?_
   refine cp am3 (hD1) ?_
   refine zg16 ?_
   refine cp am3 (hD2) ?_
   refine zg16 ?_
   refine cp am3 (hN1) ?_
   refine zg13 ?_
   refine cp am3 (hN2) ?_
   refine zg11 ?_
   refine cp am1 (hS3) ?_
   refine zg12 ?_
   refine cp am1 (hS4) ?_
   refine zg10 ?_
   refine wl_regD 44 (by decide +kernel) ?_
   refine zg4 ?_
   refine st_pure (guardX (v:=true) rfl rfl ((beq_self_eq_true _)) rfl) ldA ?_
   refine st_pure (guardX (v:=true) rfl rfl ((beq_self_eq_true _)) rfl) ldA ?_
   refine st_callP (guardX (v:=true) rfl rfl ((beq_self_eq_true _)) rfl) (.cons im0 (.cons im0 .nil)) (c_FPtSame va (ha.le (by decide))) ?_
   refine st_pure rfl (.pickT rfl ((beq_self_eq_true _))) ?_
   refine zg3 ?_
   refine cp am2 (c_FPtSame vb (hb.le (by decide))) ?_
   refine zg7 ?_
   refine st_pure (guardX (v:=true) rfl rfl ((beq_self_eq_true _)) rfl) ldA ?_
   refine st_pure (guardX (v:=true) rfl rfl ((beq_self_eq_true _)) rfl) ldA ?_
   refine st_callP (guardX (v:=true) rfl rfl ((beq_self_eq_true _)) rfl) (.cons im0 (.cons im0 .nil)) (c_FPtSame (v3x va vb) (hx.le (by decide))) ?_
   refine st_pure rfl (.pickT rfl ((beq_self_eq_true _))) ?_
   refine zg3 ?_
   refine st_callP (guardX (v:=true) rfl rfl (rfl) rfl) (.cons (.pure (bxE.pure _)) (.cons (.pure (bxE.pure _)) .nil)) (c_FBxSame (psB (sU l 0 3) (sV l 0 3) ((sU l 0 3)-1) (sV l 0 3) (dfU (sU l 0 3) (sV l 0 3)) (sR l 0 3 0).flatten ((pTU l 0 3)+1-(pTU l 0 3))) (hB1.le (by omega))) ?_
   refine zg4 ?_
   refine st_callP (guardX (v:=true) rfl rfl (rfl) rfl) (.cons (.pure (bxE.pure _)) (.cons (.pure (bxE.pure _)) .nil)) (c_FBxSame (psB (sU l 0 3) (sV l 0 3) (sU l 0 3) ((sV l 0 3)-1) (dfV (sU l 0 3) (sV l 0 3)) (sR l 0 3 0).flatten ((pTV l 0 3)+1-(pTV l 0 3))) (hB2.le (by omega))) ?_
   refine zg3 ?_
   refine cp am1 (hM1) ?_
   refine zg1 ?_
   refine cp am1 (hM2) ?_
   refine st_callP (guardX (v:=true) rfl rfl (rfl) rfl) (.cons (.pure (bxE.pure _)) (.cons (.pure (bxE.pure _)) .nil)) (c_FBxSame (bxX (psB (sU l 0 3) (sV l 0 3) ((sU l 0 3)-1) (sV l 0 3) (dfU (sU l 0 3) (sV l 0 3)) (sR l 0 3 0).flatten ((pTU l 0 3)+1-(pTU l 0 3))) (psB (sU l 0 3) (sV l 0 3) (sU l 0 3) ((sV l 0 3)-1) (dfV (sU l 0 3) (sV l 0 3)) (sR l 0 3 0).flatten ((pTV l 0 3)+1-(pTV l 0 3)))) (hB3.le (by omega))) ?_
   refine zg2 ?_
   refine cp am0 (c_awake13) ?_
   refine zg5 ?_
   exact ret1 rfl (.pure rfl)
end Go.Proofs.YtfpdccbgngdhkaaGreat
end
