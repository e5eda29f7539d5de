/- Texts T6, T7, T8, T9, T15, T16, Y2, Y3, Y0, Y4, Y5, Y6, LgU, Y11, Y7, Z4, Z5, LgV, LgW, Z6, Z7, Z8, Z9, Z10, Z11, Z12, Z13, Z14 of this proof, joined. -/
import Derived.Test.YthpfpgfehmhpdaaGreatQK5
set_option linter.unusedVariables false
set_option linter.unusedSimpArgs false
section
set_option linter.unusedVariables false
set_option linter.unusedSimpArgs false
set_option maxHeartbeats 8000000
set_option maxRecDepth 100000
attribute [local irreducible] Go.Lg.opsL Go.Lg.wpL Go.Lg.thenL Go.Lg.blockL
namespace Go.Proofs.YthpfpgfehmhpdaaGreat
open Go.Lg
theorem sw_mem {U V:Nat} {c:List Rat} (hc:c.length=(U+1)*(V+1)) {x:Rat} (hx:x∈swL U V c):x∈c:=by
 obtain⟨i,hi,rfl⟩:=List.mem_map.1 hx
 have hi:=List.mem_range.1 hi
 have h1:i/(U+1)<V+1:=Nat.div_lt_of_lt_mul (by rw [Nat.mul_comm];exact hi)
 have h2:=Nat.mod_lt i (show U+1 > 0 by omega)
 exact getD_mem (by rw [hc];exact ix_lt (by omega) (by omega))
theorem rs_mem {g:List Rat→List Rat} {V U:Nat} {c:List Rat} {Q:Rat→Prop} (h:∀ i,i≤U→∀ x∈g (rwL V c i),Q x):∀ {n:Nat},n≤U+1→∀ x∈rsL g V c n,Q x
 | 0,_,x,hx=>by cases hx
 | n+1,hn,x,hx=>by
  rcases List.mem_append.1 (show x∈rsL g V c n++g (rwL V c n) from hx) with h1 | h1
  ·exact rs_mem h (by omega) x h1
  ·exact h n (by omega) x h1
theorem sw_get {U V:Nat} {c:List Rat} {i j:Nat} (hi:i≤U) (hj:j≤V):(swL U V c).getD (j*(U+1)+i) 0=c.getD (i*(V+1)+j) 0:=by
 rw [swL,gL_get (ix_lt hj hi),swV,ix_div hi,ix_mod hi]
section
variable {m M a b:Rat} {U V:Nat} {c:List Rat} (hc:c.length=(U+1)*(V+1)) (h0:0≤a) (hab:a≤b) (hb:b≤1) (h:∀ x∈c,m≤x∧x≤M)
end
namespace H_c_TBnd
theorem zSm {p q:Prop} (k:q) (e:p=q:=by simp only [e1,e2,e3,e4,p1,p2,p3,q1,q2,q3,l1,t0,t1,r1,r2,r3,r4,Nat.zero_add,Nat.reduceMul,Nat.reduceAdd,b1,b2,b3,b4,b5,b6,i1,i2,i3,i4,i5,i6,Nat.reduceBEq,dfq,ebk,kills_map ratE,ratL_kill,spL_kill,LV.kill,kills];exact rfl):p:=e.mpr k
end H_c_TBnd
open H_c_TBnd in
theorem c_TBnd (u v:Int) (c:List Rat) (hl:c.length≤1048576) (hpr:∀ x∈c,rl x≤137438953472):CallP Tryz.prog 159 [.agg [iL u,iL v,.list 3 (c.map ratL)]] (spL (bndP c)):=by
 refine fnP Tryz.func159 ?_
 have ebk:True:=trivial
 refine zg21 ?_
 refine wl_weak (Weak.kill _ 1) ?_
 refine lp1 (fun(k:Nat) L=>((((((St.mk L.slot (hp [(2,⟨6,[spL (0,0)],true⟩),(3,⟨6,[spL (bkP c k)],true⟩)])).put (some 2) (.eptr 2 6 0 0)).put (some 3) (.eptr 3 6 0 0)).put (some 7) (.list 3 (c.map ratL))).put (some 8) (nI64 c.length)).put (some 9) (nI64 k))) (fun k=>k≤c.length) (fun k=>c.length-k) 0 (Nat.zero_le _) ?_
 rintro k L1 hk
 refine zg6 ?_
 refine wl_if rfl (fun h10r h10=>?_) (fun h10r h10=>?_)
 ·have hk2:k<c.length:=by omega
  have hr1:=getD_rl' (R:=137438953472) (by decide) hpr
  have hr2:=hr1 k
  have hr3:=bk_rl (by decide) hr1 k
  have hr4:rl ((c.getD k 0,c.getD k 0):Rat × Rat).1≤137438953472:=hr2
  have hr5:rl ((c.getD k 0,c.getD k 0):Rat × Rat).2≤137438953472:=hr2
  have ebk:bkP c (k+1)=hulP (if k=0 then(c.getD k 0,c.getD k 0) else bkP c k) (c.getD k 0,c.getD k 0):=rfl
  refine zg21 ?_
  refine wl_if rfl (fun h15r h15=>?_) (fun h15r h15=>?_)
  ·have hk0:k=0:=by omega
   rw [if_pos hk0] at ebk
   refine zg2 ?_
   refine cp am1 (c_SPoint _ (by omega)) ?_
   refine zg3 ?_
   refine wl_regD 4 (by decide +kernel) ?_
   refine zg2 ?_
   refine cp am1 (c_SPoint _ (by omega)) ?_
   refine cp am2 (c_SHull _ _ (by omega) (by omega)) ?_
   refine zg4 ?_
   refine wl_regW (Weak.kill _ 5) ?_
   refine zg4 ?_
   exact nx1 (k+1) (by omega)
  ·have hk0:¬ k=0:=by omega
   rw [if_neg hk0] at ebk
   refine zg2 ?_
   refine wl_regD 4 (by decide +kernel) ?_
   refine zg2 ?_
   refine cp am1 (c_SPoint _ (by omega)) ?_
   refine cp am2 (c_SHull _ _ (by omega) (by omega)) ?_
   refine zg4 ?_
   refine wl_regW (Weak.kill _ 5) ?_
   refine zg4 ?_
   exact nx1 (k+1) (by omega)
 ·obtain rfl:k=c.length:=by omega
  refine zg12 ?_
  exact retC [] rfl rfl rfl (spE.csize _) (spL_all _) T50 (.pure (spE.pure _))
def plL (p:List Rat):LV:=.list 3 (p.map ratL)
theorem plE:EncOK plL 1 false:=⟨fun _=>rfl,fun _=>rfl,fun p=>pure_lst ratE 3 p⟩
theorem plZ:ZeroOK Tryz.prog 278 (plL []):=⟨Tryz.t278,_,by kernel_rfl,rfl,rfl,fun _ _ _=>repNil0 3⟩
instance:EC Tryz.prog 278 plL 1 false []:=⟨plE,plZ,T278⟩
def upR (V:Nat) (c:List Rat) (v U:Nat):List Rat:=rsL (fun p=>upP p v) V c (U+1)
def upN (U V:Nat) (c:List Rat) (u v:Nat):List Rat:=swL v u (rsL (fun p=>upP p u) U (swL U v (upR V c v U)) (v+1))
theorem upR_len {U V v:Nat} {c:List Rat} (hc:c.length=(U+1)*(V+1)) (hV:V≤v):(upR V c v U).length=(U+1)*(v+1) :=
 rsL_len (W:=v) (U:=U) (fun i hi=>upP_len (by rw [rwL_len hc hi];omega)) _ (Nat.le_refl _)
theorem upN_len (U V:Nat) (c:List Rat) (u v:Nat):(upN U V c u v).length=(u+1)*(v+1):=swL_len v u _
theorem upP_mem {p:List Rat} {n:Nat} (hl:p.length≤n+1) (h:upS p n):∀ x∈upP p n,rl x≤1073741824:=h.2 _ (by omega)
theorem rs_one (V:Nat) (c:List Rat):∀ n,rsL (fun p=>p) V c n=c.take (n*(V+1))
 | 0=>by simp [rsL]
 | n+1=>by
  rw [rsL,rs_one V c n,rwL,Nat.succ_mul]
  have h:=List.take_append_drop (n*(V+1)) (c.take (n*(V+1)+(V+1)))
  rw [List.take_take,Nat.min_eq_left (by omega)] at h
  exact h
theorem sw_sw {U V:Nat} {c:List Rat} (hc:c.length=(U+1)*(V+1)):swL V U (swL U V c)=c:=by
 refine ext0 (by rw [swL_len,hc]) fun k hk=>?_
 rw [swL_len] at hk
 have h1:k/(V+1)<U+1:=Nat.div_lt_of_lt_mul (by rw [Nat.mul_comm];exact hk)
 have h2:=Nat.mod_lt k (show V+1 > 0 by omega)
 have e:k=k/(V+1)*(V+1)+k % (V+1):=by rw [Nat.mul_comm];exact(Nat.div_add_mod k (V+1)).symm
 rw [e,sw_get (U:=V) (V:=U) (i:=k % (V+1)) (j:=k/(V+1)) (by omega) (by omega),sw_get (U:=U) (V:=V) (i:=k/(V+1)) (j:=k % (V+1)) (by omega) (by omega)]
theorem rs_congr {g h:List Rat→List Rat} {V U:Nat} {c:List Rat} (e:∀ i,i≤U→g (rwL V c i)=h (rwL V c i)):∀ {n},n≤U+1→rsL g V c n=rsL h V c n
 | 0,_=>rfl
 | n+1,hn=>by rw [rsL,rsL,rs_congr e (by omega),e n (by omega)]
theorem upN_self {U V:Nat} {c:List Rat} (hc:c.length=(U+1)*(V+1)):upN U V c U V=c:=by
 have h1:upR V c V U=c:=by
  rw [upR,rs_congr (h:=fun p=>p) (fun i hi=>upP_self (by rw [rwL_len hc hi];omega)) (Nat.le_refl _),rs_one,List.take_of_length_le (by omega)]
 rw [upN,h1,rs_congr (h:=fun p=>p) (fun i hi=>upP_self (by rw [rwL_len (swL_len U V c) hi];omega)) (Nat.le_refl _),rs_one,List.take_of_length_le (by rw [swL_len];omega),sw_sw hc]
open H0 in
theorem c_DiffV (U V:Nat) (c:List Rat) (hc:c.length=(U+1)*(V+1)) (hl:c.length≤1048576) (hcR:∀ x∈c,rl x≤1073741824) (hV1:V≤900):CallP Tryz.prog 165 [.agg [nI64 U,nI64 V,.list 3 (c.map ratL)]] (.agg [nI64 U,nI64 (V-1),.list 3 ((dfV U V c).map ratL)]):=by
 have hU:U+1≤c.length:=by rw [hc];exact Nat.le_mul_of_pos_right _ (Nat.succ_pos V)
 have hV:V+1≤c.length:=by rw [hc];exact Nat.le_mul_of_pos_left _ (Nat.succ_pos U)
 have hnp:=net_pureN U V c
 have hnp2:=net_pureN U (V-1) (dfV U V c)
 refine fnP Tryz.func165 (ht:=(fun g=>LV.ren_pure g _ (net_pureN _ _ _))) ?_
 refine zg9 ?_
 refine cp am2 (c_rows U V c hc hl 228 [] rfl (fun x hx=>by cases hx) difP (V-1) (fun i hi=>c_Diff _ (by rw [rwL_len hc hi];omega) (fun x hx=>hcR x (rwL_mem hx))) (fun i hi=>dif_W (rwL_len hc hi)) (by have:=Nat.mul_le_mul_left (U+1) (show V-1+1≤V+1 by omega);omega)) ?_
 refine zg4 ?_
 exact retC [] rfl rfl rfl rfl rfl T215 (.pure (net_pureN _ _ _))
open H0 in
theorem c_up11 (p:List Rat) (d:Nat) (hp0:0<p.length) (hd:d≤40) (hpn:p.length≤d+1) (hps:upS p d):CallP Tryz.prog 303 [.list 3 (p.map ratL),.boxp (nI64 d)] (.list 3 ((upP p d).map ratL)):=by
 refine fnP Tryz.func303 ?_
 refine zg9 ?_
 refine cp am2 (c_Elev p d hp0 hd hpn hps) ?_
 refine zg14 ?_
 exact ret1 rfl (by first | exact .pure rfl | exact .pure (limL_pure _) | exact .pure (magL_pure _) | exact .pure (ratE.pure _) | exact .pure (pure_lst u32E _ _) | exact .pure (pure_lst ratE _ _))
open H0 in
theorem c_up1 (d:Nat):CallP Tryz.prog 302 [nI64 d] (.clo 303 [.boxp (nI64 d)]):=by
 refine fnP Tryz.func302 (ht:=(fun g=>by simp [LV.ren,rens])) ?_
 refine zg8 ?_
 refine st_opc [1] rfl rfl (.mk (caps:=[.boxp (nI64 d)]) (.cons (.eptr rfl rfl rfl rfl (at_self (nI64 d) rfl) rfl rfl) .nil) (fun x hx=>by rw [List.mem_singleton.1 hx];exact⟨rfl,rfl⟩)) rfl ?_
 refine zg4 ?_
 exact ret1 rfl (.pure rfl)
namespace H_c_up7
theorem zSm {p q:Prop} (k:q) (e:p=q:=by simp only [e1,e2,e3,e4,p1,p2,p3,q1,q2,q3,l1,t0,t1,r1,r2,r3,r4,Nat.zero_add,Nat.reduceMul,Nat.reduceAdd,b1,b2,b3,b4,b5,b6,i1,i2,i3,i4,i5,i6,Nat.reduceBEq,frz_nil,dfq,kills_map ratE,ratL_kill,spL_kill,LV.kill,kills];exact rfl):p:=e.mpr k
end H_c_up7
open H_c_up7 in
theorem c_up7 (U V:Nat) (c:List Rat) (hc:c.length=(U+1)*(V+1)) (hl:c.length≤1048576) (hcR:∀ x∈c,rl x≤274877906944) (u v:Nat) (hUu:U≤u) (hVv:V≤v) (hu:u≤40) (hv:v≤40) (h1:∀ i,i≤U→upS (rwL V c i) v) (h2:∀ j,j≤v→upS (rwL U (swL U v (upR V c v U)) j) u):CallP Tryz.prog 286 [.agg [nI64 U,nI64 V,.list 3 (c.map ratL)],nI64 u,nI64 v] (.agg [nI64 u,nI64 v,.list 3 ((upN U V c u v).map ratL)]):=by
 have hU:U+1≤c.length:=by rw [hc];exact Nat.le_mul_of_pos_right _ (Nat.succ_pos V)
 have hV:V+1≤c.length:=by rw [hc];exact Nat.le_mul_of_pos_left _ (Nat.succ_pos U)
 have hnp:=net_pureN U V c
 have hl1:=upR_len hc hVv
 have hl1s:(upR V c v U).length≤1048576:=by rw [hl1];exact Nat.le_trans (Nat.mul_le_mul (show U+1≤41 by omega) (show v+1≤41 by omega)) (by decide)
 have hn1:=net_pureN U v (upR V c v U)
 have hR1:=c_rows U V c hc hl 303 [.boxp (nI64 v)] rfl (fun x hx=>by rw [List.mem_singleton.1 hx];exact⟨rfl,rfl⟩) (fun p=>upP p v) v (fun i hi=>c_up11 _ v (by rw [rwL_len hc hi];omega) hv (by rw [rwL_len hc hi];omega) (h1 i hi)) (fun i hi=>upP_len (by rw [rwL_len hc hi];omega)) (by rw [←hl1];exact hl1s)
 have hm1:∀ x∈(upR V c v U),rl x≤1073741824:=rs_mem (U:=U) (fun i hi=>upP_mem (by rw [rwL_len hc hi];omega) (h1 i hi)) (Nat.le_refl _)
 have hsl:=swL_len U v (upR V c v U)
 have hR2:=c_columns U v (upR V c v U) hl1 hl1s (fun x hx=>Nat.le_trans (hm1 x hx) (by decide)) 303 [.boxp (nI64 u)] rfl (fun x hx=>by rw [List.mem_singleton.1 hx];exact⟨rfl,rfl⟩) (fun p=>upP p u) u (fun j hj=>c_up11 _ u (by rw [rwL_len hsl hj];omega) hu (by rw [rwL_len hsl hj];omega) (h2 j hj)) (fun j hj=>upP_len (by rw [rwL_len hsl hj];omega)) (by exact Nat.le_trans (Nat.mul_le_mul (show v+1≤41 by omega) (show u+1≤41 by omega)) (by decide)) (rs_mem (U:=v) (fun j hj x hx=>Nat.le_trans (upP_mem (by rw [rwL_len hsl hj];omega) (h2 j hj) x hx) (by decide)) (Nat.le_refl _))
 refine fnP Tryz.func286 (ht:=(fun g=>LV.ren_pure g _ (net_pureN _ _ _))) ?_
 refine zg12 ?_
 refine wl_regD 9 (by decide +kernel) ?_
 refine zg3 ?_
 refine st_opc [] rfl rfl (.clo (f:=302) (cap:=[]) (args:=[nI64 v]) rfl (.cons im0 .nil) ⟨rfl,fun _ h=>by cases h⟩ (c_up1 v).1 (by decide) (fun _ h=>by cases h)) ((c_up1 v).2 _) ?_
 refine st_callP rfl (.cons (.pure hnp) (.cons (.pure rfl) .nil)) hR1 ?_
 refine zg2 ?_
 refine st_opc [] rfl rfl (.clo (f:=302) (cap:=[]) (args:=[nI64 u]) rfl (.cons im0 .nil) ⟨rfl,fun _ h=>by cases h⟩ (c_up1 u).1 (by decide) (fun _ h=>by cases h)) ((c_up1 u).2 _) ?_
 refine st_callP rfl (.cons (.pure hn1) (.cons (.pure rfl) .nil)) hR2 ?_
 refine zg4 ?_
 exact retC [] rfl rfl rfl rfl rfl T215 (.pure (net_pureN _ _ _))
theorem mx_u {a b u:Nat} (h1:a≤u) (h2:b≤u) (h:a=u∨b=u):(if ((b:Nat):Int) > ((a:Nat):Int) then((b:Nat):Int) else((a:Nat):Int))=((u:Nat):Int):=by split<;>omega
theorem mnE (a:Int):(if a<a then a else a)=a:=by split<;>rfl
structure upH (U V:Nat) (c:List Rat) (u v:Nat):Prop where
 hc:c.length=(U+1)*(V+1)
 hl:c.length≤1048576
 hR:∀ x∈c,rl x≤274877906944
 hU:U≤u
 hV:V≤v
 hu:u≤40
 hv:v≤40
 h1:∀ i,i≤U→upS (rwL V c i) v
 h2:∀ j,j≤v→upS (rwL U (swL U v (upR V c v U)) j) u
theorem upH.rl {U V u v:Nat} {c:List Rat} (h:upH U V c u v):∀ x∈upN U V c u v,Go.Lg.rl x≤1073741824 :=
 sw_rl (by decide) fun x hx=>rs_mem (U:=v) (V:=U) (c:=swL U v (upR V c v U)) (n:=v+1) (fun j hj y hy=>upP_mem (by rw [rwL_len (swL_len U v _) hj];have:=h.hU;omega) (h.h2 j hj) y hy) (Nat.le_refl _) x hx
theorem upH.g {U V u v:Nat} {c:List Rat} (h:upH U V c u v) (k:Nat):Go.Lg.rl ((upN U V c u v).getD k 0)≤1073741824:=getD_rl (by decide) h.rl k
theorem upH.n {U V u v:Nat} {c:List Rat} (h:upH U V c u v):(u+1)*(v+1)≤1681 :=
 Nat.le_trans (Nat.mul_le_mul (show u+1≤41 by have:=h.hu;omega) (show v+1≤41 by have:=h.hv;omega)) (by decide)
namespace H_c_both7
theorem zSm {p q:Prop} (k:q) (e:p=q:=by simp only [e1,e2,e3,e4,p1,p2,p3,q1,q2,q3,l1,t0,t1,r1,r2,r3,r4,Nat.zero_add,Nat.reduceMul,Nat.reduceAdd,b1,b2,b3,b4,b5,b6,i1,i2,i3,i4,i5,i6,Nat.reduceBEq,frz_nil,dfq,hmu,hmv,mnE,eg,take_gL,elp,elq,take_map_len,map_snoc,len_snoc,List.length_cons,List.length_nil,List.nil_append,List.map_nil,List.take_nil,List.append_nil,kills_map ratE,ratL_kill,spL_kill,LV.kill,kills];exact rfl):p:=e.mpr k
end H_c_both7
open H_c_both7 in
theorem c_both7 (f:Nat) (g:Rat→Rat→Rat) (U1 V1 U2 V2:Nat) (a b:List Rat) (u v:Nat) (ha:upH U1 V1 a u v) (hb:upH U2 V2 b u v) (hu:U1=u∨U2=u) (hv:V1=v∨V2=v) (hf:∀ i,CallP Tryz.prog f [ratL ((upN U1 V1 a u v).getD i 0),ratL ((upN U2 V2 b u v).getD i 0)] (ratL (g ((upN U1 V1 a u v).getD i 0) ((upN U2 V2 b u v).getD i 0)))):CallP Tryz.prog 262 [.agg [nI64 U1,nI64 V1,.list 3 (a.map ratL)],.agg [nI64 U2,nI64 V2,.list 3 (b.map ratL)],.clo f []] (.agg [nI64 u,nI64 v,.list 3 ((zipG g (upN U1 V1 a u v) (upN U2 V2 b u v)).map ratL)]):=by
 have hmu:=mx_u ha.hU hb.hU hu
 have hmv:=mx_u ha.hV hb.hV hv
 have elp:(upN U1 V1 a u v).length=(u+1)*(v+1):=upN_len _ _ _ _ _
 have elq:(upN U2 V2 b u v).length=(u+1)*(v+1):=upN_len _ _ _ _ _
 have hn:=ha.n
 have hn1:=net_pureN U1 V1 a
 have hn2:=net_pureN U2 V2 b
 have hn3:=net_pureN u v (upN U1 V1 a u v)
 have hn4:=net_pureN u v (upN U2 V2 b u v)
 refine fnP Tryz.func262 (ht:=(fun g=>LV.ren_pure g _ (net_pureN _ _ _))) ?_
 have eg:True:=trivial
 have elp:True:=trivial
 have elq:True:=trivial
 refine zg8 ?_
 refine wl_regD 12 (by decide +kernel) ?_
 refine zg15 ?_
 refine wl_regD 8 (by decide +kernel) ?_
 refine zg3 ?_
 refine cp am3 (c_up7 U1 V1 a ha.hc ha.hl ha.hR u v ha.hU ha.hV ha.hu ha.hv ha.h1 ha.h2) ?_
 refine zg3 ?_
 refine cp am3 (c_up7 U2 V2 b hb.hc hb.hl hb.hR u v hb.hU hb.hV hb.hu hb.hv hb.h1 hb.h2) ?_
 refine zg27 ?_
 refine wl_weak ((Weak.cell 9 rfl (fun Z μ w cs h=>rep_net 57 3 _ _ Z μ w cs h)).trans (Weak.newB _ 57 3 rfl)) ?_
 refine lp1 (fun(i:Nat) L=>((((((((St.mk L.slot (hp [(3,⟨3,[.agg [nI64 u,nI64 v,.list 3 ((upN U1 V1 a u v).map ratL)]],true⟩),(4,⟨3,[.agg [nI64 u,nI64 v,.list 3 ((upN U2 V2 b u v).map ratL)]],true⟩),(6,⟨3,[.agg [.v (.int .i64 0),.v (.int .i64 0),.v (.slice none 0 0)]],true⟩),(9,⟨3,[.agg [nI64 u,nI64 v,.ref 57 3 0 i]],true⟩),(57,⟨3,(gL i (fun k=>g ((upN U1 V1 a u v).getD k 0) ((upN U2 V2 b u v).getD k 0))).map ratL,true⟩)])).put (some 2) (.clo f [])).put (some 3) (.eptr 3 3 0 0)).put (some 4) (.eptr 4 3 0 0)).put (some 6) (.eptr 6 3 0 0)).put (some 9) (.eptr 9 3 0 0)).put (some 38) (nI64 ((u+1)*(v+1)))).put (some 39) (nI64 i))) (fun i=>i≤(u+1)*(v+1)) (fun i=>(u+1)*(v+1)-i) 0 (Nat.zero_le _) ?_
 rintro i L1 hi
 refine zg6 ?_
 refine wl_if rfl (fun h40r h40=>?_) (fun h40r h40=>?_)
 ·have hi2:i<(u+1)*(v+1):=by omega
  have hfi:=hf i
  have hgl:=gL_len i (fun k=>g ((upN U1 V1 a u v).getD k 0) ((upN U2 V2 b u v).getD k 0))
  have eg:gL (i+1) (fun k=>g ((upN U1 V1 a u v).getD k 0) ((upN U2 V2 b u v).getD k 0))=gL i (fun k=>g ((upN U1 V1 a u v).getD k 0) ((upN U2 V2 b u v).getD k 0))++[g ((upN U1 V1 a u v).getD i 0) ((upN U2 V2 b u v).getD i 0)]:=gL_succ _ _
  refine zg10 ?_
  refine wl_regD 15 (by decide +kernel) ?_
  refine zg13 ?_
  refine st_opc [] rfl rfl (.clo (f:=f) (cap:=[]) (args:=[ratL ((upN U1 V1 a u v).getD i 0),ratL ((upN U2 V2 b u v).getD i 0)]) rfl (.cons im0 (.cons im0 .nil)) ⟨rfl,fun _ h=>by cases h⟩ hfi.1 (by decide) (fun _ h=>by cases h)) (hfi.2 _) ?_
  refine zg1 ?_
  refine st_store rfl (.app (news:=[ratL (g ((upN U1 V1 a u v).getD i 0) ((upN U2 V2 b u v).getD i 0))]) rfl rfl rfl rfl rfl (by simp [gL_len]) (.inl rfl) (by decide) Tryz.underlying26 Tryz.underlying26 Z32a T32 rfl B32 (.inl ⟨56,0,_,rfl,by decide,rfl,rfl,by simp,rfl,by simp [pures,ratE.pure]⟩) (by simp;omega) (by simp;omega) (by decide)) ?_
  refine zg5 ?_
  refine wl_regW (Weak.kill _ 56) ?_
  refine st_pure rfl (.bin rfl rfl (add1N (by omega))) ?_
  refine zg3 ?_
  exact nx1 (i+1) (by omega)
 ·obtain rfl:i=(u+1)*(v+1):=by omega
  have hE:gL ((u+1)*(v+1)) (fun k=>g ((upN U1 V1 a u v).getD k 0) ((upN U2 V2 b u v).getD k 0))=(zipG g (upN U1 V1 a u v) (upN U2 V2 b u v)):=by rw [zipG,upN_len];rfl
  refine zg12 ?_
  rw [←hE]
  exact retC [57] rfl rfl rfl rfl rfl T215 (.agg (.cons (.pure rfl) (.cons (.pure rfl) (.cons (imm_refm ratE rfl rfl (by rw [gL_len])) .nil))))
open H0 in
theorem c_TSub (U1 V1 U2 V2:Nat) (a b:List Rat) (u v:Nat) (ha:upH U1 V1 a u v) (hb:upH U2 V2 b u v) (hu:U1=u∨U2=u) (hv:V1=v∨V2=v):CallP Tryz.prog 225 [.agg [nI64 U1,nI64 V1,.list 3 (a.map ratL)],.agg [nI64 U2,nI64 V2,.list 3 (b.map ratL)]] (.agg [nI64 u,nI64 v,.list 3 ((zipG (·-·) (upN U1 V1 a u v) (upN U2 V2 b u v)).map ratL)]):=by
 have hn1:=net_pureN U1 V1 a
 have hn2:=net_pureN U2 V2 b
 refine fnP Tryz.func225 (ht:=(fun g=>LV.ren_pure g _ (net_pureN _ _ _))) ?_
 refine zg11 ?_
 refine cp am3 (c_both7 213 (·-·) U1 V1 U2 V2 a b u v ha hb hu hv (fun i=>c_RSub _ _ (by have:=ha.g i;have:=hb.g i;omega))) ?_
 refine zg4 ?_
 exact retC [] rfl rfl rfl rfl rfl T215 (.pure (net_pureN _ _ _))
theorem sm_comm:∀ (n m:Nat) (f:Nat→Nat→Rat),sm n (fun i=>sm m (f i))=sm m (fun j=>sm n (fun i=>f i j))
 | 0,m,f=>(sm_zero m _ (fun _ _=>rfl)).symm
 | n+1,m,f=>by rw [sm,sm_comm n m f,←sm_add];rfl
def sx (U V:Nat) (c:List Rat) (i j:Nat):Rat:=cR U i*sq (rwL V c i) j
theorem wt_sx {U V i j:Nat} {c:List Rat} (hc:c.length=(U+1)*(V+1)) (hi:i≤U) (hj:j≤V):(wtL U V c).getD (i*(V+1)+j) 0=sx U V c i j:=by
 rw [wtL,gL_get (ix_lt hi hj),wtV,ix_div hj,ix_mod hj,sx,sq,rwL_len hc hi,Nat.add_sub_cancel,rwL_get hc hi hj,Rat.mul_assoc];rfl
theorem sx_gt {U V i j:Nat} {c:List Rat} (hc:c.length=(U+1)*(V+1)) (hi:i≤U) (hj:V<j):sx U V c i j=0:=by
 rw [sx,sq_gt (by rw [rwL_len hc hi];omega),Rat.mul_zero]
theorem ix_inj {W i j r s:Nat} (hj:j≤W) (hs:s≤W) (h:i*(W+1)+j=r*(W+1)+s):i=r∧j=s:=by
 have h1:=congrArg (·/(W+1)) h
 have h2:=congrArg (· % (W+1)) h
 simp only [ix_div hj,ix_div hs,ix_mod hj,ix_mod hs] at h1 h2
 exact⟨h1,h2⟩
section
variable {V1 V2 W U U2 r s:Nat} {x y o:List Rat} (i j k:Nat)
theorem mL_len:∀ l (o:List Rat),(mL V1 V2 W x y i j k l o).length=o.length
 | 0,o=>rfl
 | l+1,o=>by rw [mL,List.length_set,mL_len l o]
theorem mK_len:∀ k (o:List Rat),(mK V1 V2 W x y i j k o).length=o.length
 | 0,o=>rfl
 | k+1,o=>by rw [mK,mL_len,mK_len k o]
theorem mJ_len:∀ j (o:List Rat),(mJ V1 V2 W U2 x y i j o).length=o.length
 | 0,o=>rfl
 | j+1,o=>by rw [mJ,mK_len,mJ_len j o]
theorem mI_len:∀ i (o:List Rat),(mI V1 V2 W U2 x y i o).length=o.length
 | 0,o=>rfl
 | i+1,o=>by rw [mI,mJ_len,mI_len i o]
theorem mL_get (hik:i+k≤U) (ho:o.length=(U+1)*(W+1)):∀ l,j+l≤W+1→∀ r s,s≤W→(mL V1 V2 W x y i j k l o).getD (r*(W+1)+s) 0=o.getD (r*(W+1)+s) 0+(if i+k=r∧j≤s∧s<j+l then x.getD (i*(V1+1)+j) 0*y.getD (k*(V2+1)+(s-j)) 0 else 0)
 | 0,_,r,s,hs=>by rw [mL,if_neg (by omega),Rat.add_zero]
 | l+1,h,r,s,hs=>by
  have hix:=ix_lt (U:=U) (V:=W) (i:=i+k) (j:=j+l) (by omega) (by omega)
  have ih:=mL_get hik ho l (by omega)
  rw [mL,set_get0 _ _ _ _ (by rw [mL_len,ho];omega)]
  by_cases h1:(i+k)*(W+1)+j+l=r*(W+1)+s
  ·obtain⟨h2,h3⟩:=ix_inj (W:=W) (i:=i+k) (j:=j+l) (r:=r) (s:=s) (by omega) hs (by omega)
   rw [if_pos h1,h1,ih r s hs,if_neg (by omega),if_pos (by omega),show s-j=l by omega];grind
  ·rw [if_neg h1,ih r s hs]
   have h4:¬ (i+k=r∧j+l=s):=fun⟨e1,e2⟩=>h1 (by rw [←e1,←e2];omega)
   by_cases h2:i+k=r∧j≤s∧s<j+l
   ·rw [if_pos h2,if_pos (by omega)]
   ·rw [if_neg h2,if_neg (by omega)]
theorem mK_get (hs:s≤W) (hj:j+V2≤W) (ho:o.length=(U+1)*(W+1)):∀ k,i+k≤U+1→(mK V1 V2 W x y i j k o).getD (r*(W+1)+s) 0=o.getD (r*(W+1)+s) 0+sm k (fun k=>if i+k=r∧j≤s∧s<j+(V2+1) then x.getD (i*(V1+1)+j) 0*y.getD (k*(V2+1)+(s-j)) 0 else 0)
 | 0,_=>by rw [mK,sm,Rat.add_zero]
 | k+1,h=>by
  rw [mK,mL_get (U:=U) i j k (by omega) (by rw [mK_len];exact ho) _ (by omega) r s hs,mK_get hs hj ho k (by omega),Rat.add_assoc];rfl
theorem mJ_get (hs:s≤W) (hV:V1+V2≤W) (ho:o.length=(U+1)*(W+1)) (hi:i+U2≤U):∀ j,j≤V1+1→(mJ V1 V2 W U2 x y i j o).getD (r*(W+1)+s) 0=o.getD (r*(W+1)+s) 0+sm j (fun j=>sm (U2+1) fun k=>if i+k=r∧j≤s∧s<j+(V2+1) then x.getD (i*(V1+1)+j) 0*y.getD (k*(V2+1)+(s-j)) 0 else 0)
 | 0,_=>by rw [mJ,sm,Rat.add_zero]
 | j+1,h=>by
  rw [mJ,mK_get (U:=U) i j hs (by omega) (by rw [mJ_len];exact ho) _ (by omega),mJ_get hs hV ho hi j (by omega),Rat.add_assoc];rfl
theorem mI_get {U1:Nat} (hs:s≤W) (hV:V1+V2≤W) (ho:o.length=(U+1)*(W+1)) (hU:U1+U2≤U):∀ i,i≤U1+1→(mI V1 V2 W U2 x y i o).getD (r*(W+1)+s) 0=o.getD (r*(W+1)+s) 0+sm i (fun i=>sm (V1+1) fun j=>sm (U2+1) fun k=>if i+k=r∧j≤s∧s<j+(V2+1) then x.getD (i*(V1+1)+j) 0*y.getD (k*(V2+1)+(s-j)) 0 else 0)
 | 0,_=>by rw [mI,sm,Rat.add_zero]
 | i+1,h=>by
  rw [mI,mJ_get (U:=U) i hs hV (by rw [mI_len];exact ho) (by omega) _ (Nat.le_refl _),mI_get hs hV ho hU i (by omega),Rat.add_assoc];rfl
end
def tpS (U1 V1 U2 V2:Nat) (a b:List Rat) (r s:Nat):Rat:=sm (U1+1) fun i=>sm (U2+1) fun k=>if i+k=r then cf (sx U1 V1 a i) (sx U2 V2 b k) s else 0
theorem top_get {U1 V1 U2 V2 r s:Nat} {a b:List Rat} (ha:a.length=(U1+1)*(V1+1)) (hb:b.length=(U2+1)*(V2+1)) (hs:s≤V1+V2):(mTop U1 V1 U2 V2 a b).getD (r*(V1+V2+1)+s) 0=tpS U1 V1 U2 V2 a b r s:=by
 rw [mTop,mI_get (U:=U1+U2) (U1:=U1) hs (Nat.le_refl _) (by simp) (Nat.le_refl _) _ (Nat.le_refl _),repl_get,Rat.zero_add]
 refine sm_congr _ _ _ fun i hi=>?_
 rw [sm_comm]
 refine sm_congr _ _ _ fun k hk=>?_
 by_cases h:i+k=r
 ·rw [if_pos h]
  have hG1:∀ j,V1+1≤j→(fun j=>if j≤s then sx U1 V1 a i j*sx U2 V2 b k (s-j) else 0) j=0:=fun j hj=>by
   show (if j≤s then sx U1 V1 a i j*sx U2 V2 b k (s-j) else 0)=0
   split
   ·rw [sx_gt ha (by omega) (by omega),Rat.zero_mul]
   ·rfl
  have hG2:∀ j,s+1≤j→(fun j=>if j≤s then sx U1 V1 a i j*sx U2 V2 b k (s-j) else 0) j=0:=fun j hj=>if_neg (by omega)
  have e:cf (sx U1 V1 a i) (sx U2 V2 b k) s=sm (V1+1) (fun j=>if j≤s then sx U1 V1 a i j*sx U2 V2 b k (s-j) else 0):=by
   rw [←sm_ext _ _ hG1 (s+1),Nat.add_comm,sm_ext _ _ hG2]
   exact sm_congr _ _ _ fun j hj=>(if_pos (by omega)).symm
  rw [e]
  refine sm_congr _ _ _ fun j hj=>?_
  by_cases h2:j≤s
  ·rw [if_pos h2]
   by_cases h3:s<j+(V2+1)
   ·rw [if_pos ⟨h,h2,h3⟩,wt_sx ha (by omega) (by omega),wt_sx hb (by omega) (by omega)]
   ·rw [if_neg (by omega),sx_gt hb (by omega) (by omega),Rat.mul_zero]
  ·rw [if_neg h2,if_neg (by omega)]
 ·rw [if_neg h]
  exact sm_zero _ _ fun j _=>if_neg (by omega)
theorem tm_len (U1 V1 U2 V2:Nat) (a b:List Rat):(tmL U1 V1 U2 V2 a b).length=(U1+U2+1)*(V1+V2+1):=gL_len _ _
theorem tm_get {U1 V1 U2 V2 r s:Nat} {a b:List Rat} (ha:a.length=(U1+1)*(V1+1)) (hb:b.length=(U2+1)*(V2+1)) (hr:r≤U1+U2) (hs:s≤V1+V2):(tmL U1 V1 U2 V2 a b).getD (r*(V1+V2+1)+s) 0=tpS U1 V1 U2 V2 a b r s/(cR (U1+U2) r*cR (V1+V2) s):=by
 rw [tmL,gL_get (ix_lt hr hs),dvV,ix_div hs,ix_mod hs,top_get ha hb hs];rfl
section
variable {U1 V1 U2 V2 i k:Nat} {a b:List Rat} (ha:a.length=(U1+1)*(V1+1)) (hb:b.length=(U2+1)*(V2+1)) (hi:i≤U1) (hk:k≤U2)
end
def oE:Option (List Rat)→LV
 | none=>.v (.slice none 0 0)
 | some p=>plL p
section
variable {U1 V1 U2 V2 R:Nat} {a b:List Rat}
end
theorem oE_ok:EncOK oE 1 false:=⟨fun o=>by cases o<;>rfl,fun o=>by cases o<;>rfl,fun o=>by
 cases o with
 | none=>rfl
 | some p=>exact pure_lst ratE 3 p⟩
theorem oE_z:ZeroOK Tryz.prog 278 (oE none):=⟨Tryz.t278,_,by kernel_rfl,rfl,rfl,fun _ _ _=>⟨rfl,rfl⟩⟩
instance:EC Tryz.prog 278 oE 1 false none:=⟨oE_ok,oE_z,T278⟩
theorem dfV_len {U V:Nat} {c:List Rat} (hc:c.length=(U+1)*(V+1)):(dfV U V c).length=(U+1)*(V-1+1) :=
 rsL_len (W:=V-1) (U:=U) (fun i hi=>dif_W (rwL_len hc hi)) _ (Nat.le_refl _)
theorem dfU_len (U V:Nat) (c:List Rat):(dfU U V c).length=(U-1+1)*(V+1):=swL_len _ _ _
theorem sm_rlT {B:Nat}:∀ (n:Nat) (f:Nat→Rat),(∀ i,i<n→rl (f i)≤B)→rl (sm n f)≤1+n*(B+1)
 | 0,f,_=>by show rl 0≤_;rw [show rl 0=1 from rfl];omega
 | n+1,f,h=>by
  have h1:=sm_rlT n f (fun i hi=>h i (by omega))
  have h2:=h n (by omega)
  have h3:=rl_add (sm n f) (f n)
  rw [sm,Nat.succ_mul];omega
theorem upH_same {U V:Nat} {c:List Rat} (hc:c.length=(U+1)*(V+1)) (hU:U≤40) (hV:V≤40) (hR:∀ x∈c,rl x≤1073741824):upH U V c U V:=by
 have h1:upR V c V U=c:=by
  rw [upR,rs_congr (h:=fun p=>p) (fun i hi=>upP_self (by rw [rwL_len hc hi];omega)) (Nat.le_refl _),rs_one,List.take_of_length_le (by omega)]
 have h2:∀ {p:List Rat} {n:Nat},p.length=n+1→(∀ x∈p,rl x≤1073741824)→upS p n:=fun {p n} hp hpR=>⟨hpR,fun k hk=>by
  obtain rfl:k=0:=by omega
  exact hpR⟩
 refine⟨hc,?_,fun x hx=>Nat.le_trans (hR x hx) (by decide),Nat.le_refl _,Nat.le_refl _,hU,hV,fun i hi=>h2 (rwL_len hc hi) (fun x hx=>hR x (rwL_mem hx)),fun j hj=>?_⟩
 ·rw [hc];exact Nat.le_trans (Nat.mul_le_mul (show U+1≤41 by omega) (show V+1≤41 by omega)) (by decide)
 ·rw [h1]
  exact h2 (rwL_len (swL_len U V c) hj) (fun x hx=>hR x (sw_mem hc (rwL_mem hx)))
theorem dfV_rl {U V R:Nat} {c:List Rat} (hc:c.length=(U+1)*(V+1)) (hV:V≤900) (hR:1≤R) (h:∀ x∈c,rl x≤R):∀ x∈dfV U V c,rl x≤2*R+4 :=
 rs_mem (U:=U) (fun i hi=>difP_rl hR (by rw [rwL_len hc hi];omega) (fun x hx=>h x (rwL_mem hx))) (Nat.le_refl _)
theorem dfU_rl {U V R:Nat} {c:List Rat} (hc:c.length=(U+1)*(V+1)) (hU:U≤900) (hR:1≤R) (h:∀ x∈c,rl x≤R):∀ x∈dfU U V c,rl x≤2*R+4 :=
 sw_rl (by omega) (rs_mem (U:=V) (fun j hj=>difP_rl hR (by rw [rwL_len (swL_len U V c) hj];omega) (fun x hx=>h x (sw_mem hc (rwL_mem hx)))) (Nat.le_refl _))
theorem zipS_rl {R:Nat} {p q:List Rat} {g:Rat→Rat→Rat} (hg:∀ a b,rl (g a b)≤rl a+rl b+1) (hR:1≤R) (hp:∀ x∈p,rl x≤R) (hq:∀ x∈q,rl x≤R):∀ x∈zipG g p q,rl x≤2*R+1:=fun x hx=>by
 obtain⟨i,_,rfl⟩:=List.mem_map.1 hx
 have h1:=getD_rl hR hp i
 have h2:=getD_rl hR hq i
 have h3:=hg (p.getD i 0) (q.getD i 0)
 omega
theorem dfr:(default:List PoR)=[]:=rfl
theorem rep_nets4 (d1 d2 d3 d4 sz:Nat) (x1 x2 x3 x4 y1 y2 y3 y4:LV) (Z:Nat→Prop) (μ:Nat→Option Nat) (w:World) (cs:List Value)
  (h:Rep Z μ w (.agg [.agg [x1,y1,.v (.slice none 0 0)],.agg [x2,y2,.v (.slice none 0 0)],.agg [x3,y3,.v (.slice none 0 0)],.agg [x4,y4,.v (.slice none 0 0)]]) cs) :
  Rep Z μ w (.agg [.agg [x1,y1,.ref d1 sz 0 0],.agg [x2,y2,.ref d2 sz 0 0],.agg [x3,y3,.ref d3 sz 0 0],.agg [x4,y4,.ref d4 sz 0 0]]) cs:=by
 rw [Rep] at h ⊢
 simp only [RepFs] at h ⊢
 obtain⟨a1,b1,e1,l1,g1,a2,b2,e2,l2,g2,a3,b3,e3,l3,g3,a4,b4,e4,l4,g4,e5⟩:=h
 exact⟨a1,b1,e1,l1,rep_net _ _ _ _ _ _ _ _ g1,a2,b2,e2,l2,rep_net _ _ _ _ _ _ _ _ g2,a3,b3,e3,l3,rep_net _ _ _ _ _ _ _ _ g3,a4,b4,e4,l4,rep_net _ _ _ _ _ _ _ _ g4,e5⟩
theorem dropR {rows:List (List PoR)} {i:Nat} (h:i<rows.length):rows.drop i=rows.getD i [] :: rows.drop (i+1):=by
 rw [List.drop_eq_getElem_cons h,List.getD_eq_getElem?_getD,List.getElem?_eq_getElem h];rfl
theorem dropP {po:List PoR} {j:Nat} (h:j<po.length):po.drop j=po.getD j default :: po.drop (j+1):=by
 rw [List.drop_eq_getElem_cons h,List.getD_eq_getElem?_getD,List.getElem?_eq_getElem h];rfl
theorem getR_mem {rows:List (List PoR)} {i:Nat} (h:i<rows.length):rows.getD i []∈rows:=by
 rw [List.getD_eq_getElem?_getD,List.getElem?_eq_getElem h];exact List.getElem_mem h
structure rwOK (rows:List (List PoR)) (R:Nat):Prop where
 ok:∀ r∈rows,∀ q∈r,okP R q
 n:rows.length≤1000
 m:∀ r∈rows,r.length≤1000
 f:rows.flatten.length≤10000
structure rwI (rows:List (List PoR)) (i:Nat) (ps:List PoR):Prop where
 hi:i≤rows.length
 he:ps++(rows.drop i).flatten=rows.flatten
theorem rwI.le {rows:List (List PoR)} {i:Nat} {ps:List PoR} (h:rwI rows i ps):ps.length≤rows.flatten.length:=by
 rw [←h.he];simp
theorem rwI.zero (rows:List (List PoR)):rwI rows 0 []:=⟨Nat.zero_le _,rfl⟩
theorem rwI.last {rows:List (List PoR)} {ps:List PoR} (h:rwI rows rows.length ps):ps=rows.flatten:=by
 have:=h.he
 rwa [List.drop_length,List.flatten_nil,List.append_nil] at this
structure rwJ (rows:List (List PoR)) (i j:Nat) (qs:List PoR):Prop where
 hi:i<rows.length
 hj:j≤(rows.getD i []).length
 he:qs++((rows.getD i []).drop j++(rows.drop (i+1)).flatten)=rows.flatten
theorem rwI.go {rows:List (List PoR)} {i:Nat} {ps:List PoR} (h:rwI rows i ps) (hi:i<rows.length):rwJ rows i 0 ps:=by
 refine⟨hi,Nat.zero_le _,?_⟩
 have:=h.he
 rwa [dropR hi,List.flatten_cons] at this
theorem rwJ.le {rows:List (List PoR)} {i j:Nat} {qs:List PoR} (h:rwJ rows i j qs):qs.length≤rows.flatten.length:=by
 rw [←h.he];simp
theorem rwJ.lt {rows:List (List PoR)} {i j:Nat} {qs:List PoR} (h:rwJ rows i j qs) (hj:j<(rows.getD i []).length):qs.length<rows.flatten.length:=by
 have:=congrArg List.length h.he
 rw [List.length_append,List.length_append,List.length_drop] at this
 omega
theorem rwJ.next {rows:List (List PoR)} {i j:Nat} {qs:List PoR} (h:rwJ rows i j qs) (hj:j<(rows.getD i []).length):rwJ rows i (j+1) (qs++[(rows.getD i []).getD j default]):=by
 refine⟨h.hi,by omega,?_⟩
 have:=h.he
 rw [dropP hj] at this
 rw [←this];simp
theorem rwJ.last {rows:List (List PoR)} {i:Nat} {qs:List PoR} (h:rwJ rows i (rows.getD i []).length qs):rwI rows (i+1) qs:=by
 refine⟨h.hi,?_⟩
 have:=h.he
 rwa [List.drop_length,List.nil_append] at this
theorem nmP_sn (po:List PoR) (q:PoR) (k:Nat):nmP po k++[q.w*q.p.at k]=nmP (po++[q]) k:=by simp [nmP]
theorem wtP_sn (po:List PoR) (q:PoR):wtP po++[q.w]=wtP (po++[q]):=by simp [wtP]
namespace H_c_PNum
theorem zSm {p q:Prop} (k:q) (e:p=q:=by simp only [e1,e2,e3,e4,p1,p2,p3,q1,q2,q3,l1,t0,t1,r1,r2,r3,r4,Nat.zero_add,Nat.reduceMul,Nat.reduceAdd,b1,b2,b3,b4,b5,b6,i1,i2,i3,i4,i5,i6,Nat.reduceBEq,prL,etk0,etk1,etk2,etk3,ers0,ers1,ers2,ers3,len_snoc,prL_kill,kills_map prE,dfr,dfq,take_map_len,map_snoc,len_snoc,List.length_cons,List.length_nil,List.nil_append,List.map_nil,List.take_nil,List.append_nil,List.set_cons_zero,List.set_cons_succ,Nat.reduceEqDiff,reduceIte,if_true,if_false,ptL_kill,poL_kill,kills_map ptE,kills_map poE,kills_map ratE,ratL_kill,spL_kill,LV.kill,kills];exact rfl):p:=e.mpr k
end H_c_PNum
open H_c_PNum in
theorem c_PNum (U V:Nat) (kU kV:List Rat) (rows:List (List PoR)) (hU:U≤1000000) (hV:V≤1000000) (R:Nat) (hR:R≤1000000) (hw:rwOK rows R):CallP Tryz.prog 160 [.agg [nI64 U,nI64 V,.list 3 (kU.map ratL),.list 3 (kV.map ratL),.list 1 (rows.map prL)]] (.agg [.agg [nI64 U,nI64 V,.list 3 ((nmP rows.flatten 0).map ratL)],.agg [nI64 U,nI64 V,.list 3 ((nmP rows.flatten 1).map ratL)],.agg [nI64 U,nI64 V,.list 3 ((nmP rows.flatten 2).map ratL)],.agg [nI64 U,nI64 V,.list 3 ((wtP rows.flatten).map ratL)]]):=by
 have hsp:LV.pure (.agg [nI64 U,nI64 V,.list 3 (kU.map ratL),.list 3 (kV.map ratL),.list 1 (rows.map prL)])=true:=by simp [LV.pure,pures,pures_map ratE,pures_map prE]
 have hwn:=hw.n
 have hwf:=hw.f
 refine fnP Tryz.func160 (ht:=(fun g=>LV.ren_pure g _ (by simp [LV.pure,pures,pures_map ratE,pures_map prE]))) ?_
 have etk0:True:=trivial
 have etk1:True:=trivial
 have etk2:True:=trivial
 have etk3:True:=trivial
 have ers0:True:=trivial
 have ers1:True:=trivial
 have ers2:True:=trivial
 have ers3:True:=trivial
 refine zg18 ?_
 refine wl_unroll ?_
 refine zg6 ?_
 refine wl_condX (b:=_) rfl (by decide) ?_
 refine zg10 ?_
 refine wl_regH rfl 8 3 [1,4,5] (by decide +kernel) rfl ?_
 simp only [List.take_succ_cons,List.take_zero,e1,e2,e3,e4,p1,p2,p3,q1,q2,q3,l1,t0,t1,r1,r2,r3,r4,Nat.zero_add,Nat.reduceMul,Nat.reduceAdd,b1,b2,b3,b4,b5,b6,i1,i2,i3,i4,i5,i6,Nat.reduceBEq,bh7,dh1,dh2,dh3]
 refine zg8 ?_
 refine st_unhide rfl rfl (fun om h=>by cases h;exact⟨_,_,_,_,_,rfl,rfl⟩) ?_
 simp only [List.drop_succ_cons,List.drop_zero]
 refine zg12 ?_
 refine wl_unroll ?_
 refine zg6 ?_
 refine wl_condX (b:=_) rfl (by decide) ?_
 refine zg10 ?_
 refine wl_regH rfl 8 3 [1,4,5] (by decide +kernel) rfl ?_
 simp only [List.take_succ_cons,List.take_zero,e1,e2,e3,e4,p1,p2,p3,q1,q2,q3,l1,t0,t1,r1,r2,r3,r4,Nat.zero_add,Nat.reduceMul,Nat.reduceAdd,b1,b2,b3,b4,b5,b6,i1,i2,i3,i4,i5,i6,Nat.reduceBEq,bh7,dh1,dh2,dh3]
 refine zg8 ?_
 refine st_unhide rfl rfl (fun om h=>by cases h;exact⟨_,_,_,_,_,rfl,rfl⟩) ?_
 simp only [List.drop_succ_cons,List.drop_zero]
 refine zg12 ?_
 refine wl_unroll ?_
 refine zg6 ?_
 refine wl_condX (b:=_) rfl (by decide) ?_
 refine zg10 ?_
 refine wl_regH rfl 8 3 [1,4,5] (by decide +kernel) rfl ?_
 simp only [List.take_succ_cons,List.take_zero,e1,e2,e3,e4,p1,p2,p3,q1,q2,q3,l1,t0,t1,r1,r2,r3,r4,Nat.zero_add,Nat.reduceMul,Nat.reduceAdd,b1,b2,b3,b4,b5,b6,i1,i2,i3,i4,i5,i6,Nat.reduceBEq,bh7,dh1,dh2,dh3]
 refine zg8 ?_
 refine st_unhide rfl rfl (fun om h=>by cases h;exact⟨_,_,_,_,_,rfl,rfl⟩) ?_
 simp only [List.drop_succ_cons,List.drop_zero]
 refine zg12 ?_
 refine wl_unroll ?_
 refine zg6 ?_
 refine wl_condX (b:=_) rfl (by decide) ?_
 refine zg10 ?_
 refine wl_regH rfl 8 3 [1,4,5] (by decide +kernel) rfl ?_
 simp only [List.take_succ_cons,List.take_zero,e1,e2,e3,e4,p1,p2,p3,q1,q2,q3,l1,t0,t1,r1,r2,r3,r4,Nat.zero_add,Nat.reduceMul,Nat.reduceAdd,b1,b2,b3,b4,b5,b6,i1,i2,i3,i4,i5,i6,Nat.reduceBEq,bh7,dh1,dh2,dh3]
 refine zg8 ?_
 refine st_unhide rfl rfl (fun om h=>by cases h;exact⟨_,_,_,_,_,rfl,rfl⟩) ?_
 simp only [List.drop_succ_cons,List.drop_zero]
 refine zg12 ?_
 refine wl_unroll ?_
 refine zg6 ?_
 refine wl_condY (b:=_) rfl (by decide) ?_
 refine zg15 ?_
 refine wl_weak (((Weak.cell 3 rfl (fun Z μ w cs h=>rep_nets4 1001 1002 1003 1004 3 _ _ _ _ _ _ _ _ Z μ w cs h)).trans ((Weak.newB _ 1001 3 rfl).trans ((Weak.newB _ 1002 3 rfl).trans ((Weak.newB _ 1003 3 rfl).trans (Weak.newB _ 1004 3 rfl)))))) ?_
 refine lp2 (fun(i:Nat) (ps:List PoR) L=>((((((St.mk L.slot (hp [(1,⟨5,[.agg [nI64 U,nI64 V,.list 3 (kU.map ratL),.list 3 (kV.map ratL),.list 1 (rows.map prL)]],true⟩),(2,⟨12,[.agg [.agg [.v (.int .i64 0),.v (.int .i64 0),.v (.slice none 0 0)],.agg [.v (.int .i64 0),.v (.int .i64 0),.v (.slice none 0 0)],.agg [.v (.int .i64 0),.v (.int .i64 0),.v (.slice none 0 0)],.agg [.v (.int .i64 0),.v (.int .i64 0),.v (.slice none 0 0)]]],true⟩),(3,⟨12,[.agg [.agg [nI64 U,nI64 V,.ref 1001 3 0 ps.length],.agg [nI64 U,nI64 V,.ref 1002 3 0 ps.length],.agg [nI64 U,nI64 V,.ref 1003 3 0 ps.length],.agg [nI64 U,nI64 V,.ref 1004 3 0 ps.length]]],true⟩),(1001,⟨3,(nmP ps 0).map ratL,true⟩),(1002,⟨3,(nmP ps 1).map ratL,true⟩),(1003,⟨3,(nmP ps 2).map ratL,true⟩),(1004,⟨3,(wtP ps).map ratL,true⟩)])).put (some 2) (.eptr 2 12 0 0)).put (some 3) (.eptr 3 12 0 0)).put (some 26) (.list 1 (rows.map prL))).put (some 27) (nI64 rows.length)).put (some 28) (nI64 i))) (fun i ps=>rwI rows i ps) (fun i ps=>rows.length-i) 0 ([]) (rwI.zero rows) ?_
 rintro i ps L2 hI
 refine zg6 ?_
 refine wl_if rfl (fun h29r h29=>?_) (fun h29r h29=>?_)
 ·have hi2:i<rows.length:=by omega
  refine zg19 ?_
  refine lp2 (fun(j:Nat) (qs:List PoR) L=>(((((((((St.mk L.slot (hp [(1,⟨5,[.agg [nI64 U,nI64 V,.list 3 (kU.map ratL),.list 3 (kV.map ratL),.list 1 (rows.map prL)]],true⟩),(2,⟨12,[.agg [.agg [.v (.int .i64 0),.v (.int .i64 0),.v (.slice none 0 0)],.agg [.v (.int .i64 0),.v (.int .i64 0),.v (.slice none 0 0)],.agg [.v (.int .i64 0),.v (.int .i64 0),.v (.slice none 0 0)],.agg [.v (.int .i64 0),.v (.int .i64 0),.v (.slice none 0 0)]]],true⟩),(3,⟨12,[.agg [.agg [nI64 U,nI64 V,.ref 1001 3 0 qs.length],.agg [nI64 U,nI64 V,.ref 1002 3 0 qs.length],.agg [nI64 U,nI64 V,.ref 1003 3 0 qs.length],.agg [nI64 U,nI64 V,.ref 1004 3 0 qs.length]]],true⟩),(1001,⟨3,(nmP qs 0).map ratL,true⟩),(1002,⟨3,(nmP qs 1).map ratL,true⟩),(1003,⟨3,(nmP qs 2).map ratL,true⟩),(1004,⟨3,(wtP qs).map ratL,true⟩)])).put (some 2) (.eptr 2 12 0 0)).put (some 3) (.eptr 3 12 0 0)).put (some 26) (.list 1 (rows.map prL))).put (some 27) (nI64 rows.length)).put (some 28) (nI64 i)).put (some 32) (.list 12 ((rows.getD i []).map poL))).put (some 33) (nI64 (rows.getD i []).length)).put (some 34) (nI64 j))) (fun j qs=>rwJ rows i j qs) (fun j qs=>(rows.getD i []).length-j) 0 ps (hI.go hi2) ?_
  rintro j qs L3 hJ
  refine zg6 ?_
  refine wl_if rfl (fun h35r h35=>?_) (fun h35r h35=>?_)
  ·have hj2:j<(rows.getD i []).length:=by omega
   have hJe:=hJ.hj
   have hJl:=hJ.le
   have hJi:=hJ.hi
   have hrm:=getR_mem hJi
   have hrl:=hw.m _ hrm
   have hqm:=getD_memP hj2
   have hok:=hw.ok _ hrm _ hqm
   have hJ2:=hJ.lt hj2
   have ers0:(nmP qs 0)++[((rows.getD i []).getD j default).w*((rows.getD i []).getD j default).p.x]=(nmP (qs++[((rows.getD i []).getD j default)]) 0):=nmP_sn _ _ 0
   have ers1:(nmP qs 1)++[((rows.getD i []).getD j default).w*((rows.getD i []).getD j default).p.y]=(nmP (qs++[((rows.getD i []).getD j default)]) 1):=nmP_sn _ _ 1
   have ers2:(nmP qs 2)++[((rows.getD i []).getD j default).w*((rows.getD i []).getD j default).p.z]=(nmP (qs++[((rows.getD i []).getD j default)]) 2):=nmP_sn _ _ 2
   have ers3:(wtP qs)++[((rows.getD i []).getD j default).w]=(wtP (qs++[((rows.getD i []).getD j default)])):=wtP_sn _ _
   have etk0:((nmP qs 0).map ratL).take qs.length=(nmP qs 0).map ratL:=List.take_of_length_le (by rw [List.length_map,nmP_len];omega)
   have etk1:((nmP qs 1).map ratL).take qs.length=(nmP qs 1).map ratL:=List.take_of_length_le (by rw [List.length_map,nmP_len];omega)
   have etk2:((nmP qs 2).map ratL).take qs.length=(nmP qs 2).map ratL:=List.take_of_length_le (by rw [List.length_map,nmP_len];omega)
   have etk3:((wtP qs).map ratL).take qs.length=(wtP qs).map ratL:=List.take_of_length_le (by rw [List.length_map,wtP_len];omega)
   have hn0:=nmP_len qs 0
   have hn1:=nmP_len qs 1
   have hn2:=nmP_len qs 2
   have hn3:=wtP_len qs
   refine zg15 ?_
   refine cp am1 (c_Of2 ((rows.getD i []).getD j default) R hR hok) ?_
   refine zg4 ?_
   refine wl_unroll ?_
   refine zg6 ?_
   refine wl_condX (b:=_) rfl (by decide) ?_
   refine zg13 ?_
   refine wl_regF 7 [0] (by decide +kernel) ?_
   refine zg7 ?_
   refine st_store rfl (.appX (d:=1001) (news:=[ratL (((rows.getD i []).getD j default).w*((rows.getD i []).getD j default).p.x)]) rfl rfl rfl rfl (by simp;omega) (.inl rfl) (by decide) Tryz.underlying278 Tryz.underlying278 Z32a T32 rfl B32 (.inl ⟨50,0,_,rfl,by decide,rfl,rfl,by simp,rfl,by simp [pures,ratE.pure]⟩) (by simp;omega) (by simp;omega) (by decide)) ?_
   refine zg6 ?_
   refine wl_regW ((Weak.kill _ 10).trans (Weak.kill _ 50)) ?_
   refine zg4 ?_
   refine wl_unroll ?_
   refine zg6 ?_
   refine wl_condX (b:=_) rfl (by decide) ?_
   refine zg13 ?_
   refine wl_regF 7 [0] (by decide +kernel) ?_
   refine zg7 ?_
   refine st_store rfl (.appX (d:=1002) (news:=[ratL (((rows.getD i []).getD j default).w*((rows.getD i []).getD j default).p.y)]) rfl rfl rfl rfl (by simp;omega) (.inl rfl) (by decide) Tryz.underlying278 Tryz.underlying278 Z32a T32 rfl B32 (.inl ⟨50,0,_,rfl,by decide,rfl,rfl,by simp,rfl,by simp [pures,ratE.pure]⟩) (by simp;omega) (by simp;omega) (by decide)) ?_
   refine zg6 ?_
   refine wl_regW ((Weak.kill _ 10).trans (Weak.kill _ 50)) ?_
   refine zg4 ?_
   refine wl_unroll ?_
   refine zg6 ?_
   refine wl_condX (b:=_) rfl (by decide) ?_
   refine zg13 ?_
   refine wl_regF 7 [0] (by decide +kernel) ?_
   refine zg7 ?_
   refine st_store rfl (.appX (d:=1003) (news:=[ratL (((rows.getD i []).getD j default).w*((rows.getD i []).getD j default).p.z)]) rfl rfl rfl rfl (by simp;omega) (.inl rfl) (by decide) Tryz.underlying278 Tryz.underlying278 Z32a T32 rfl B32 (.inl ⟨50,0,_,rfl,by decide,rfl,rfl,by simp,rfl,by simp [pures,ratE.pure]⟩) (by simp;omega) (by simp;omega) (by decide)) ?_
   refine zg6 ?_
   refine wl_regW ((Weak.kill _ 10).trans (Weak.kill _ 50)) ?_
   refine zg4 ?_
   refine wl_unroll ?_
   refine zg6 ?_
   refine wl_condX (b:=_) rfl (by decide) ?_
   refine zg13 ?_
   refine wl_regF 7 [0] (by decide +kernel) ?_
   refine zg7 ?_
   refine st_store rfl (.appX (d:=1004) (news:=[ratL (((rows.getD i []).getD j default).w)]) rfl rfl rfl rfl (by simp;omega) (.inl rfl) (by decide) Tryz.underlying278 Tryz.underlying278 Z32a T32 rfl B32 (.inl ⟨50,0,_,rfl,by decide,rfl,rfl,by simp,rfl,by simp [pures,ratE.pure]⟩) (by simp;omega) (by simp;omega) (by decide)) ?_
   refine zg6 ?_
   refine wl_regW ((Weak.kill _ 10).trans (Weak.kill _ 50)) ?_
   refine zg4 ?_
   refine wl_unroll ?_
   refine zg6 ?_
   refine wl_condY (b:=_) rfl (by decide) ?_
   refine zg6 ?_
   refine wl_regW (Weak.kill _ 8) ?_
   refine st_pure rfl (.bin rfl rfl (add1N (by omega))) ?_
   refine zg3 ?_
   exact nx2 (j+1) (qs++[((rows.getD i []).getD j default)]) (hJ.next hj2)
  ·have hJe:=hJ.hj
   have hJl:=hJ.le
   have hJi:=hJ.hi
   have hrm:=getR_mem hJi
   have hrl:=hw.m _ hrm
   obtain rfl:j=(rows.getD i []).length:=by omega
   refine zg7 ?_
   refine st_pure rfl (.bin rfl rfl (add1N (by omega))) ?_
   refine zg3 ?_
   exact nx2 (i+1) qs hJ.last (hm:=by have:=hJ.hi;omega)
 ·have hIi:=hI.hi
  obtain rfl:i=rows.length:=by omega
  have hE:=hI.last
  subst hE
  refine zg12 ?_
  exact retC [1001,1002,1003,1004] rfl rfl rfl cs (at_all cs rfl) T216 (.agg (.cons (.agg (.cons (.pure rfl) (.cons (.pure rfl) (.cons (imm_refm ratE rfl rfl (nmP_len _ 0).symm) .nil)))) (.cons (.agg (.cons (.pure rfl) (.cons (.pure rfl) (.cons (imm_refm ratE rfl rfl (nmP_len _ 1).symm) .nil)))) (.cons (.agg (.cons (.pure rfl) (.cons (.pure rfl) (.cons (imm_refm ratE rfl rfl (nmP_len _ 2).symm) .nil)))) (.cons (.agg (.cons (.pure rfl) (.cons (.pure rfl) (.cons (imm_refm ratE rfl rfl (wtP_len _).symm) .nil)))) .nil)))))
structure pf (R U V:Nat) (rows:List (List PoR)):Prop where
 r1:1≤R
 rB:R≤1000000
 u1:1≤U
 u3:U≤3
 v1:1≤V
 v3:V≤3
 n:rows.length=U+1
 m:∀ r∈rows,r.length=V+1
 ok:∀ r∈rows,∀ q∈r,okP R q
theorem flat_len {rows:List (List PoR)} {m:Nat} (h:∀ r∈rows,r.length=m):rows.flatten.length=rows.length*m:=by
 induction rows with
 | nil=>simp
 | cons r rs ih =>
  rw [List.flatten_cons,List.length_append,ih fun x hx=>h x (List.mem_cons_of_mem _ hx),h r (List.mem_cons_self ..),List.length_cons,Nat.succ_mul,Nat.add_comm]
section
variable {R U V:Nat} {rows:List (List PoR)} (h:pf R U V rows)
include h
theorem pf.len:rows.flatten.length=(U+1)*(V+1):=by rw [flat_len h.m,h.n]
theorem pf.l16:rows.flatten.length≤16:=by
 rw [h.len]
 have h1:=h.u3
 have h2:=h.v3
 exact Nat.le_trans (Nat.mul_le_mul (show U+1≤4 by omega) (show V+1≤4 by omega)) (by decide)
theorem pf.fok:∀ q∈rows.flatten,okP R q:=fun q hq=>by
 obtain⟨r,h1,h2⟩:=List.mem_flatten.1 hq
 exact h.ok r h1 q h2
theorem pf.rw:rwOK rows R:=by
 have h1:=h.u3
 have h2:=h.v3
 have h3:=h.n
 have h4:=h.l16
 exact⟨h.ok,by omega,fun r hr=>by have:=h.m r hr;omega,by omega⟩
theorem pf.nl (k:Nat):(nmP rows.flatten k).length=(U+1)*(V+1):=by rw [nmP_len,h.len]
theorem pf.wl:(wtP rows.flatten).length=(U+1)*(V+1):=by rw [wtP_len,h.len]
theorem pf.nr (k:Nat):∀ x∈nmP rows.flatten k,rl x≤2*R:=nmP_rl h.fok k
theorem pf.wr:∀ x∈wtP rows.flatten,rl x≤R:=wtP_rl h.fok
end
theorem sx_rlR {U V i j R:Nat} {c:List Rat} (hU:U≤40) (hV:V≤40) (hc:c.length=(U+1)*(V+1)) (hi:i≤U) (hR:1≤R) (h:∀ x∈c,rl x≤R):rl (sx U V c i j)≤R+4:=by
 have h1:=chsQ_rl (n:=U) i hU
 have h2:=chsQ_rl (n:=V) j hV
 have h3:=getD_rl (S:=R) hR (fun x hx=>h x (rwL_mem (V:=V) (i:=i) hx)) j
 have h4:=rl_mul (cR V j) ((rwL V c i).getD j 0)
 have h5:=rl_mul (cR U i) (cR V j*(rwL V c i).getD j 0)
 rw [sx,sq,rwL_len hc hi,Nat.add_sub_cancel]
 unfold cR at *
 omega
theorem tm_rlR {S U1 V1 U2 V2:Nat} {a b:List Rat} (ha:a.length=(U1+1)*(V1+1)) (hb:b.length=(U2+1)*(V2+1)) (hU1:U1≤3) (hV1:V1≤3) (hU2:U2≤3) (hV2:V2≤3) (hS:1≤S) (haR:∀ x∈a,rl x≤S) (hbR:∀ x∈b,rl x≤S):∀ x∈tmL U1 V1 U2 V2 a b,rl x≤224*S+1200:=by
 intro x hx
 have ht:=tm_len U1 V1 U2 V2 a b
 obtain⟨k,hk,rfl⟩:=List.getElem_of_mem hx
 rw [ht] at hk
 have h1:k/(V1+V2+1)<U1+U2+1:=Nat.div_lt_of_lt_mul (by rw [Nat.mul_comm];exact hk)
 have h2:=Nat.mod_lt k (show V1+V2+1 > 0 by omega)
 have e:k=k/(V1+V2+1)*(V1+V2+1)+k % (V1+V2+1):=by rw [Nat.mul_comm];exact(Nat.div_add_mod k _).symm
 have e2:(tmL U1 V1 U2 V2 a b)[k]=(tmL U1 V1 U2 V2 a b).getD k 0:=by rw [List.getD_eq_getElem?_getD,List.getElem?_eq_getElem (by rw [ht];exact hk)];rfl
 rw [e2,e]
 generalize k/(V1+V2+1)=r at *
 generalize k % (V1+V2+1)=s at *
 rw [tm_get ha hb (by omega) (by omega)]
 have c1:=chsQ_rl (n:=U1+U2) r (by omega)
 have c2:=chsQ_rl (n:=V1+V2) s (by omega)
 have c3:=rl_mul (cR (U1+U2) r) (cR (V1+V2) s)
 have hcf:∀ i,i<U1+1→∀ k,k<U2+1→rl (if i+k=r then cf (sx U1 V1 a i) (sx U2 V2 b k) s else 0)≤14*S+64:=fun i hi k hk=>by
  split
  ·have:=sm_rlT (B:=2*S+8) (s+1) (fun j=>sx U1 V1 a i j*sx U2 V2 b k (s-j)) (fun j _=>by
    have g1:=sx_rlR (j:=j) (show U1≤40 by omega) (show V1≤40 by omega) ha (show i≤U1 by omega) hS haR
    have g2:=sx_rlR (j:=s-j) (show U2≤40 by omega) (show V2≤40 by omega) hb (show k≤U2 by omega) hS hbR
    have g3:=rl_mul (sx U1 V1 a i j) (sx U2 V2 b k (s-j))
    omega)
   refine Nat.le_trans this ?_
   have:(s+1)*(2*S+8+1)≤7*(2*S+8+1):=Nat.mul_le_mul (by omega) (Nat.le_refl _)
   omega
  ·show rl 0≤_
   rw [show rl 0=1 from rfl];omega
 have h3:=sm_rlT (B:=56*S+261) (U1+1) _ (fun i hi=>Nat.le_trans (sm_rlT (B:=14*S+64) (U2+1) _ (hcf i hi)) (by
  have:(U2+1)*(14*S+64+1)≤4*(14*S+64+1):=Nat.mul_le_mul (by omega) (Nat.le_refl _)
  omega))
 have h4:=rl_div (tpS U1 V1 U2 V2 a b r s) (cR (U1+U2) r*cR (V1+V2) s)
 have h5:rl (tpS U1 V1 U2 V2 a b r s)≤1+(U1+1)*(56*S+261+1):=h3
 have h6:(U1+1)*(56*S+261+1)≤4*(56*S+261+1):=Nat.mul_le_mul (by omega) (Nat.le_refl _)
 unfold cR at *
 omega
def sgN (U V Ud Vd:Nat) (D:List Rat→List Rat) (F:List PoR) (k:Nat):List Rat:=zipG (·-·) (tmL Ud Vd U V (D (nmP F k)) (wtP F)) (tmL U V Ud Vd (nmP F k) (D (wtP F)))
structure dfS (U V Ud Vd:Nat) (D:List Rat→List Rat):Prop where
 u:Ud≤3
 v:Vd≤3
 l:∀ c:List Rat,c.length=(U+1)*(V+1)→(D c).length=(Ud+1)*(Vd+1)
 r:∀ (R:Nat) (c:List Rat),1≤R→c.length=(U+1)*(V+1)→(∀ x∈c,rl x≤R)→∀ x∈D c,rl x≤2*R+4
theorem dfS_U {U V:Nat} (hU:U≤3) (hV:V≤3):dfS U V (U-1) V (dfU U V) :=
 ⟨by omega,hV,fun c _=>dfU_len U V c,fun R c hR hc h=>dfU_rl (R:=R) hc (by omega) hR h⟩
theorem dfS_V {U V:Nat} (hU:U≤3) (hV:V≤3):dfS U V U (V-1) (dfV U V) :=
 ⟨hU,by omega,fun c hc=>dfV_len hc,fun R c hR hc h=>dfV_rl (R:=R) hc (by omega) hR h⟩
section
variable {R U V Ud Vd:Nat} {rows:List (List PoR)} {D:List Rat→List Rat} (h:pf R U V rows) (hd:dfS U V Ud Vd D) (k:Nat)
theorem sg_m1 (h:pf R U V rows) (hd:dfS U V Ud Vd D) (k:Nat):(tmL Ud Vd U V (D (nmP rows.flatten k)) (wtP rows.flatten)).length=(Ud+U+1)*(Vd+V+1)∧∀ x∈tmL Ud Vd U V (D (nmP rows.flatten k)) (wtP rows.flatten),rl x≤900*R+2100 :=
 ⟨tm_len ..,fun x hx=>by
  have hr:=h.r1
  have:=tm_rlR (S:=4*R+4) (hd.l _ (h.nl k)) h.wl hd.u hd.v h.u3 h.v3 (by omega) (fun x hx=>by have:=hd.r _ _ (show 1≤2*R by omega) (h.nl k) (h.nr k) x hx;omega) (fun x hx=>by have:=h.wr x hx;omega) x hx
  omega⟩
theorem sg_m2 (h:pf R U V rows) (hd:dfS U V Ud Vd D) (k:Nat):(tmL U V Ud Vd (nmP rows.flatten k) (D (wtP rows.flatten))).length=(Ud+U+1)*(Vd+V+1)∧∀ x∈tmL U V Ud Vd (nmP rows.flatten k) (D (wtP rows.flatten)),rl x≤900*R+2100 :=
 ⟨by rw [tm_len,Nat.add_comm U Ud,Nat.add_comm V Vd],fun x hx=>by
  have hr:=h.r1
  have:=tm_rlR (S:=4*R+4) (h.nl k) (hd.l _ h.wl) h.u3 h.v3 hd.u hd.v (by omega) (fun x hx=>by have:=h.nr k x hx;omega) (fun x hx=>by have:=hd.r _ _ hr h.wl h.wr x hx;omega) x hx
  omega⟩
theorem sg_len (h:pf R U V rows) (hd:dfS U V Ud Vd D) (k:Nat):(sgN U V Ud Vd D rows.flatten k).length=(Ud+U+1)*(Vd+V+1):=by rw [sgN,zipG_len];exact(sg_m1 h hd k).1
theorem sg_rl (h:pf R U V rows) (hd:dfS U V Ud Vd D) (k:Nat):∀ x∈sgN U V Ud Vd D rows.flatten k,rl x≤1800*R+4201:=fun x hx=>by
 have:=zipS_rl (R:=900*R+2100) rl_sub (by omega) (sg_m1 h hd k).2 (sg_m2 h hd k).2 x hx
 omega
theorem sq_le {a b:Nat} (ha:a≤6) (hb:b≤6):(a+1)*(b+1)≤49:=Nat.le_trans (Nat.mul_le_mul (show a+1≤7 by omega) (show b+1≤7 by omega)) (by decide)
theorem sg_l49 (h:pf R U V rows) (hd:dfS U V Ud Vd D) (k:Nat):(sgN U V Ud Vd D rows.flatten k).length≤49:=by
 have h1:=h.u3
 have h2:=h.v3
 have h3:=hd.u
 have h4:=hd.v
 rw [sg_len h hd k]
 exact sq_le (by omega) (by omega)
end
def shX (x:Rat):Prop:=rl (1-x)+rl x+1≤20
theorem evT_sz {R U V:Nat} {c:List Rat} {u v:Rat} (hc:c.length=(U+1)*(V+1)) (hU:U≤6) (hV:V≤6) (hR1:1≤R) (hR:R≤100000) (h:∀ x∈c,rl x≤R) (hu:shX u) (hv:shX v) :
  (∀ j,j≤V→HS (rwL U (swL U V c) j) u)∧HS (rowT U V c u) v∧(∀ i,i≤U→HS (rwL V c i) v)∧HS (colT U V c v) u∧rl (evT U V c u v)≤4100*(R+30):=by
 unfold shX at hu hv
 have h1:∀ j,j≤V→∀ x∈rwL U (swL U V c) j,rl x≤R:=fun j _ x hx=>h x (sw_mem hc (rwL_mem hx))
 have h2:∀ j,j≤V→(rwL U (swL U V c) j).length=U+1:=fun j hj=>rwL_len (swL_len U V c) hj
 have h3:∀ i,i≤U→∀ x∈rwL V c i,rl x≤R:=fun j _ x hx=>h x (rwL_mem hx)
 have h4:∀ i,i≤U→(rwL V c i).length=V+1:=fun j hj=>rwL_len hc hj
 have p6:∀ n,n≤6→2 ^ n≤64:=fun n hn=>Nat.pow_le_pow_right (n:=2) (by decide) hn
 have hrow:∀ x∈rowT U V c u,rl x≤(R+20)*64:=rs_mem (U:=V) (fun j hj x hx=>by
  rw [List.mem_singleton.1 hx]
  have:=ev_rl (p:=rwL U (swL U V c) j) (t:=u) (by rw [h2 j hj];omega) hR1 (h1 j hj)
  rw [h2 j hj,Nat.add_sub_cancel] at this
  exact Nat.le_trans this (Nat.mul_le_mul (by omega) (p6 U hU))) (Nat.le_refl _)
 have hcol:∀ x∈colT U V c v,rl x≤(R+20)*64:=rs_mem (U:=U) (fun i hi x hx=>by
  rw [List.mem_singleton.1 hx]
  have:=ev_rl (p:=rwL V c i) (t:=v) (by rw [h4 i hi];omega) hR1 (h3 i hi)
  rw [h4 i hi,Nat.add_sub_cancel] at this
  exact Nat.le_trans this (Nat.mul_le_mul (by omega) (p6 V hV))) (Nat.le_refl _)
 refine⟨fun j hj=>hs_ofL (by rw [h2 j hj];omega) (fun y hy=>by have:=h1 j hj y hy;omega) (by omega),hs_ofL (by rw [rowT_len];omega) (fun y hy=>by have:=hrow y hy;omega) (by omega),
  fun j hj=>hs_ofL (by rw [h4 j hj];omega) (fun y hy=>by have:=h3 j hj y hy;omega) (by omega),hs_ofL (by rw [colT_len];omega) (fun y hy=>by have:=hcol y hy;omega) (by omega),?_⟩
 have:=ev_rl (p:=rowT U V c u) (t:=v) (by rw [rowT_len];omega) (show 1≤(R+20)*64 by omega) hrow
 rw [rowT_len,Nat.add_sub_cancel] at this
 refine Nat.le_trans this (Nat.le_trans (Nat.mul_le_mul (show _≤(R+20)*64+20 by omega) (p6 V hV)) ?_)
 omega
namespace H_c_Sends
theorem zSm {p q:Prop} (k:q) (e:p=q:=by simp only [e1,e2,e3,e4,p1,p2,p3,q1,q2,q3,l1,t0,t1,r1,r2,r3,r4,Nat.zero_add,Nat.reduceMul,Nat.reduceAdd,b1,b2,b3,b4,b5,b6,i1,i2,i3,i4,i5,i6,Nat.reduceBEq,dfq,hkl,hlo,hhi,List.length_map,List.set_cons_zero,List.set_cons_succ,Nat.reduceEqDiff,reduceIte,if_true,if_false,ptL_kill,poL_kill,kills_map ptE,kills_map poE,kills_map ratE,ratL_kill,spL_kill,LV.kill,kills];exact rfl):p:=e.mpr k
end H_c_Sends
open H_c_Sends in
theorem c_Sends (d:Nat) (a b:Rat) (ha:rl a≤100) (hb:rl b≤100) (hab:a<b) (h9:d≤6):CallP Tryz.prog 77 [.list 3 ((kn2 d a b).map ratL)] (spL (a,b)):=by
 have hkl:=kn2_len d a b
 have hlo:=kn2_lo d a b
 have hhi:=kn2_hi d a b
 have hkp:=pure_lst ratE 3 (kn2 d a b)
 have hS:=c_SOf a b (by omega)
 rw [mn_lt2 hab,mx_lt2 hab] at hS
 refine fnP Tryz.func77 ?_
 refine zg13 ?_
 refine wl_if rfl (fun h5r h5=>?_) (fun h5r h5=>?_)
 ·omega
 ·refine zg3 ?_
  refine wl_regD 10 (by decide +kernel) ?_
  refine zg6 ?_
  refine st_pure rfl (.bin rfl rfl (sub1N (by omega) (by omega))) ?_
  refine zg2 ?_
  try simp only [t1,dfq,hkl,hlo,hhi,List.length_map]
  refine cp am2 (hS) ?_
  refine zg4 ?_
  exact retC [] rfl rfl rfl (spE.csize _) (spL_all _) T50 (.pure (spE.pure _))
namespace H_c_PDom
theorem zSm {p q:Prop} (k:q) (e:p=q:=by simp only [e1,e2,e3,e4,p1,p2,p3,q1,q2,q3,l1,t0,t1,r1,r2,r3,r4,Nat.zero_add,Nat.reduceMul,Nat.reduceAdd,b1,b2,b3,b4,b5,b6,i1,i2,i3,i4,i5,i6,Nat.reduceBEq,prL_kill,kills_map prE,dfr,dfq,take_map_len,map_snoc,len_snoc,List.length_cons,List.length_nil,List.nil_append,List.map_nil,List.take_nil,List.append_nil,List.set_cons_zero,List.set_cons_succ,Nat.reduceEqDiff,reduceIte,if_true,if_false,ptL_kill,poL_kill,kills_map ptE,kills_map poE,kills_map ratE,ratL_kill,spL_kill,LV.kill,kills];exact rfl):p:=e.mpr k
end H_c_PDom
open H_c_PDom in
theorem c_PDom (U V:Nat) (ua ub va vb:Rat) (rows:List (List PoR)) (hua:rl ua≤100) (hub:rl ub≤100) (hva:rl va≤100) (hvb:rl vb≤100) (hu:ua<ub) (hv:va<vb) (hU:U≤6) (hV:V≤6):CallP Tryz.prog 34 [.agg [nI64 U,nI64 V,.list 3 ((kn2 U ua ub).map ratL),.list 3 ((kn2 V va vb).map ratL),.list 1 (rows.map prL)]] (.tup [spL (ua,ub),spL (va,vb)]):=by
 have hsp:LV.pure (.agg [nI64 U,nI64 V,.list 3 ((kn2 U ua ub).map ratL),.list 3 ((kn2 V va vb).map ratL),.list 1 (rows.map prL)])=true:=by simp [LV.pure,pures,pures_map ratE,pures_map prE]
 have hku:=pure_lst ratE 3 (kn2 U ua ub)
 have hkv:=pure_lst ratE 3 (kn2 V va vb)
 refine fnP Tryz.func34 (ht:=(tame2 (spE.pure _) (spE.pure _))) ?_
 refine zg8 ?_
 refine wl_regD 6 (by decide +kernel) ?_
 refine zg2 ?_
 refine cp am1 (c_Sends U ua ub hua hub hu hU) ?_
 refine zg2 ?_
 refine cp am1 (c_Sends V va vb hva hvb hv hV) ?_
 refine zg5 ?_
 exact retCC [] rfl rfl rfl (spE.csize _) (spL_all _) T50 (.pure (spE.pure _)) rfl rfl (spE.csize _) (spL_all _) T50 (.pure (spE.pure _))
def sbS (s t:Rat × Rat):Rat × Rat:=(s.1-t.2,s.2-t.1)
theorem sbS_bd {R S:Nat} {s t:Rat × Rat} (hs:bdS R s) (ht:bdS S t):bdS (R+S+1) (sbS s t):=by
 have m1:=rl_sub s.1 t.2
 have m2:=rl_sub s.2 t.1
 exact⟨by show rl (s.1-t.2)≤_;have:=hs.1;have:=ht.2;omega,by show rl (s.2-t.1)≤_;have:=hs.2;have:=ht.1;omega⟩
namespace H_c_SSub
theorem zSm {p q:Prop} (k:q) (e:p=q:=by simp only [e1,e2,e3,e4,p1,p2,p3,q1,q2,q3,l1,t0,t1,r1,r2,r3,r4,Nat.zero_add,Nat.reduceMul,Nat.reduceAdd,b1,b2,b3,b4,b5,b6,i1,i2,i3,i4,i5,i6,Nat.reduceBEq,List.set_cons_zero,List.set_cons_succ,Nat.reduceEqDiff,reduceIte,if_true,if_false,ptL_kill,poL_kill,kills_map ptE,kills_map poE,kills_map ratE,ratL_kill,spL_kill,LV.kill,kills];exact rfl):p:=e.mpr k
end H_c_SSub
open H_c_SSub in
theorem c_SSub (s t:Rat × Rat) (R:Nat) (hR:R≤1000000000) (hs:bdS R s) (ht:bdS R t):CallP Tryz.prog 170 [spL s,spL t] (spL (sbS s t)):=by
 obtain⟨a1,a2⟩:=hs
 obtain⟨y1,y2⟩:=ht
 refine fnP Tryz.func170 ?_
 refine zg8 ?_
 refine wl_regD 11 (by decide +kernel) ?_
 refine zg4 ?_
 refine cp am2 (c_RSub s.1 t.2 (by omega)) ?_
 refine zg4 ?_
 refine cp am2 (c_RSub s.2 t.1 (by omega)) ?_
 refine zg5 ?_
 exact retC [] rfl rfl rfl (spE.csize _) (spL_all _) T50 (.pure (spE.pure _))
theorem sq_le3 {a b:Nat} (ha:a≤3) (hb:b≤3):(a+1)*(b+1)≤16:=Nat.le_trans (Nat.mul_le_mul (show a+1≤4 by omega) (show b+1≤4 by omega)) (by decide)
theorem pk_le {a b c d x:Nat} (ha:a≤3) (hb:b≤3) (hc:c≤3) (hd:d≤3):(a+1)*((b+1)*((c+1)*((d+1)*x)))≤256*x:=by
 have h1:(d+1)*x≤4*x:=Nat.mul_le_mul_right _ (by omega)
 have h2:(c+1)*((d+1)*x)≤4*(4*x):=Nat.mul_le_mul (by omega) h1
 have h3:(b+1)*((c+1)*((d+1)*x))≤4*(4*(4*x)):=Nat.mul_le_mul (by omega) h2
 have h4:(a+1)*((b+1)*((c+1)*((d+1)*x)))≤4*(4*(4*(4*x))):=Nat.mul_le_mul (by omega) h3
 omega
namespace H_c_prod13
theorem zSm {p q:Prop} (k:q) (e:p=q:=by simp only [e1,e2,e3,e4,p1,p2,p3,q1,q2,q3,l1,t0,t1,r1,r2,r3,r4,Nat.zero_add,Nat.reduceMul,Nat.reduceAdd,b1,b2,b3,b4,b5,b6,i1,i2,i3,i4,i5,i6,Nat.reduceBEq,List.set_cons_zero,List.set_cons_succ,Nat.reduceEqDiff,reduceIte,if_true,if_false,ptL_kill,poL_kill,kills_map ptE,kills_map poE,kills_map ratE,ratL_kill,spL_kill,LV.kill,kills];exact rfl):p:=e.mpr k
end H_c_prod13
open H_c_prod13 in
theorem c_prod13 (U1 V1 U2 V2:Nat) (a b:List Rat) (ha:a.length=(U1+1)*(V1+1)) (hb:b.length=(U2+1)*(V2+1)) (hU1:U1≤3) (hV1:V1≤3) (hU2:U2≤3) (hV2:V2≤3) (S:Nat) (hS1:1≤S) (hS:S≤1000000) (haR:∀ x∈a,rl x≤S) (hbR:∀ x∈b,rl x≤S):CallP Tryz.prog 226 [.agg [nI64 U1,nI64 V1,.list 3 (a.map ratL)],.agg [nI64 U2,nI64 V2,.list 3 (b.map ratL)]] (.agg [nI64 (U1+U2),nI64 (V1+V2),.list 3 ((tmL U1 V1 U2 V2 a b).map ratL)]):=by
 have hal:=sq_le3 hU1 hV1
 have hbl:=sq_le3 hU2 hV2
 have hn1:=net_pureN U1 V1 a
 have hn2:=net_pureN U2 V2 b
 have hpk:=pk_le (x:=2*S+14) hU1 hV1 hU2 hV2
 have hn3:=net_pureN (U1+U2) (V1+V2) (tmL U1 V1 U2 V2 a b)
 refine fnP Tryz.func226 (ht:=(fun g=>LV.ren_pure g _ (net_pureN _ _ _))) ?_
 refine zg11 ?_
 refine cp am2 (c_TMulK U1 V1 U2 V2 a b ha hb (by omega) (by omega) (by omega) (by omega) S hS1 hS (by omega) haR hbR) ?_
 refine zg15 ?_
 exact retC [] rfl rfl rfl rfl rfl T215 (.pure (net_pureN _ _ _))
theorem c_tSub13 (U V:Nat) (a b:List Rat) (hU:U≤40) (hV:V≤40) (ha:a.length=(U+1)*(V+1)) (hb:b.length=(U+1)*(V+1)) (haR:∀ x∈a,rl x≤500000000) (hbR:∀ x∈b,rl x≤500000000):CallP Tryz.prog 225 [.agg [nI64 U,nI64 V,.list 3 (a.map ratL)],.agg [nI64 U,nI64 V,.list 3 (b.map ratL)]] (.agg [nI64 U,nI64 V,.list 3 ((zipG (·-·) a b).map ratL)]):=by
 have:=c_TSub U V U V a b U V (upH_same ha hU hV fun x hx=>by have:=haR x hx;omega) (upH_same hb hU hV fun x hx=>by have:=hbR x hx;omega) (.inl rfl) (.inl rfl)
 rwa [upN_self ha,upN_self hb] at this
namespace H_c_turns13
theorem zSm {p q:Prop} (k:q) (e:p=q:=by simp only [e1,e2,e3,e4,p1,p2,p3,q1,q2,q3,l1,t0,t1,r1,r2,r3,r4,Nat.zero_add,Nat.reduceMul,Nat.reduceAdd,b1,b2,b3,b4,b5,b6,i1,i2,i3,i4,i5,i6,Nat.reduceBEq,frz_nil,prL_kill,kills_map prE,dfr,dfq,take_map_len,map_snoc,len_snoc,List.length_cons,List.length_nil,List.nil_append,List.map_nil,List.take_nil,List.append_nil,List.set_cons_zero,List.set_cons_succ,Nat.reduceEqDiff,reduceIte,if_true,if_false,ptL_kill,poL_kill,kills_map ptE,kills_map poE,kills_map ratE,ratL_kill,spL_kill,LV.kill,kills];exact rfl):p:=e.mpr k
end H_c_turns13
open H_c_turns13 in
theorem c_turns13 (R U V Ud Vd:Nat) (kU kV:List Rat) (rows:List (List PoR)) (h:pf R U V rows) (hR:R≤200000) (D:List Rat→List Rat) (hd:dfS U V Ud Vd D) (f:Nat) (hf:∀ c:List Rat,c.length=(U+1)*(V+1)→(∀ x∈c,rl x≤2*R)→CallP Tryz.prog f [.agg [nI64 U,nI64 V,.list 3 (c.map ratL)]] (.agg [nI64 Ud,nI64 Vd,.list 3 ((D c).map ratL)])):CallP Tryz.prog 163 [.agg [nI64 U,nI64 V,.list 3 (kU.map ratL),.list 3 (kV.map ratL),.list 1 (rows.map prL)],.clo f []] (.agg [.agg [nI64 (Ud+U),nI64 (Vd+V),.list 3 ((sgN U V Ud Vd D rows.flatten 0).map ratL)],.agg [nI64 (Ud+U),nI64 (Vd+V),.list 3 ((sgN U V Ud Vd D rows.flatten 1).map ratL)],.agg [nI64 (Ud+U),nI64 (Vd+V),.list 3 ((sgN U V Ud Vd D rows.flatten 2).map ratL)]]):=by
 have hsp:LV.pure (.agg [nI64 U,nI64 V,.list 3 (kU.map ratL),.list 3 (kV.map ratL),.list 1 (rows.map prL)])=true:=by simp [LV.pure,pures,pures_map ratE,pures_map prE]
 have hr1:=h.r1
 have hu3:=h.u3
 have hv3:=h.v3
 have hud:=hd.u
 have hvd:=hd.v
 have hwl:=h.wl
 have hdw:=hd.l _ hwl
 have hwr:=h.wr
 have hdwr:=hd.r _ _ hr1 hwl hwr
 have hpw:=net_pureN U V (wtP rows.flatten)
 have hpdw:=net_pureN Ud Vd (D (wtP rows.flatten))
 have hnl0:=h.nl 0
 have hdn0:=hd.l _ hnl0
 have hnr0:=h.nr 0
 have hdnr0:=hd.r _ _ (show 1≤2*R by omega) hnl0 hnr0
 have hpn0:=net_pureN U V (nmP rows.flatten 0)
 have hpd0:=net_pureN Ud Vd (D (nmP rows.flatten 0))
 have hpa0:=net_pureN (Ud+U) (Vd+V) (tmL Ud Vd U V (D (nmP rows.flatten 0)) (wtP rows.flatten))
 have hpb0:=net_pureN (Ud+U) (Vd+V) (tmL U V Ud Vd (nmP rows.flatten 0) (D (wtP rows.flatten)))
 have hps0:=net_pureN (Ud+U) (Vd+V) (sgN U V Ud Vd D rows.flatten 0)
 obtain⟨hal0,har0⟩:=sg_m1 h hd 0
 obtain⟨hbl0,hbr0⟩:=sg_m2 h hd 0
 have hA0:=c_prod13 Ud Vd U V (D (nmP rows.flatten 0)) (wtP rows.flatten) hdn0 hwl hud hvd hu3 hv3 (4*R+4) (by omega) (by omega) (fun x hx=>by have:=hdnr0 x hx;omega) (fun x hx=>by have:=hwr x hx;omega)
 have hB0:=c_prod13 U V Ud Vd (nmP rows.flatten 0) (D (wtP rows.flatten)) hnl0 hdw hu3 hv3 hud hvd (4*R+4) (by omega) (by omega) (fun x hx=>by have:=hnr0 x hx;omega) (fun x hx=>by have:=hdwr x hx;omega)
 rw [Nat.add_comm U Ud,Nat.add_comm V Vd] at hB0
 have hS0:=c_tSub13 (Ud+U) (Vd+V) (tmL Ud Vd U V (D (nmP rows.flatten 0)) (wtP rows.flatten)) (tmL U V Ud Vd (nmP rows.flatten 0) (D (wtP rows.flatten))) (by omega) (by omega) hal0 hbl0 (fun x hx=>by have:=har0 x hx;omega) (fun x hx=>by have:=hbr0 x hx;omega)
 have hnl1:=h.nl 1
 have hdn1:=hd.l _ hnl1
 have hnr1:=h.nr 1
 have hdnr1:=hd.r _ _ (show 1≤2*R by omega) hnl1 hnr1
 have hpn1:=net_pureN U V (nmP rows.flatten 1)
 have hpd1:=net_pureN Ud Vd (D (nmP rows.flatten 1))
 have hpa1:=net_pureN (Ud+U) (Vd+V) (tmL Ud Vd U V (D (nmP rows.flatten 1)) (wtP rows.flatten))
 have hpb1:=net_pureN (Ud+U) (Vd+V) (tmL U V Ud Vd (nmP rows.flatten 1) (D (wtP rows.flatten)))
 have hps1:=net_pureN (Ud+U) (Vd+V) (sgN U V Ud Vd D rows.flatten 1)
 obtain⟨hal1,har1⟩:=sg_m1 h hd 1
 obtain⟨hbl1,hbr1⟩:=sg_m2 h hd 1
 have hA1:=c_prod13 Ud Vd U V (D (nmP rows.flatten 1)) (wtP rows.flatten) hdn1 hwl hud hvd hu3 hv3 (4*R+4) (by omega) (by omega) (fun x hx=>by have:=hdnr1 x hx;omega) (fun x hx=>by have:=hwr x hx;omega)
 have hB1:=c_prod13 U V Ud Vd (nmP rows.flatten 1) (D (wtP rows.flatten)) hnl1 hdw hu3 hv3 hud hvd (4*R+4) (by omega) (by omega) (fun x hx=>by have:=hnr1 x hx;omega) (fun x hx=>by have:=hdwr x hx;omega)
 rw [Nat.add_comm U Ud,Nat.add_comm V Vd] at hB1
 have hS1:=c_tSub13 (Ud+U) (Vd+V) (tmL Ud Vd U V (D (nmP rows.flatten 1)) (wtP rows.flatten)) (tmL U V Ud Vd (nmP rows.flatten 1) (D (wtP rows.flatten))) (by omega) (by omega) hal1 hbl1 (fun x hx=>by have:=har1 x hx;omega) (fun x hx=>by have:=hbr1 x hx;omega)
 have hnl2:=h.nl 2
 have hdn2:=hd.l _ hnl2
 have hnr2:=h.nr 2
 have hdnr2:=hd.r _ _ (show 1≤2*R by omega) hnl2 hnr2
 have hpn2:=net_pureN U V (nmP rows.flatten 2)
 have hpd2:=net_pureN Ud Vd (D (nmP rows.flatten 2))
 have hpa2:=net_pureN (Ud+U) (Vd+V) (tmL Ud Vd U V (D (nmP rows.flatten 2)) (wtP rows.flatten))
 have hpb2:=net_pureN (Ud+U) (Vd+V) (tmL U V Ud Vd (nmP rows.flatten 2) (D (wtP rows.flatten)))
 have hps2:=net_pureN (Ud+U) (Vd+V) (sgN U V Ud Vd D rows.flatten 2)
 obtain⟨hal2,har2⟩:=sg_m1 h hd 2
 obtain⟨hbl2,hbr2⟩:=sg_m2 h hd 2
 have hA2:=c_prod13 Ud Vd U V (D (nmP rows.flatten 2)) (wtP rows.flatten) hdn2 hwl hud hvd hu3 hv3 (4*R+4) (by omega) (by omega) (fun x hx=>by have:=hdnr2 x hx;omega) (fun x hx=>by have:=hwr x hx;omega)
 have hB2:=c_prod13 U V Ud Vd (nmP rows.flatten 2) (D (wtP rows.flatten)) hnl2 hdw hu3 hv3 hud hvd (4*R+4) (by omega) (by omega) (fun x hx=>by have:=hnr2 x hx;omega) (fun x hx=>by have:=hdwr x hx;omega)
 rw [Nat.add_comm U Ud,Nat.add_comm V Vd] at hB2
 have hS2:=c_tSub13 (Ud+U) (Vd+V) (tmL Ud Vd U V (D (nmP rows.flatten 2)) (wtP rows.flatten)) (tmL U V Ud Vd (nmP rows.flatten 2) (D (wtP rows.flatten))) (by omega) (by omega) hal2 hbl2 (fun x hx=>by have:=har2 x hx;omega) (fun x hx=>by have:=hbr2 x hx;omega)
 have hfw:=hf (wtP rows.flatten) hwl (fun x hx=>by have:=hwr x hx;omega)
 have hf0:=hf (nmP rows.flatten 0) hnl0 hnr0
 have hf1:=hf (nmP rows.flatten 1) hnl1 hnr1
 have hf2:=hf (nmP rows.flatten 2) hnl2 hnr2
 refine fnP Tryz.func163 (ht:=(fun g=>LV.ren_pure g _ (by simp [LV.pure,pures,pures_map ratE]))) ?_
 refine zg9 ?_
 refine cp am1 (c_PNum U V kU kV rows (by omega) (by omega) R (by omega) h.rw) ?_
 refine zg9 ?_
 refine st_opc [] rfl rfl (.clo (f:=f) (cap:=[]) (args:=[.agg [nI64 U,nI64 V,.list 3 ((wtP rows.flatten).map ratL)]]) rfl (.cons im0 .nil) ⟨rfl,fun _ h=>by cases h⟩ hfw.1 (by decide) (fun _ h=>by cases h)) (hfw.2 _) ?_
 refine zg16 ?_
 refine wl_unroll ?_
 refine zg6 ?_
 refine wl_condX (b:=_) rfl (by decide) ?_
 refine zg10 ?_
 refine wl_regD 16 (by decide +kernel) ?_
 refine zg5 ?_
 refine st_opc [] rfl rfl (.clo (f:=f) (cap:=[]) (args:=[.agg [nI64 U,nI64 V,.list 3 ((nmP rows.flatten 0).map ratL)]]) rfl (.cons im0 .nil) ⟨rfl,fun _ h=>by cases h⟩ hf0.1 (by decide) (fun _ h=>by cases h)) (hf0.2 _) ?_
 refine zg2 ?_
 refine cp am2 (hA0) ?_
 refine zg4 ?_
 refine cp am2 (hB0) ?_
 refine cp am2 (hS0) ?_
 refine zg10 ?_
 refine wl_unroll ?_
 refine zg6 ?_
 refine wl_condX (b:=_) rfl (by decide) ?_
 refine zg10 ?_
 refine wl_regD 16 (by decide +kernel) ?_
 refine zg5 ?_
 refine st_opc [] rfl rfl (.clo (f:=f) (cap:=[]) (args:=[.agg [nI64 U,nI64 V,.list 3 ((nmP rows.flatten 1).map ratL)]]) rfl (.cons im0 .nil) ⟨rfl,fun _ h=>by cases h⟩ hf1.1 (by decide) (fun _ h=>by cases h)) (hf1.2 _) ?_
 refine zg2 ?_
 refine cp am2 (hA1) ?_
 refine zg4 ?_
 refine cp am2 (hB1) ?_
 refine cp am2 (hS1) ?_
 refine zg10 ?_
 refine wl_unroll ?_
 refine zg6 ?_
 refine wl_condX (b:=_) rfl (by decide) ?_
 refine zg10 ?_
 refine wl_regD 16 (by decide +kernel) ?_
 refine zg5 ?_
 refine st_opc [] rfl rfl (.clo (f:=f) (cap:=[]) (args:=[.agg [nI64 U,nI64 V,.list 3 ((nmP rows.flatten 2).map ratL)]]) rfl (.cons im0 .nil) ⟨rfl,fun _ h=>by cases h⟩ hf2.1 (by decide) (fun _ h=>by cases h)) (hf2.2 _) ?_
 refine zg2 ?_
 refine cp am2 (hA2) ?_
 refine zg4 ?_
 refine cp am2 (hB2) ?_
 refine cp am2 (hS2) ?_
 refine zg10 ?_
 refine wl_unroll ?_
 refine zg6 ?_
 refine wl_condY (b:=_) rfl (by decide) ?_
 refine zg12 ?_
 exact retC [] rfl rfl rfl cs (at_all cs rfl) T218 (.pure (by simp [LV.pure,pures,pures_map ratE]))
section
variable {R U V:Nat} {rows:List (List PoR)} (h:pf R U V rows)
include h
theorem pf.pos:0<rows.flatten.length:=by rw [h.len];exact Nat.mul_pos (Nat.succ_pos U) (Nat.succ_pos V)
theorem pf.wlo:0<(bndP (wtP rows.flatten)).1:=by
 have h0:0<(wtP rows.flatten).length:=by rw [wtP_len];exact h.pos
 obtain⟨i,hi,e⟩:=((bk_spec (wtP rows.flatten) (wtP rows.flatten).length).2 h0).1
 show 0<(bkP (wtP rows.flatten) (wtP rows.flatten).length).1
 rw [e]
 obtain⟨q,hq,hw⟩:=List.mem_map.1 (getD_mem (p:=wtP rows.flatten) hi)
 rw [←hw]
 exact(h.fok q hq).2.2
theorem pf.wsq:bdS (2*R) (sqS (bndP (wtP rows.flatten)))∧hasR (sqS (bndP (wtP rows.flatten))) 0=false:=by
 have h0:0<(wtP rows.flatten).length:=by rw [wtP_len];exact h.pos
 exact⟨sqS_bd (bnd_rl h.r1 h.wr) h.r1,(sq_pos h.wlo (bnd_le12 h0)).2⟩
end
def psK (U V Ud Vd:Nat) (D:List Rat→List Rat) (F:List PoR) (wd:Rat) (k:Nat):Rat × Rat:=muS (quS (bndP (sgN U V Ud Vd D F k)) (sqS (bndP (wtP F)))) (1/wd,1/wd)
def psB (U V Ud Vd:Nat) (D:List Rat→List Rat) (F:List PoR) (wd:Rat):Bx3:=⟨psK U V Ud Vd D F wd 0,psK U V Ud Vd D F wd 1,psK U V Ud Vd D F wd 2⟩
theorem rc_pt (w:Rat):rcS (w,w)=(1/w,1/w):=by
 unfold rcS mnR mxR
 simp only [ite_self]
theorem qu_pt (s:Rat × Rat) (w:Rat):quS s (w,w)=muS s (1/w,1/w):=by unfold quS;rw [rc_pt]
theorem pt_no0 {a b:Rat} (h:a<b):hasR (b-a,b-a) 0=false:=by
 unfold hasR
 rw [decide_eq_false (by show ¬(b-a≤0);grind)];rfl
theorem sg_bnd {R U V Ud Vd:Nat} {rows:List (List PoR)} {D:List Rat→List Rat} (h:pf R U V rows) (hd:dfS U V Ud Vd D) (k:Nat):bdS (1800*R+4201) (bndP (sgN U V Ud Vd D rows.flatten k)):=bnd_rl (by omega) (sg_rl h hd k)
theorem psK_bd {R U V Ud Vd:Nat} {rows:List (List PoR)} {D:List Rat→List Rat} (h:pf R U V rows) (hd:dfS U V Ud Vd D) {wd:Rat} (hw:rl wd≤1000) (k:Nat) :
  bdS (1802*R+4202) (quS (bndP (sgN U V Ud Vd D rows.flatten k)) (sqS (bndP (wtP rows.flatten))))∧bdS 1001 (1/wd,1/wd)∧bdS (1802*R+5203) (psK U V Ud Vd D rows.flatten wd k):=by
 have h1:=quS_bd (sg_bnd h hd k) h.wsq.1
 have h2:=rl_div 1 wd
 have h3:rl 1=1:=rfl
 have h4:bdS 1001 (1/wd,1/wd):=⟨by show rl (1/wd)≤_;omega,by show rl (1/wd)≤_;omega⟩
 have h5:bdS (1802*R+4202) (quS (bndP (sgN U V Ud Vd D rows.flatten k)) (sqS (bndP (wtP rows.flatten)))):=h1.le (by omega)
 exact⟨h5,h4,(muS_bd h5 h4).le (by omega)⟩
theorem psB_bd {R U V Ud Vd:Nat} {rows:List (List PoR)} {D:List Rat→List Rat} (h:pf R U V rows) (hd:dfS U V Ud Vd D) {wd:Rat} (hw:rl wd≤1000):bdB (1802*R+5203) (psB U V Ud Vd D rows.flatten wd) :=
 ⟨(psK_bd h hd hw 0).2.2,(psK_bd h hd hw 1).2.2,(psK_bd h hd hw 2).2.2⟩
structure pdS (Du Dv:Nat) (q:List Rat) (x y:Rat):Prop where
 hl:q.length=(Du+1)*(Dv+1)
 du:Du≤6
 dv:Dv≤6
 qr:∀ t∈q,rl t≤49231
 hx:shX x
 hy:shX y
theorem pdS.e {Du Dv:Nat} {q:List Rat} {x y:Rat} (h:pdS Du Dv q x y):rl (evT Du Dv q x y)≤201970100 :=
 Nat.le_trans (evT_sz h.hl h.du h.dv (by omega:1≤49231) (by omega) h.qr h.hx h.hy).2.2.2.2 (by decide)
namespace H_c_box13
theorem zSm {p q:Prop} (k:q) (e:p=q:=by simp only [e1,e2,e3,e4,p1,p2,p3,q1,q2,q3,l1,t0,t1,r1,r2,r3,r4,Nat.zero_add,Nat.reduceMul,Nat.reduceAdd,b1,b2,b3,b4,b5,b6,i1,i2,i3,i4,i5,i6,Nat.reduceBEq,prL_kill,kills_map prE,dfr,dfq,take_map_len,map_snoc,len_snoc,List.length_cons,List.length_nil,List.nil_append,List.map_nil,List.take_nil,List.append_nil,List.set_cons_zero,List.set_cons_succ,Nat.reduceEqDiff,reduceIte,if_true,if_false,ptL_kill,poL_kill,kills_map ptE,kills_map poE,kills_map ratE,ratL_kill,spL_kill,LV.kill,kills];exact rfl):p:=e.mpr k
end H_c_box13
open H_c_box13 in
theorem c_box13 (Du Dv:Nat) (ql0 ql1 ql2:List Rat) (a b:Rat) (w:Rat × Rat) (S:Nat) (hS1:1≤S) (hS:S≤49000000) (ha:rl a≤100) (hb:rl b≤100) (hab:a<b) (hw:bdS S w) (hz:hasR w 0=false) (hl0:ql0.length≤49) (hr0:∀ t∈ql0,rl t≤S) (hl1:ql1.length≤49) (hr1:∀ t∈ql1,rl t≤S) (hl2:ql2.length≤49) (hr2:∀ t∈ql2,rl t≤S):CallP Tryz.prog 161 [.agg [.agg [nI64 Du,nI64 Dv,.list 3 (ql0.map ratL)],.agg [nI64 Du,nI64 Dv,.list 3 (ql1.map ratL)],.agg [nI64 Du,nI64 Dv,.list 3 (ql2.map ratL)]],spL (a,b),.boxp (spL w)] (bxL ⟨(muS (quS (bndP ql0) w) (1/(b-a),1/(b-a))),(muS (quS (bndP ql1) w) (1/(b-a),1/(b-a))),(muS (quS (bndP ql2) w) (1/(b-a),1/(b-a)))⟩):=by
 have hpu:∀ l:List Rat,pures (l.map ratL)=true:=fun l=>pures_map ratE l
 have hpq0:=net_pureN Du Dv ql0
 have hpq1:=net_pureN Du Dv ql1
 have hpq2:=net_pureN Du Dv ql2
 have hp3:LV.pure (.agg [.agg [nI64 Du,nI64 Dv,.list 3 (ql0.map ratL)],.agg [nI64 Du,nI64 Dv,.list 3 (ql1.map ratL)],.agg [nI64 Du,nI64 Dv,.list 3 (ql2.map ratL)]])=true:=by simp [LV.pure,pures,pures_map ratE]
 have hwd:=rl_sub b a
 have hpt:bdS (2*S+1001) (b-a,b-a):=⟨by show rl (b-a)≤_;omega,by show rl (b-a)≤_;omega⟩
 have hbn0:=bnd_rl hS1 hr0
 have hqb0:bdS (2*S+1001) (quS (bndP ql0) w):=(quS_bd hbn0 hw).le (by omega)
 have hz0:=c_SQuo (quS (bndP ql0) w) (b-a,b-a) (2*S+1001) (by omega) hqb0 hpt (pt_no0 hab)
 rw [qu_pt] at hz0
 have hbn1:=bnd_rl hS1 hr1
 have hqb1:bdS (2*S+1001) (quS (bndP ql1) w):=(quS_bd hbn1 hw).le (by omega)
 have hz1:=c_SQuo (quS (bndP ql1) w) (b-a,b-a) (2*S+1001) (by omega) hqb1 hpt (pt_no0 hab)
 rw [qu_pt] at hz1
 have hbn2:=bnd_rl hS1 hr2
 have hqb2:bdS (2*S+1001) (quS (bndP ql2) w):=(quS_bd hbn2 hw).le (by omega)
 have hz2:=c_SQuo (quS (bndP ql2) w) (b-a,b-a) (2*S+1001) (by omega) hqb2 hpt (pt_no0 hab)
 rw [qu_pt] at hz2
 refine fnP Tryz.func161 (ht:=(fun r=>LV.ren_pure r _ (bxE.pure _))) ?_
 refine zg20 ?_
 refine wl_unroll ?_
 refine zg6 ?_
 refine wl_condX (b:=_) rfl (by decide) ?_
 refine zg14 ?_
 refine wl_regF 8 [6] (by decide +kernel) ?_
 refine zg1 ?_
 refine cp am1 (c_TBnd Du Dv ql0 (by omega) (fun t ht=>by have:=hr0 t ht;omega)) ?_
 refine zg1 ?_
 refine cp am2 (c_SQuo (bndP ql0) w S (by omega) hbn0 hw hz) ?_
 refine zg8 ?_
 refine wl_regF 10 [8] (by decide +kernel) ?_
 refine zg3 ?_
 refine cp am1 (c_SWidth (a,b) (by show rl b+rl a≤_;omega)) ?_
 refine cp am1 (c_SPoint (b-a) (by omega)) ?_
 refine cp am2 (hz0) ?_
 refine zg8 ?_
 refine wl_regW ((Weak.kill _ 9).trans (Weak.kill _ 8)) ?_
 refine zg4 ?_
 refine wl_unroll ?_
 refine zg6 ?_
 refine wl_condX (b:=_) rfl (by decide) ?_
 refine zg14 ?_
 refine wl_regF 8 [6] (by decide +kernel) ?_
 refine zg1 ?_
 refine cp am1 (c_TBnd Du Dv ql1 (by omega) (fun t ht=>by have:=hr1 t ht;omega)) ?_
 refine zg1 ?_
 refine cp am2 (c_SQuo (bndP ql1) w S (by omega) hbn1 hw hz) ?_
 refine zg8 ?_
 refine wl_regF 10 [8] (by decide +kernel) ?_
 refine zg3 ?_
 refine cp am1 (c_SWidth (a,b) (by show rl b+rl a≤_;omega)) ?_
 refine cp am1 (c_SPoint (b-a) (by omega)) ?_
 refine cp am2 (hz1) ?_
 refine zg8 ?_
 refine wl_regW ((Weak.kill _ 9).trans (Weak.kill _ 8)) ?_
 refine zg4 ?_
 refine wl_unroll ?_
 refine zg6 ?_
 refine wl_condX (b:=_) rfl (by decide) ?_
 refine zg14 ?_
 refine wl_regF 8 [6] (by decide +kernel) ?_
 refine zg1 ?_
 refine cp am1 (c_TBnd Du Dv ql2 (by omega) (fun t ht=>by have:=hr2 t ht;omega)) ?_
 refine zg1 ?_
 refine cp am2 (c_SQuo (bndP ql2) w S (by omega) hbn2 hw hz) ?_
 refine zg8 ?_
 refine wl_regF 10 [8] (by decide +kernel) ?_
 refine zg3 ?_
 refine cp am1 (c_SWidth (a,b) (by show rl b+rl a≤_;omega)) ?_
 refine cp am1 (c_SPoint (b-a) (by omega)) ?_
 refine cp am2 (hz2) ?_
 refine zg8 ?_
 refine wl_regW ((Weak.kill _ 9).trans (Weak.kill _ 8)) ?_
 refine zg4 ?_
 refine wl_unroll ?_
 refine zg6 ?_
 refine wl_condY (b:=_) rfl (by decide) ?_
 refine zg12 ?_
 exact retC [] rfl rfl rfl cs (at_all cs rfl) T92 (.pure pu)
namespace H_c_PSpd
theorem zSm {p q:Prop} (k:q) (e:p=q:=by simp only [e1,e2,e3,e4,p1,p2,p3,q1,q2,q3,l1,t0,t1,r1,r2,r3,r4,Nat.zero_add,Nat.reduceMul,Nat.reduceAdd,b1,b2,b3,b4,b5,b6,i1,i2,i3,i4,i5,i6,Nat.reduceBEq,frz_nil,prL_kill,kills_map prE,dfr,dfq,take_map_len,map_snoc,len_snoc,List.length_cons,List.length_nil,List.nil_append,List.map_nil,List.take_nil,List.append_nil,List.set_cons_zero,List.set_cons_succ,Nat.reduceEqDiff,reduceIte,if_true,if_false,ptL_kill,poL_kill,kills_map ptE,kills_map poE,kills_map ratE,ratL_kill,spL_kill,LV.kill,kills];exact rfl):p:=e.mpr k
end H_c_PSpd
open H_c_PSpd in
theorem c_PSpd (R U V:Nat) (ua ub va vb:Rat) (rows:List (List PoR)) (h:pf R U V rows) (hua:rl ua≤100) (hub:rl ub≤100) (hva:rl va≤100) (hvb:rl vb≤100) (hu:ua<ub) (hv:va<vb) (hR:R≤20000):CallP Tryz.prog 90 [.agg [nI64 U,nI64 V,.list 3 ((kn2 U ua ub).map ratL),.list 3 ((kn2 V va vb).map ratL),.list 1 (rows.map prL)]] (.tup [bxL (psB U V (U-1) V (dfU U V) rows.flatten (ub-ua)),bxL (psB U V U (V-1) (dfV U V) rows.flatten (vb-va))]):=by
 have hpu:∀ l:List Rat,pures (l.map ratL)=true:=fun l=>pures_map ratE l
 have hsp:LV.pure (.agg [nI64 U,nI64 V,.list 3 ((kn2 U ua ub).map ratL),.list 3 ((kn2 V va vb).map ratL),.list 1 (rows.map prL)])=true:=by simp [LV.pure,pures,pures_map ratE,pures_map prE]
 have hku:=pure_lst ratE 3 (kn2 U ua ub)
 have hkv:=pure_lst ratE 3 (kn2 V va vb)
 have hu3:=h.u3
 have hv3:=h.v3
 have hr1:=h.r1
 have hwd1:=rl_sub ub ua
 have hwd2:=rl_sub vb va
 have hdu:dfS U V (U-1) V (dfU U V):=dfS_U h.u3 h.v3
 have hdv:dfS U V U (V-1) (dfV U V):=dfS_V h.u3 h.v3
 have hwq:=h.wsq
 have hwb:=bnd_rl h.r1 h.wr
 have hwl:=h.wl
 have h49:=sq_le3 hu3 hv3
 have hw49:(wtP rows.flatten).length≤49:=by omega
 have hpW:=net_pureN U V (wtP rows.flatten)
 have hpU:LV.pure (.agg [.agg [nI64 ((U-1)+U),nI64 (V+V),.list 3 ((sgN U V (U-1) V (dfU U V) rows.flatten 0).map ratL)],.agg [nI64 ((U-1)+U),nI64 (V+V),.list 3 ((sgN U V (U-1) V (dfU U V) rows.flatten 1).map ratL)],.agg [nI64 ((U-1)+U),nI64 (V+V),.list 3 ((sgN U V (U-1) V (dfU U V) rows.flatten 2).map ratL)]])=true:=by simp [LV.pure,pures,pures_map ratE]
 have hpV:LV.pure (.agg [.agg [nI64 (U+U),nI64 ((V-1)+V),.list 3 ((sgN U V U (V-1) (dfV U V) rows.flatten 0).map ratL)],.agg [nI64 (U+U),nI64 ((V-1)+V),.list 3 ((sgN U V U (V-1) (dfV U V) rows.flatten 1).map ratL)],.agg [nI64 (U+U),nI64 ((V-1)+V),.list 3 ((sgN U V U (V-1) (dfV U V) rows.flatten 2).map ratL)]])=true:=by simp [LV.pure,pures,pures_map ratE]
 have hbp:pures [.boxp (spL (sqS (bndP (wtP rows.flatten))))]=true:=by simp [pures,LV.pure,spE.pure]
 have hAU:=c_box13 ((U-1)+U) (V+V) (sgN U V (U-1) V (dfU U V) rows.flatten 0) (sgN U V (U-1) V (dfU U V) rows.flatten 1) (sgN U V (U-1) V (dfU U V) rows.flatten 2) ua ub (sqS (bndP (wtP rows.flatten))) (1800*R+4201) (by omega) (by omega) hua hub hu (hwq.1.le (by omega)) hwq.2 (sg_l49 h hdu 0) (sg_rl h hdu 0) (sg_l49 h hdu 1) (sg_rl h hdu 1) (sg_l49 h hdu 2) (sg_rl h hdu 2)
 have hTU:=c_turns13 R U V (U-1) V (kn2 U ua ub) (kn2 V va vb) rows h (by omega) (dfU U V) hdu 164 (fun c hc hr=>c_DiffU U V c hc (by rw [hc];have:=sq_le3 hu3 hv3;omega) (fun t ht=>by have:=hr t ht;omega) (by omega))
 have hAV:=c_box13 (U+U) ((V-1)+V) (sgN U V U (V-1) (dfV U V) rows.flatten 0) (sgN U V U (V-1) (dfV U V) rows.flatten 1) (sgN U V U (V-1) (dfV U V) rows.flatten 2) va vb (sqS (bndP (wtP rows.flatten))) (1800*R+4201) (by omega) (by omega) hva hvb hv (hwq.1.le (by omega)) hwq.2 (sg_l49 h hdv 0) (sg_rl h hdv 0) (sg_l49 h hdv 1) (sg_rl h hdv 1) (sg_l49 h hdv 2) (sg_rl h hdv 2)
 have hTV:=c_turns13 R U V U (V-1) (kn2 U ua ub) (kn2 V va vb) rows h (by omega) (dfV U V) hdv 165 (fun c hc hr=>c_DiffV U V c hc (by rw [hc];have:=sq_le3 hu3 hv3;omega) (fun t ht=>by have:=hr t ht;omega) (by omega))
 refine fnP Tryz.func90 (ht:=(tame2 (bxE.pure _) (bxE.pure _))) ?_
 refine zg10 ?_
 refine cp am1 (c_PNum U V (kn2 U ua ub) (kn2 V va vb) rows (by omega) (by omega) R (by omega) h.rw) ?_
 refine zg1 ?_
 refine cp am1 (c_TBnd U V (wtP rows.flatten) (by omega) (fun t ht=>by have:=h.wr t ht;omega)) ?_
 refine cp am1 (c_SSqr (bndP (wtP rows.flatten)) R (by omega) hwb) ?_
 refine zg6 ?_
 refine st_opc [4] rfl rfl (.mk (caps:=[.boxp (spL (sqS (bndP (wtP rows.flatten))))]) (.cons (.eptr rfl rfl rfl (spE.csize _) (spL_all _) (spE.pure _) rfl) .nil) (fun x hx=>by rw [List.mem_singleton.1 hx];exact⟨rfl,rfl⟩)) rfl ?_
 refine zg6 ?_
 refine cp am1 (c_PDom U V ua ub va vb rows hua hub hva hvb hu hv (by omega) (by omega)) ?_
 refine zg10 ?_
 refine wl_regD 10 (by decide +kernel) ?_
 refine zg2 ?_
 refine cp am2 (hTU) ?_
 refine zg1 ?_
 refine st_opc [] rfl rfl (.clo (f:=161) (cap:=[.boxp (spL (sqS (bndP (wtP rows.flatten))))]) (args:=[.agg [.agg [nI64 ((U-1)+U),nI64 (V+V),.list 3 ((sgN U V (U-1) V (dfU U V) rows.flatten 0).map ratL)],.agg [nI64 ((U-1)+U),nI64 (V+V),.list 3 ((sgN U V (U-1) V (dfU U V) rows.flatten 1).map ratL)],.agg [nI64 ((U-1)+U),nI64 (V+V),.list 3 ((sgN U V (U-1) V (dfU U V) rows.flatten 2).map ratL)]],spL (ua,ub)]) rfl (.cons im0 (.cons im0 .nil)) ⟨hbp,(fun x hx=>by rw [List.mem_singleton.1 hx];exact⟨rfl,rfl⟩)⟩ hAU.1 (by decide) (fun _ h=>by cases h)) (hAU.2 _) ?_
 refine zg2 ?_
 refine cp am2 (hTV) ?_
 refine zg1 ?_
 refine st_opc [] rfl rfl (.clo (f:=161) (cap:=[.boxp (spL (sqS (bndP (wtP rows.flatten))))]) (args:=[.agg [.agg [nI64 (U+U),nI64 ((V-1)+V),.list 3 ((sgN U V U (V-1) (dfV U V) rows.flatten 0).map ratL)],.agg [nI64 (U+U),nI64 ((V-1)+V),.list 3 ((sgN U V U (V-1) (dfV U V) rows.flatten 1).map ratL)],.agg [nI64 (U+U),nI64 ((V-1)+V),.list 3 ((sgN U V U (V-1) (dfV U V) rows.flatten 2).map ratL)]],spL (va,vb)]) rfl (.cons im0 (.cons im0 .nil)) ⟨hbp,(fun x hx=>by rw [List.mem_singleton.1 hx];exact⟨rfl,rfl⟩)⟩ hAV.1 (by decide) (fun _ h=>by cases h)) (hAV.2 _) ?_
 refine zg5 ?_
 exact retCC [] rfl rfl rfl cs (at_all cs rfl) T92 (.pure pu) rfl rfl cs (at_all cs rfl) T92 (.pure pu)
section
variable {R U V:Nat} {rows:List (List PoR)} (h:pf R U V rows)
include h
theorem pf.r0 {i:Nat} (hi:i≤U):(rows.getD i []).length=V+1:=h.m _ (getR_mem (by rw [h.n];omega))
theorem pf.fp {i:Nat} (hi:i<(rows.flatten.map (·.p)).length):bd3 R ((rows.flatten.map (·.p)).getD i default):=by
 rw [ps_get]
 exact(h.fok _ (getD_memP (by rw [List.length_map] at hi;exact hi))).1
end
namespace H_c_ppts
theorem zSm {p q:Prop} (k:q) (e:p=q:=by simp only [e1,e2,e3,e4,p1,p2,p3,q1,q2,q3,l1,t0,t1,r1,r2,r3,r4,Nat.zero_add,Nat.reduceMul,Nat.reduceAdd,b1,b2,b3,b4,b5,b6,i1,i2,i3,i4,i5,i6,Nat.reduceBEq,prL,etk,ers,ehpm,len_snoc,prL_kill,kills_map prE,dfr,dfq,take_map_len,map_snoc,len_snoc,List.length_cons,List.length_nil,List.nil_append,List.map_nil,List.take_nil,List.append_nil,List.set_cons_zero,List.set_cons_succ,Nat.reduceEqDiff,reduceIte,if_true,if_false,ptL_kill,poL_kill,kills_map ptE,kills_map poE,kills_map ratE,ratL_kill,spL_kill,LV.kill,kills];exact rfl):p:=e.mpr k
end H_c_ppts
open H_c_ppts in
theorem c_ppts (U V:Nat) (kU kV:List Rat) (rows:List (List PoR)) (R:Nat) (hw:rwOK rows R):CallP Tryz.prog 89 [.agg [nI64 U,nI64 V,.list 3 (kU.map ratL),.list 3 (kV.map ratL),.list 1 (rows.map prL)]] (.list 9 ((rows.flatten.map (·.p)).map ptL)):=by
 have hsp:LV.pure (.agg [nI64 U,nI64 V,.list 3 (kU.map ratL),.list 3 (kV.map ratL),.list 1 (rows.map prL)])=true:=by simp [LV.pure,pures,pures_map ratE,pures_map prE]
 have hwn:=hw.n
 have hwf:=hw.f
 refine fnP Tryz.func89 (ht:=(fun g=>LV.ren_pure g _ (pure_lst ptE 9 _))) ?_
 have etk:True:=trivial
 have ers:True:=trivial
 have ehpm:True:=trivial
 refine zg21 ?_
 refine wl_weak ((Weak.kill _ 1).trans (Weak.own (t:=3) 25 9 rfl rfl)) ?_
 refine lp2 (fun(i:Nat) (ps:List PoR) L=>(((((St.mk L.slot (hp [(25,⟨9,(ps.map (·.p)).map ptL,true⟩)])).put (some 3) (.ref 25 9 0 ps.length)).put (some 9) (.list 1 (rows.map prL))).put (some 10) (nI64 rows.length)).put (some 11) (nI64 i))) (fun i ps=>rwI rows i ps) (fun i ps=>rows.length-i) 0 ([]) (rwI.zero rows) ?_
 rintro i ps L1 hI
 refine zg6 ?_
 refine wl_if rfl (fun h12r h12=>?_) (fun h12r h12=>?_)
 ·have hi2:i<rows.length:=by omega
  refine zg19 ?_
  refine lp2 (fun(j:Nat) (qs:List PoR) L=>((((((((St.mk L.slot (hp [(25,⟨9,(qs.map (·.p)).map ptL,true⟩)])).put (some 3) (.ref 25 9 0 qs.length)).put (some 9) (.list 1 (rows.map prL))).put (some 10) (nI64 rows.length)).put (some 11) (nI64 i)).put (some 15) (.list 12 ((rows.getD i []).map poL))).put (some 16) (nI64 (rows.getD i []).length)).put (some 17) (nI64 j))) (fun j qs=>rwJ rows i j qs) (fun j qs=>(rows.getD i []).length-j) 0 ps (hI.go hi2) ?_
  rintro j qs L2 hJ
  refine zg6 ?_
  refine wl_if rfl (fun h18r h18=>?_) (fun h18r h18=>?_)
  ·have hj2:j<(rows.getD i []).length:=by omega
   have hJe:=hJ.hj
   have hJl:=hJ.le
   have hJi:=hJ.hi
   have hrm:=getR_mem hJi
   have hrl:=hw.m _ hrm
   have ers:(qs.map (·.p))++[((rows.getD i []).getD j default).p]=((qs++[((rows.getD i []).getD j default)]).map (·.p)):=by simp
   have etk:((qs.map (·.p)).map ptL).take qs.length=(qs.map (·.p)).map ptL:=List.take_of_length_le (by simp)
   have ehpm:(qs.map (·.p)).length=qs.length:=List.length_map ..
   have hJ2:=hJ.lt hj2
   refine zg17 ?_
   refine st_store rfl (.appX (d:=25) (news:=[ptL ((rows.getD i []).getD j default).p]) rfl rfl rfl rfl (by simp) (.inl rfl) (by decide) Tryz.underlying162 Tryz.underlying162 Z56 T56 cs B56 (.inl ⟨24,0,_,rfl,by decide,rfl,rfl,by simp,rfl,by simp [pures,ptE.pure]⟩) (by simp;omega) (by simp;omega) (by decide)) ?_
   refine zg4 ?_
   refine wl_regW ((Weak.kill _ 7).trans (Weak.kill _ 24)) ?_
   refine st_pure rfl (.bin rfl rfl (add1N (by omega))) ?_
   refine zg3 ?_
   exact nx2 (j+1) (qs++[((rows.getD i []).getD j default)]) (hJ.next hj2)
  ·have hJe:=hJ.hj
   have hJl:=hJ.le
   have hJi:=hJ.hi
   have hrm:=getR_mem hJi
   have hrl:=hw.m _ hrm
   obtain rfl:j=(rows.getD i []).length:=by omega
   refine zg7 ?_
   refine st_pure rfl (.bin rfl rfl (add1N (by omega))) ?_
   refine zg3 ?_
   exact nx2 (i+1) qs hJ.last (hm:=by have:=hJ.hi;omega)
 ·have hIi:=hI.hi
  obtain rfl:i=rows.length:=by omega
  have hE:=hI.last
  subst hE
  refine zg12 ?_
  exact ret1f [25] rfl rfl (imm_refm ptE rfl rfl (by rw [List.length_map]))
namespace H_c_PBox
theorem zSm {p q:Prop} (k:q) (e:p=q:=by simp only [e1,e2,e3,e4,p1,p2,p3,q1,q2,q3,l1,t0,t1,r1,r2,r3,r4,Nat.zero_add,Nat.reduceMul,Nat.reduceAdd,b1,b2,b3,b4,b5,b6,i1,i2,i3,i4,i5,i6,Nat.reduceBEq,prL_kill,kills_map prE,dfr,dfq,take_map_len,map_snoc,len_snoc,List.length_cons,List.length_nil,List.nil_append,List.map_nil,List.take_nil,List.append_nil,List.set_cons_zero,List.set_cons_succ,Nat.reduceEqDiff,reduceIte,if_true,if_false,ptL_kill,poL_kill,kills_map ptE,kills_map poE,kills_map ratE,ratL_kill,spL_kill,LV.kill,kills];exact rfl):p:=e.mpr k
end H_c_PBox
open H_c_PBox in
theorem c_PBox (R U V:Nat) (kU kV:List Rat) (rows:List (List PoR)) (h:pf R U V rows) (hR:R≤200000):CallP Tryz.prog 39 [.agg [nI64 U,nI64 V,.list 3 (kU.map ratL),.list 3 (kV.map ratL),.list 1 (rows.map prL)]] (bxL (bxP (rows.flatten.map (·.p)))):=by
 have hsp:LV.pure (.agg [nI64 U,nI64 V,.list 3 (kU.map ratL),.list 3 (kV.map ratL),.list 1 (rows.map prL)])=true:=by simp [LV.pure,pures,pures_map ratE,pures_map prE]
 have h16:=h.l16
 have h0:=h.pos
 have hpl:(rows.flatten.map (·.p)).length=rows.flatten.length:=List.length_map ..
 refine fnP Tryz.func39 (ht:=(fun r=>LV.ren_pure r _ (bxE.pure _))) ?_
 refine zg9 ?_
 refine cp am1 (c_ppts U V kU kV rows R h.rw) ?_
 refine cp am1 (c_VBoxOf (rows.flatten.map (·.p)) (by omega) (by omega) R (by omega) (fun i hi=>h.fp hi)) ?_
 refine zg15 ?_
 exact retC [] rfl rfl rfl cs (at_all cs rfl) T92 (.pure pu)
end Go.Proofs.YthpfpgfehmhpdaaGreat
end
section
set_option linter.unusedVariables false
set_option linter.unusedSimpArgs false
namespace Go.Lg
theorem Weak.boxp {L:St} {t b sz:Nat} {y:LV} {m:Bool} (h:L.slot t=.eptr b sz 0 0) (hb:L.heap b=some ⟨sz,[y],m⟩) (hs:y.csize=sz) (ha:y.isAgg=true) (hp:y.pure=true) (h0:b≠0:=by decide):Weak L ((L.put (some t) (.boxp y)).kill b):=by
 have h0':([b]:List Nat).contains 0=false:=by simp;omega
 have e1:=(Weak.frz [b] h0' h (.eptr (blk:=⟨sz,[y],m && !([b]:List Nat).contains b⟩) (x:=y) (n:=sz) (ag:=true) (by simp only [St.frz,hb,Option.map_some]) rfl rfl hs (at_all hs ha) hp (by simp))).trans (Weak.kill _ b h0)
 have e2:((L.frz [b]).put (some t) (.boxp y)).kill b=(L.put (some t) (.boxp y)).kill b:=by
  unfold St.kill
  congr 1
  funext c
  rw [put_heap,put_heap]
  by_cases hcb:c=b
  ·simp [hcb]
  ·simp only [St.frz,if_neg hcb]
   cases L.heap c with
   | none=>rfl
   | some blk=>simp [hcb]
 rw [←e2]
 exact e1
theorem wl_regAW {P:Program} {L L0:St} {Q:LEx→St→Prop} {ops:Array Oper} {id:Nat} (hw:Weak L L0) (h:anyL P ops ops.size (Array.replicate ops.size false) L0 (Q .normal)):wpL P (.region id ops true) Q L:=⟨L0,hw,.inr (.inl ⟨rfl,h⟩)⟩
def wideOp:Op→Bool
 | .store ..=>true
 | .build ..=>true
 | .box ..=>true
 | .alloc ..=>true
 | .buildSlice ..=>true
 | .makeSlice ..=>true
 | .call ⟨.value (.func _),_,_⟩=>true
 | .call ⟨.builtin .append,_,_⟩=>true
 | op=>plainOp op
section
variable {P:Program} {H:Heap} {ρ ρ':Operand→LV}
theorem psmap {ps:Array (Nat × Operand)} (hr:∀ p∈ps.toList,ρ' p.2=ρ p.2):(ps.toList.map fun p=>(p.1,ρ p.2))=ps.toList.map fun p=>(p.1,ρ' p.2) :=
 List.map_congr_left fun p hp=>by rw [hr p hp]
theorem OpA.cong {d:Nat} {op:Op} {r:LV} {blk:Blk} (h:OpA P ρ d op r blk) (hr:∀ x∈op.operands,ρ' x=ρ x):OpA P ρ' d op r blk:=by
 cases h with
 | make hT hz hE hzs hb hl hc hnm hm hm2=>exact .make hT hz hE hzs hb ((hr _ (by simp [Op.operands])).trans hl) ((hr _ (by simp [Op.operands])).trans hc) hnm hm hm2
 | @lit T E n ps z sz hT hz hE hzs hn h0 hs0 hp =>
  have hq:∀ p∈ps.toList,ρ' p.2=ρ p.2:=fun p hp=>hr _ (by simp only [Op.operands,List.mem_toArray];exact List.mem_map.2 ⟨p,hp,rfl⟩)
  rw [psmap hq]
  exact .lit hT hz hE hzs hn h0 hs0 fun p hp'=>by rw [hq p hp'];exact hp p hp'
 | lit0 hT hE=>exact .lit0 hT hE
 | @box T x hne =>
  have e:=hr x (by simp [Op.operands])
  rw [←e]
  rw [←e] at hne
  exact .box hne
 | alloc hz=>exact .alloc hz
theorem OpP.congB {T:TypeId} {ps:Array (Nat × Operand)} {r:LV} (h:OpP P H ρ (.build T ps) r) (hr:∀ x∈(Op.build T ps).operands,ρ' x=ρ x):OpP P H ρ' (.build T ps) r:=by
 have hq:∀ p∈ps.toList,ρ' p.2=ρ p.2:=fun p hp=>hr _ (by simp only [Op.operands,List.mem_toArray];exact List.mem_map.2 ⟨p,hp,rfl⟩)
 cases h with
 | buildA hT hE hf hz hp =>
  rw [psmap hq]
  exact .buildA hT hE hf hz fun p hp'=>by rw [hq p hp'];exact hp p hp'
 | build hT hz hp =>
  rw [psmap hq]
  exact .build hT hz fun p hp'=>by rw [hq p hp'];exact hp p hp'
end
theorem kill_put (L:St) {d:Nat} {v:LV} (hv:∀ b,v.kill b=v) (b:Nat):(L.put (some d) v).kill b=(L.kill b).put (some d) v:=by
 have h1:∀ t,((L.put (some d) v).kill b).slot t=((L.kill b).put (some d) v).slot t:=fun t=>by
  rw [put_slot]
  show (((L.put (some d) v).slot t).kill b)=_
  rw [put_slot]
  split
  ·exact hv b
  ·rfl
 exact congrArg (fun f=>St.mk f (L.kill b).heap) (funext h1)
section
variable {P:Program} {ops:Array Oper}
theorem step_commW {L L2:St} {d:Nat} {v:LV} {o:Oper} (hv:∀ b,v.kill b=v) (hk:wideOp o.op=true) (hl:d∉o.looksAt ops) (hd:o.dst≠some d) (h:Step P false ops o (L.put (some d) v) L2) :
  ∃ L1,Step P false ops o L L1∧L2=L1.put (some d) v∧∀ t,o.dst≠some t→(∀ b,(L.slot t).kill b=L.slot t)→L1.slot t=L.slot t:=by
 have hev:=ev_put (L:=L) (v:=v) hl
 have hsl:∀ (M:St) (r:LV) t,M.slot t=L.slot t→o.dst≠some t→(M.put o.dst r).slot t=L.slot t:=fun M r t hM hne=>by
  cases hh:o.dst with
  | none=>exact hM
  | some e=>rw [put_slot,if_neg (fun q=>hne (by rw [hh,q]))];exact hM
 cases h with
 | skip hg hL=>exact⟨L.put o.dst (.tup []),.skip (guard_put hl hg) rfl,by rw [hL,put_commO L hd],fun t ht _=>hsl L _ t rfl ht⟩
 | @val r fr H1 hg hle hfr hov hL =>
  obtain⟨dst,op,ty,pos,after,gd⟩:=o
  have hev':∀ x∈op.operands,L.ev x=(L.put (some d) v).ev x:=fun x hx=>(hev x hx).symm
  have hov2:OpV P H1 L.ev (dst.getD 0) op r fr:=by
   cases hov with
   | pure hp =>
    by_cases hpl:plainOp op=true
    ·exact .pure (hp.cong hpl hev')
    ·by_cases hbq:∃ T ps,op=.build T ps
     ·obtain⟨T,ps,rfl⟩:=hbq
      exact .pure (hp.congB hev')
     ·cases hp with
      | ext2 hf hname hb hn he hx hr h1 h2 =>
       refine .pure (.ext2 hf hname hb hn he ?_ hr h1 h2)
       rw [←hx]
       exact List.map_congr_left fun x hxm=>hev' x (mem_args hxm)
      | build=>exact absurd ⟨_,_,rfl⟩ hbq
      | buildA=>exact absurd ⟨_,_,rfl⟩ hbq
      | _=>first | (exfalso;exact hpl rfl) | (exfalso;revert hk hpl;simp [wideOp,plainOp])
   | alloc ha=>exact .alloc (ha.cong hev')
   | call hc =>
    cases hc with
    | func ha hkk hlen hpu =>
     refine .call (.func ?_ hkk hlen hpu)
     rw [show (_:Array Operand).toList.map L.ev=_ from List.map_congr_left fun x hxm=>hev' x (mem_args hxm)]
     exact ha
    | clo=>exfalso;revert hk;simp [wideOp,plainOp]
    | mk=>exfalso;revert hk;simp [wideOp,plainOp]
  refine⟨⟨(L.put dst r).slot,H1⟩,.val (guard_put hl hg) hle hfr hov2 rfl,?_,fun t ht _=>hsl L r t rfl ht⟩
  rw [hL]
  have:=put_commO L hd v r
  exact congrArg (fun M=>St.mk (St.slot M) H1) this
 | st hg hot =>
  obtain⟨dst,op,ty,pos,after,gd⟩:=o
  cases hot with
  | store hp hb hs hm hi hy hput hT hne =>
   rename_i T p x b sz i o' blk y y'
   have e1:=hev p (by simp [Op.operands])
   have e2:=hev x (by simp [Op.operands])
   rw [e1] at hp
   rw [e2] at hput hT hne
   refine⟨_,.st (guard_put hl hg) (.store hp hb hs hm hi hy hput hT hne),?_,fun t ht _=>?_⟩
   ·exact put_commO (L.setB b _) hd v .any
   ·exact hsl (L.setB b _) .any t rfl ht
  | appX hx hb hs hm hlen hbd hb0 hT hU hz hE hzs hby hy hsz h63 hs0 =>
   rename_i T U E E' d' b sz len blk x y news z by_
   have e1:=hev x (by simp [Op.operands,Call.operands])
   have e2:=hev y (by simp [Op.operands,Call.operands])
   rw [e1] at hx
   rw [e2] at hy
   refine⟨_,.st (guard_put hl hg) (.appX hx hb hs hm hlen hbd hb0 hT hU hz hE hzs hby hy hsz h63 hs0),?_,fun t ht hf=>?_⟩
   ·rw [kill_put L hv]
    exact put_commO ((L.kill b).setB d' _) hd v _
   ·exact hsl ((L.kill b).setB d' _) _ t (hf b) ht
  | app0X hx hbd hT hU hz hE hzs hby hy hn hsz h63 hs0 =>
   rename_i T U E E' d' sz x y news z by_
   have e1:=hev x (by simp [Op.operands,Call.operands])
   have e2:=hev y (by simp [Op.operands,Call.operands])
   rw [e1] at hx
   rw [e2] at hy
   refine⟨_,.st (guard_put hl hg) (.app0X hx hbd hT hU hz hE hzs hby hy hn hsz h63 hs0),?_,fun t ht hf=>?_⟩
   ·exact put_commO (L.setB d' _) hd v _
   ·exact hsl (L.setB d' _) _ t rfl ht
  | _=>exfalso;revert hk;simp [wideOp,plainOp]
 | stM hdr hg hom =>
  obtain⟨dst,op,ty,pos,after,gd⟩:=o
  cases hom with
  | call hb hm hp ha hn hkk hm' hp' =>
   rename_i f xs ats args r b blk blk'
   have em:xs.toList.map (L.put (some d) v).ev=xs.toList.map L.ev:=List.map_congr_left fun x hxm=>hev x (mem_args hxm)
   rw [em] at ha hn
   refine⟨_,.stM hdr (guard_put hl hg) (.call hb hm hp ha hn hkk hm' hp'),?_,fun t ht _=>?_⟩
   ·exact put_commO (L.setB b _) hd v _
   ·exact hsl (L.setB b _) _ t rfl ht
  | appz hT hU hz hE hzs hb hx hy hbd h0 hs0 hm h63 =>
   rename_i T U E x y z k kl sz by_ n d'
   have e1:=hev x (by simp [Op.operands,Call.operands])
   have e2:=hev y (by simp [Op.operands,Call.operands])
   rw [e1] at hx
   rw [e2] at hy
   refine⟨_,.stM hdr (guard_put hl hg) (.appz hT hU hz hE hzs hb hx hy hbd h0 hs0 hm h63),?_,fun t ht _=>?_⟩
   ·exact put_commO (L.setB d' _) hd v _
   ·exact hsl (L.setB d' _) _ t rfl ht
def hoistOkW (ops:Array Oper) (i:Nat) (D:Array Bool):Bool :=
 D.size==ops.size && !D.getD i true && (dirs (ops.getD i default)).all (fun j=>D.getD j false) && (ops.getD i default).guard.isNone && plainOp (ops.getD i default).op &&
 (List.range ops.size).all fun j=>j==i || D.getD j true || (wideOp (ops.getD j default).op && ((ops.getD j default).dst != (ops.getD i default).dst) &&
  (match (ops.getD i default).dst with | some d=>!((ops.getD j default).looksAt ops).contains d || (dirs (ops.getD j default)).contains i | none=>false) &&
  (match (ops.getD j default).dst with | some e=>!((ops.getD i default).looksAt ops).contains e | none=>true))
def firmAll (L:St):List Operand→Prop
 | []=>True
 | x :: xs=>(∀ b,(L.ev x).kill b=L.ev x)∧firmAll L xs
theorem firmAll_mem {L:St}:∀ {l:List Operand},firmAll L l→∀ x∈l,∀ b,(L.ev x).kill b=L.ev x
 | _ :: _,h,_,.head _=>h.1
 | _ :: _,h,_,.tail _ hx=>firmAll_mem h.2 _ hx
theorem fmA {p:Prop} (h:p:=by first | exact And.intro (fun _=>rfl) trivial | exact And.intro (fun _=>rfl) (And.intro (fun _=>rfl) trivial) | exact And.intro (fun b=>LV.kill_pure b _ pu) trivial):p:=h
theorem fmV {p:Prop} (h:p:=by first | exact(fun _=>rfl) | exact(fun b=>LV.kill_pure b _ pu) | exact(fun b=>LV.kill_pure b _ (by assumption))):p:=h
theorem any_hoistW {m:Nat} {K:St→Prop} {L:St} {D:Array Bool} {d:Nat} {v:LV} (i:Nat) {o:Oper} (ho:ops[i]?=some o) (hdst:o.dst=some d) (hok:hoistOkW ops i D=true) (hv:OpP P (fun _=>none) L.ev o.op v)
  (hfv:∀ b,v.kill b=v) (hfo:firmAll L o.op.operands.toList)
  (h:anyL P ops m (D.setIfInBounds i true) (L.put (some d) v) K):anyL P ops (m+1) D L K:=by
 have getD_of:∀ i o,ops[i]?=some o→ops.getD i default=o:=fun i o h=>by rw [Array.getD_eq_getD_getElem?,h];rfl
 have hin:i<ops.size:=(Array.getElem?_eq_some_iff.1 ho).1
 let C:Array Bool→Prop:=fun D=>D.size=ops.size∧D.getD i false=false∧(∀ j∈dirs o,D.getD j false=true)∧∀ j oj,ops[j]?=some oj→j≠i→D.getD j false=false →
  wideOp oj.op=true∧oj.dst≠some d∧(d∈oj.looksAt ops→i∈dirs oj)∧∀ e,oj.dst=some e→e∉o.looksAt ops
 unfold hoistOkW at hok
 rw [getD_of i o ho,hdst] at hok
 simp only [Bool.and_eq_true,List.all_eq_true,List.mem_range,Bool.or_eq_true,beq_iff_eq,Bool.not_eq_true',Option.isNone_iff_eq_none,bne_iff_ne,ne_eq] at hok
 obtain⟨⟨⟨⟨⟨hsz,hni⟩,hrd⟩,hgd⟩,hslim⟩,hall⟩:=hok
 have hC:C D:=by
  refine⟨hsz,by rw [getD_sz (by omega) false true];exact hni,hrd,fun j oj hj hne hDj=>?_⟩
  have hjl:j<ops.size:=(Array.getElem?_eq_some_iff.1 hj).1
  have:=hall j hjl
  rw [getD_of j oj hj] at this
  rcases this with(q | q) | q
  ·exact absurd q hne
  ·rw [getD_sz (by omega) true false,hDj] at q;cases q
  ·obtain⟨⟨⟨q1,q2⟩,q3⟩,q4⟩:=q
   refine⟨q1,q2,fun hm=>?_,fun e he hm=>?_⟩
   ·rcases q3 with q | q
    ·rw [List.contains_iff_mem.2 hm] at q;cases q
    ·exact List.contains_iff_mem.1 q
   ·rw [he] at q4
    simp only [Bool.not_eq_true'] at q4
    rw [List.contains_iff_mem.2 hm] at q4;cases q4
 have hstepi:∀ L:St,OpP P (fun _=>none) L.ev o.op v→Step P false ops o L (L.put (some d) v):=fun L hv=>by
  refine .val (fr:=[]) (H1:=L.heap) (r:=v) (by unfold GuardIs;rw [hgd]) (Heap.le_refl _) (fun _ _ hh=>by cases hh) (.pure (hv.le fun b blk h=>by cases h)) ?_
  rw [hdst];rfl
 clear hsz hni hrd hall
 have hfo':∀ x∈o.op.operands,∀ b,(L.ev x).kill b=L.ev x:=fun x hx=>firmAll_mem hfo x (Array.mem_toList_iff.2 hx)
 clear hfo
 have main:∀ (n:Nat) (D:Array Bool) (L:St),C D→OpP P (fun _=>none) L.ev o.op v→(∀ x∈o.op.operands,∀ b,(L.ev x).kill b=L.ev x)→anyL P ops n (D.setIfInBounds i true) (L.put (some d) v) K→anyL P ops (n+1) D L K:=by
  intro n
  induction n with
  | zero =>
   intro D L ⟨c1,c2,c3,c4⟩ hv _ hh
   have hri:i∈Region.ready .any ops D:=(ready_spec c1).2 ⟨o,ho,by rw [getD_sz (by omega) true false];exact c2,c3⟩
   refine⟨fun hr=>(by rw [hr] at hri;cases hri),fun j hj=>?_⟩
   by_cases hji:j=i
   ·subst hji
    exact⟨o,_,ho,hstepi L hv,hh⟩
   ·exfalso
    obtain⟨oj,h1,h2,h3⟩:=(ready_spec c1).1 hj
    have:j∈Region.ready .any ops (D.setIfInBounds i true):=(ready_spec (by simpa using c1)).2 ⟨oj,h1,by
     rw [Array.getD_eq_getD_getElem?,Array.getElem?_setIfInBounds_ne (Ne.symm hji),←Array.getD_eq_getD_getElem?];exact h2,fun k hk=>by
     by_cases hki:i=k
     ·subst hki
      rw [Array.getD_eq_getD_getElem?,Array.getElem?_setIfInBounds_self_of_lt (by omega)];rfl
     ·rw [Array.getD_eq_getD_getElem?,Array.getElem?_setIfInBounds_ne hki,←Array.getD_eq_getD_getElem?];exact h3 k hk⟩
    rw [hh.1] at this;cases this
  | succ n ih =>
   intro D L ⟨c1,c2,c3,c4⟩ hv hfo hh
   have hri:i∈Region.ready .any ops D:=(ready_spec c1).2 ⟨o,ho,by rw [getD_sz (by omega) true false];exact c2,c3⟩
   refine⟨fun hr=>(by rw [hr] at hri;cases hri),fun j hj=>?_⟩
   by_cases hji:j=i
   ·subst hji
    exact⟨o,_,ho,hstepi L hv,hh⟩
   ·obtain⟨oj,h1,h2,h3⟩:=(ready_spec c1).1 hj
    have hjl:j<ops.size:=(Array.getElem?_eq_some_iff.1 h1).1
    have hDj:D.getD j false=false:=by rw [getD_sz (by omega) false true];exact h2
    have hji2:j∈Region.ready .any ops (D.setIfInBounds i true):=(ready_spec (by simpa using c1)).2 ⟨oj,h1,by
     rw [Array.getD_eq_getD_getElem?,Array.getElem?_setIfInBounds_ne (Ne.symm hji),←Array.getD_eq_getD_getElem?];exact h2,fun k hk=>by
     by_cases hki:i=k
     ·subst hki
      rw [Array.getD_eq_getD_getElem?,Array.getElem?_setIfInBounds_self_of_lt (by omega)];rfl
     ·rw [Array.getD_eq_getD_getElem?,Array.getElem?_setIfInBounds_ne hki,←Array.getD_eq_getD_getElem?];exact h3 k hk⟩
    obtain⟨oj',L2,g1,g2,g3⟩:=hh.2 j hji2
    rw [h1] at g1;cases g1
    obtain⟨k1,k2,k3,k4⟩:=c4 j oj h1 hji hDj
    have hnl:d∉oj.looksAt ops:=fun hm=>by
     have:=h3 i (k3 hm)
     rw [c2] at this;cases this
    obtain⟨L1,s1,s2,s3⟩:=step_commW hfv k1 hnl k2 g2
    have hsame:∀ x∈o.op.operands,L1.ev x=L.ev x:=fun x hx=>by
     cases x with
     | tmp t =>
      have ht:t∈o.looksAt ops:=by
       unfold Oper.looksAt
       simp only [List.mem_append,List.mem_filterMap]
       exact .inl ⟨.tmp t,by simpa using hx,rfl⟩
      exact s3 t (fun q=>k4 t q ht) (hfo _ hx)
     | const v=>rfl
     | func f=>rfl
     | global f=>rfl
    refine⟨oj,L1,h1,s1,ih (D.setIfInBounds j true) L1 ⟨by simpa using c1,?_,fun k hk=>?_,fun k ok hk hne hDk=>?_⟩ (hv.cong hslim hsame) (fun x hx b=>by rw [hsame x hx];exact hfo x hx b) ?_⟩
    ·rw [Array.getD_eq_getD_getElem?,Array.getElem?_setIfInBounds_ne hji,←Array.getD_eq_getD_getElem?];exact c2
    ·by_cases hjk:j=k
     ·subst hjk
      rw [Array.getD_eq_getD_getElem?,Array.getElem?_setIfInBounds_self_of_lt (by omega)];rfl
     ·rw [Array.getD_eq_getD_getElem?,Array.getElem?_setIfInBounds_ne hjk,←Array.getD_eq_getD_getElem?];exact c3 k hk
    ·by_cases hjk:j=k
     ·subst hjk
      rw [Array.getD_eq_getD_getElem?,Array.getElem?_setIfInBounds_self_of_lt (by omega)] at hDk
      cases hDk
     ·rw [Array.getD_eq_getD_getElem?,Array.getElem?_setIfInBounds_ne hjk,←Array.getD_eq_getD_getElem?] at hDk
      exact c4 k ok hk hne hDk
    ·rw [←s2]
     have:(D.setIfInBounds j true).setIfInBounds i true=(D.setIfInBounds i true).setIfInBounds j true:=by
      refine Array.ext_getElem? fun k=>?_
      by_cases q1:i=k
      ·subst q1
       rw [Array.getElem?_setIfInBounds_self_of_lt (by simp;omega),Array.getElem?_setIfInBounds_ne hji,Array.getElem?_setIfInBounds_self_of_lt (by omega)]
      ·by_cases q2:j=k
       ·subst q2
        rw [Array.getElem?_setIfInBounds_ne q1,Array.getElem?_setIfInBounds_self_of_lt (by omega),Array.getElem?_setIfInBounds_self_of_lt (by simp;omega)]
       ·rw [Array.getElem?_setIfInBounds_ne q1,Array.getElem?_setIfInBounds_ne q2,Array.getElem?_setIfInBounds_ne q2,Array.getElem?_setIfInBounds_ne q1]
     rw [this];exact g3
 exact main m D L hC hv hfo' h
end
end Go.Lg
end
section
set_option linter.unusedVariables false
set_option linter.unusedSimpArgs false
set_option maxHeartbeats 8000000
set_option maxRecDepth 100000
attribute [local irreducible] Go.Lg.opsL Go.Lg.wpL Go.Lg.thenL Go.Lg.blockL
namespace Go.Proofs.YthpfpgfehmhpdaaGreat
open Go.Lg
def swR (V:Nat) (rows:List (List PoR)):List (List PoR):=(List.range (V+1)).map fun j=>rows.map fun r=>r.getD j default
theorem swR_len (V:Nat) (rows:List (List PoR)):(swR V rows).length=V+1:=by simp [swR]
theorem swR_at {V:Nat} (rows:List (List PoR)) {j:Nat} (h:j<V+1):(swR V rows)[j]?=some (rows.map fun r=>r.getD j default):=by
 rw [swR,List.getElem?_map,List.getElem?_range h];rfl
theorem swR_getD {V:Nat} (rows:List (List PoR)) {j:Nat} (h:j<V+1):(swR V rows).getD j []=rows.map fun r=>r.getD j default:=by
 rw [List.getD_eq_getElem?_getD,swR_at rows h];rfl
theorem swR_take {V:Nat} (rows:List (List PoR)) {j:Nat} (h:j<V+1):(swR V rows).take j++[rows.map fun r=>r.getD j default]=(swR V rows).take (j+1):=by
 rw [List.take_add_one,swR_at rows h];rfl
theorem mapT {α β:Type} [Inhabited α] (f:α→β) (l:List α) (d:α) {i:Nat} (h:i<l.length):(l.map f).take i++[f (l.getD i d)]=(l.map f).take (i+1):=by
 rw [List.take_add_one,List.getElem?_map,List.getD_eq_getElem?_getD,List.getElem?_eq_getElem h];rfl
theorem swR_pf {R U V:Nat} {rows:List (List PoR)} (h:pf R U V rows):pf R V U (swR V rows) where
 r1:=h.r1
 rB:=h.rB
 u1:=h.v1
 u3:=h.v3
 v1:=h.u1
 v3:=h.u3
 n:=swR_len ..
 m:=fun r hr=>by
  obtain⟨j,_,rfl⟩:=List.mem_map.1 hr
  rw [List.length_map,h.n]
 ok:=fun r hr q hq=>by
  obtain⟨j,hj,rfl⟩:=List.mem_map.1 hr
  obtain⟨r',hr',rfl⟩:=List.mem_map.1 hq
  have hj2:j<r'.length:=by rw [h.m r' hr'];exact List.mem_range.1 hj
  exact h.ok r' hr' _ (getD_memP hj2)
theorem plZ36:ZeroOK Tryz.prog 26 (plL []):=⟨Tryz.t26,_,by kernel_rfl,rfl,rfl,fun _ _ _=>repNil0 3⟩
instance:EC Tryz.prog 26 plL 1 false []:=⟨plE,plZ36,T26⟩
theorem neqF {a b:Int} {k:IntKind} (h:a=b):binI .neq k a b=some (.bool false):=by simp [binI,h]
theorem okP.le {R S:Nat} {q:PoR} (h:okP R q) (hRS:R≤S):okP S q:=⟨h.1.le hRS,Nat.le_trans h.2.1 hRS,h.2.2⟩
theorem frz_c (bs:List Nat) (c:Nat) (y:Blk) (l:List (Nat × Blk)):frzH bs ((c,y) :: l)=(c,⟨y.sz,y.vals,y.mt && !bs.contains c⟩) :: frzH bs l:=rfl
namespace H_c_IdxW
theorem zSm {p q:Prop} (k:q) (e:p=q:=by simp only [e1,e2,e3,e4,p1,p2,p3,q1,q2,q3,l1,t0,t1,r1,r2,r3,r4,Nat.zero_add,Nat.reduceMul,Nat.reduceAdd,b1,b2,b3,b4,b5,b6,i1,i2,i3,i4,i5,i6,Nat.reduceBEq,dfr,List.set_cons_zero,List.set_cons_succ,Nat.reduceEqDiff,reduceIte,if_true,if_false,ptL_kill,poL_kill,kills_map ptE,kills_map poE,kills_map ratE,ratL_kill,spL_kill,LV.kill,kills,List.length_map];exact rfl):p:=e.mpr k
end H_c_IdxW
open H_c_IdxW in
theorem c_IdxW (f:Nat) (cap:List LV) (hcp:pures cap=true) (hcs:∀ x∈cap,x.csize=1∧x.isAgg=false) (pr:List PoR→Bool) (l:List (List PoR)) (hl:l.length≤1048576) (hf:∀ x∈l,CallP Tryz.prog f ([prL x]++cap) (bL (pr x))):CallP Tryz.prog 221 [.list 1 (l.map prL),.clo f cap] (iL (fIdx pr l)):=by
 refine fnP Tryz.func221 ?_
 refine zg14 ?_
 refine lp1 (fun(i:Nat) L=>((((((St.mk L.slot (hp [])).put (some 0) (.list 1 (l.map prL))).put (some 1) (.clo f cap)).put (some 6) (.list 1 (l.map prL))).put (some 7) (nI64 l.length)).put (some 8) (nI64 i))) (fun i=>i≤l.length∧∀ j,j<i→pr (l.getD j default)=false) (fun i=>l.length-i) 0 ⟨Nat.zero_le _,fun j hj=>absurd hj (Nat.not_lt_zero j)⟩ ?_
 rintro i L1 ⟨hi,h0⟩
 refine zg6 ?_
 refine wl_if rfl (fun h9r h9=>?_) (fun h9r h9=>?_)
 ·have hi2:i<l.length:=by omega
  have hc:=hf _ (getD_memL hi2)
  have hpp:=prE.pure (l.getD i [])
  refine zg17 ?_
  refine st_opc [] rfl rfl (.clo (f:=f) (cap:=cap) (args:=[prL (l.getD i [])]) rfl (.cons im0 .nil) ⟨hcp,hcs⟩ hc.1 (by decide) (fun _ h=>by cases h)) (hc.2 _) ?_
  refine zg2 ?_
  refine wl_if rfl (fun h16r h16=>?_) (fun h16r h16=>?_)
  ·have hV:fIdx pr l=(i:Int):=fIdx_hit hi2 h0 (by first | exact h16r | exact h16)
   refine zg12 ?_
   rw [hV]
   exact ret1 rfl (.pure rfl)
  ·have hn:∀ j,j<i+1→pr (l.getD j default)=false:=fun j hj=>by
    rcases Nat.lt_succ_iff_lt_or_eq.1 hj with e | rfl
    ·exact h0 j e
    ·first | exact h16r | (simpa using h16)
   refine zg4 ?_
   refine st_pure rfl (.bin rfl rfl (add1N (by omega))) ?_
   refine zg3 ?_
   exact nx1 (i+1) ⟨by omega,hn⟩
 ·obtain rfl:i=l.length:=by omega
  refine zg11 ?_
  rw [fIdx_none h0]
  exact ret1 rfl (.pure rfl)
namespace H_c_HasW
theorem zSm {p q:Prop} (k:q) (e:p=q:=by simp only [e1,e2,e3,e4,p1,p2,p3,q1,q2,q3,l1,t0,t1,r1,r2,r3,r4,Nat.zero_add,Nat.reduceMul,Nat.reduceAdd,b1,b2,b3,b4,b5,b6,i1,i2,i3,i4,i5,i6,Nat.reduceBEq,List.set_cons_zero,List.set_cons_succ,Nat.reduceEqDiff,reduceIte,if_true,if_false,ptL_kill,poL_kill,kills_map ptE,kills_map poE,kills_map ratE,ratL_kill,spL_kill,LV.kill,kills];exact rfl):p:=e.mpr k
end H_c_HasW
open H_c_HasW in
theorem c_HasW (f:Nat) (cap:List LV) (hcp:pures cap=true) (hcs:∀ x∈cap,x.csize=1∧x.isAgg=false) (pr:List PoR→Bool) (l:List (List PoR)) (hl:l.length≤1048576) (hf:∀ x∈l,CallP Tryz.prog f ([prL x]++cap) (bL (pr x))):CallP Tryz.prog 152 [.list 1 (l.map prL),.clo f cap] (bL (l.any pr)):=by
 refine fnP Tryz.func152 ?_
 refine zg9 ?_
 refine st_callP rfl (.cons (.pure (pure_lst prE 1 _)) (.cons (.pure (show LV.pure (.clo f cap)=true by simpa [LV.pure] using hcp)) .nil)) (c_IdxW f cap hcp hcs pr l hl hf) ?_
 refine zg5 ?_
 rw [←fIdx_any]
 exact ret1 rfl (.pure rfl)
namespace H_c_SRc1
theorem zSm {p q:Prop} (k:q) (e:p=q:=by simp only [e1,e2,e3,e4,p1,p2,p3,q1,q2,q3,l1,t0,t1,r1,r2,r3,r4,Nat.zero_add,Nat.reduceMul,Nat.reduceAdd,b1,b2,b3,b4,b5,b6,i1,i2,i3,i4,i5,i6,Nat.reduceBEq,prL,List.length_map,prL_kill,kills_map prE,dfr,dfq,take_map_len,map_snoc,len_snoc,List.length_cons,List.length_nil,List.nil_append,List.map_nil,List.take_nil,List.append_nil,List.set_cons_zero,List.set_cons_succ,Nat.reduceEqDiff,reduceIte,if_true,if_false,ptL_kill,poL_kill,kills_map ptE,kills_map poE,kills_map ratE,ratL_kill,spL_kill,LV.kill,kills];exact rfl):p:=e.mpr k
end H_c_SRc1
open H_c_SRc1 in
theorem c_SRc1 (U V:Nat) (kU kV:List Rat) (rows:List (List PoR)) (r:List PoR) (hl:V+1≤kV.length) (hkl:kV.length≤1000) (hr:r.length=kV.length-V-1):CallP Tryz.prog 205 [prL r,.boxp (.agg [nI64 U,nI64 V,.list 3 (kU.map ratL),.list 3 (kV.map ratL),.list 1 (rows.map prL)])] (bL false):=by
 have hsp:LV.pure (.agg [nI64 U,nI64 V,.list 3 (kU.map ratL),.list 3 (kV.map ratL),.list 1 (rows.map prL)])=true:=by simp [LV.pure,pures,pures_map ratE,pures_map prE]
 have hpr:=prE.pure r
 have hpv:=pure_lst ratE 3 kV
 refine fnP Tryz.func205 ?_
 refine zg13 ?_
 refine cp am2 (c_KPoles kV V hl (by omega)) ?_
 refine st_pure rfl (.bin rfl rfl ((neqF (by first | omega | (simp only [List.length_map,prL];omega))))) ?_
 refine zg4 ?_
 exact ret1 rfl (.pure rfl)
namespace H_c_SRct
theorem zSm {p q:Prop} (k:q) (e:p=q:=by simp only [e1,e2,e3,e4,p1,p2,p3,q1,q2,q3,l1,t0,t1,r1,r2,r3,r4,Nat.zero_add,Nat.reduceMul,Nat.reduceAdd,b1,b2,b3,b4,b5,b6,i1,i2,i3,i4,i5,i6,Nat.reduceBEq,prL,any_ff,List.length_map,prL_kill,kills_map prE,dfr,dfq,take_map_len,map_snoc,len_snoc,List.length_cons,List.length_nil,List.nil_append,List.map_nil,List.take_nil,List.append_nil,List.set_cons_zero,List.set_cons_succ,Nat.reduceEqDiff,reduceIte,if_true,if_false,ptL_kill,poL_kill,kills_map ptE,kills_map poE,kills_map ratE,ratL_kill,spL_kill,LV.kill,kills];exact rfl):p:=e.mpr k
end H_c_SRct
open H_c_SRct in
theorem c_SRct (U V:Nat) (kU kV:List Rat) (rows:List (List PoR)) (hkU:kOK kU U) (hkV:kOK kV V) (hn:rows.length=kU.length-U-1) (hm:∀ r∈rows,r.length=kV.length-V-1) (hq:∀ r∈rows,∀ q∈r,okP 64 q):CallP Tryz.prog 130 [.agg [nI64 U,nI64 V,.list 3 (kU.map ratL),.list 3 (kV.map ratL),.list 1 (rows.map prL)]] (bL true):=by
 have hsp:LV.pure (.agg [nI64 U,nI64 V,.list 3 (kU.map ratL),.list 3 (kV.map ratL),.list 1 (rows.map prL)])=true:=by simp [LV.pure,pures,pures_map ratE,pures_map prE]
 have hU1:=hkU.d1
 have hU6:=hkU.d6
 have hUl:=hkU.len
 have hUm:=hkU.max
 have hV1:=hkV.d1
 have hV6:=hkV.d6
 have hVl:=hkV.len
 have hVm:=hkV.max
 have hbp:pures [.boxp (.agg [nI64 U,nI64 V,.list 3 (kU.map ratL),.list 3 (kV.map ratL),.list 1 (rows.map prL)])]=true:=by simp [pures,LV.pure,pures_map ratE,pures_map prE]
 refine fnP Tryz.func130 ?_
 refine zg7 ?_
 refine wl_regD 17 (by decide +kernel) ?_
 refine zg7 ?_
 refine cp am2 (c_KPoles kU U (by omega) (by omega)) ?_
 refine zg2 ?_
 refine st_pure (guardX (v:=true) rfl rfl ((beq_iff_eq.2 (by first | omega | (simp only [List.length_map];omega)))) rfl) faA ?_
 refine st_pure (guardX (v:=true) rfl rfl ((beq_iff_eq.2 (by first | omega | (simp only [List.length_map];omega)))) rfl) ldA ?_
 refine st_opc [1] (guardX (v:=true) rfl rfl ((beq_iff_eq.2 (by first | omega | (simp only [List.length_map];omega)))) rfl) rfl (.mk (caps:=[.boxp (.agg [nI64 U,nI64 V,.list 3 (kU.map ratL),.list 3 (kV.map ratL),.list 1 (rows.map prL)])]) (.cons (.eptr rfl rfl rfl cs (at_all cs rfl) hsp rfl) .nil) (fun x hx=>by rw [List.mem_singleton.1 hx];exact⟨rfl,rfl⟩)) rfl ?_
 refine st_callP (guardX (v:=true) rfl rfl ((beq_iff_eq.2 (by first | omega | (simp only [List.length_map];omega)))) rfl) (.cons (.pure (pure_lst prE 1 _)) (.cons (.pure (show LV.pure (.clo 205 [.boxp (.agg [nI64 U,nI64 V,.list 3 (kU.map ratL),.list 3 (kV.map ratL),.list 1 (rows.map prL)])])=true by simpa [LV.pure] using hbp)) .nil)) (c_HasW 205 [.boxp (.agg [nI64 U,nI64 V,.list 3 (kU.map ratL),.list 3 (kV.map ratL),.list 1 (rows.map prL)])] hbp (fun x hx=>by rw [List.mem_singleton.1 hx];exact⟨rfl,rfl⟩) (fun _=>false) rows (by omega) (fun x hx=>c_SRc1 U V kU kV rows x (by omega) (by omega) (hm x hx))) ?_
 refine st_pure (guardX (v:=true) rfl rfl ((beq_iff_eq.2 (by first | omega | (simp only [List.length_map];omega)))) rfl) (.not rfl) ?_
 refine st_pure rfl (.pickT rfl ((beq_iff_eq.2 (by first | omega | (simp only [List.length_map];omega))))) ?_
 refine zg4 ?_
 refine ret1 ?_ (.pure rfl)
 first | rfl | (simp only [any_ff];rfl)
def slL (d:Nat) (k:List Rat) (C:List Q4):LV:=.agg [nI64 d,.list 3 (k.map ratL),.list 12 (C.map q4L)]
theorem slE (d:Nat) (k:List Rat):EncOK (slL d k) 3 true:=⟨fun _=>rfl,fun _=>rfl,fun C=>by simp [slL,LV.pure,pures,pures_map ratE,pures_map q4E]⟩
theorem slL_kill (d:Nat) (k:List Rat) (b:Nat) (C:List Q4):(slL d k C).kill b=slL d k C:=LV.kill_pure b _ ((slE d k).pure C)
def hoQ (q:PoR):Q4:=⟨q.w*q.p.x,q.w*q.p.y,q.w*q.p.z,q.w⟩
theorem hoQ_bd {q:PoR} {R:Nat} (h:okP R q):bd4 (2*R) (hoQ q):=by
 obtain⟨⟨h1,h2,h3⟩,h4,_⟩:=h
 have a:=rl_mul q.w q.p.x
 have b:=rl_mul q.w q.p.y
 have c:=rl_mul q.w q.p.z
 exact⟨by show rl (q.w*q.p.x)≤_;omega,by show rl (q.w*q.p.y)≤_;omega,by show rl (q.w*q.p.z)≤_;omega,by show rl q.w≤_;omega⟩
theorem mul_div_w {w x:Rat} (h:0<w):w*x/w=x:=by
 rw [Rat.div_def,Rat.mul_comm w x,Rat.mul_assoc,Rat.mul_inv_cancel _ (by grind),Rat.mul_one]
theorem hoQ_back {q:PoR} (h:0<q.w):(⟨⟨q.w*q.p.x/q.w,q.w*q.p.y/q.w,q.w*q.p.z/q.w⟩,q.w⟩:PoR)=q:=by
 rw [mul_div_w h,mul_div_w h,mul_div_w h]
theorem swR_col {R U V:Nat} {rows:List (List PoR)} (h:pf R U V rows) {i:Nat} (hi:i<U+1):(swR V rows).map (fun r=>r.getD i default)=rows.getD i []:=by
 have hri:=h.r0 (Nat.le_of_lt_succ hi)
 have hn:=h.n
 refine List.ext_getElem (by rw [List.length_map,swR_len,hri]) fun j h1 h2=>?_
 rw [List.getElem_map]
 have hj:j<V+1:=by rw [List.length_map,swR_len] at h1;exact h1
 have e:(swR V rows)[j]'(by rw [swR_len];exact hj)=(swR V rows).getD j []:=by rw [List.getD_eq_getElem?_getD,List.getElem?_eq_getElem (by rw [swR_len];exact hj)];rfl
 rw [e,swR_getD rows hj,List.getD_eq_getElem?_getD,List.getElem?_map,List.getElem?_eq_getElem (by omega)]
 have g:rows.getD i []=rows[i]'(by omega):=by rw [List.getD_eq_getElem?_getD,List.getElem?_eq_getElem (by omega)];rfl
 show rows[i].getD j default=_
 rw [List.getD_eq_getElem?_getD,List.getElem?_eq_getElem (by rw [←g,hri];exact hj)]
 simp only [Option.getD_some,g]
theorem swR_swR {R U V:Nat} {rows:List (List PoR)} (h:pf R U V rows):swR U (swR V rows)=rows:=by
 have hn:=h.n
 refine List.ext_getElem (by rw [swR_len,hn]) fun i h1 h2=>?_
 have hi:i<U+1:=by rw [swR_len] at h1;exact h1
 have e:(swR U (swR V rows))[i]=(swR U (swR V rows)).getD i []:=by rw [List.getD_eq_getElem?_getD,List.getElem?_eq_getElem h1];rfl
 rw [e,swR_getD _ hi,swR_col h hi,List.getD_eq_getElem?_getD,List.getElem?_eq_getElem h2];rfl
namespace H_c_SpVal
theorem zSm {p q:Prop} (k:q) (e:p=q:=by simp only [e1,e2,e3,e4,p1,p2,p3,q1,q2,q3,l1,t0,t1,r1,r2,r3,r4,Nat.zero_add,Nat.reduceMul,Nat.reduceAdd,b1,b2,b3,b4,b5,b6,i1,i2,i3,i4,i5,i6,Nat.reduceBEq,List.set_cons_zero,List.set_cons_succ,Nat.reduceEqDiff,reduceIte,if_true,if_false,ptL_kill,poL_kill,kills_map ptE,kills_map poE,kills_map ratE,ratL_kill,spL_kill,LV.kill,kills];exact rfl):p:=e.mpr k
end H_c_SpVal
open H_c_SpVal in
theorem c_SpVal (a b:Rat) (ha:rl a≤1000) (hb:rl b≤1000) (hab:a≤b):CallP Tryz.prog 140 [spL (a,b)] (bL true):=by
 have hc:=cmpR_le.2 hab
 refine fnP Tryz.func140 ?_
 refine zg10 ?_
 refine cp am1 (c_RValid a (by omega)) ?_
 refine zg1 ?_
 refine st_pure (guardX (v:=true) rfl rfl ((rfl)) rfl) faA ?_
 refine st_pure (guardX (v:=true) rfl rfl ((rfl)) rfl) ldA ?_
 refine st_callP (guardX (v:=true) rfl rfl ((rfl)) rfl) (.cons im0 .nil) (c_RValid b (by omega)) ?_
 refine st_pure rfl (.pickT rfl ((rfl))) ?_
 refine zg1 ?_
 refine st_pure (guardX (v:=true) rfl rfl ((rfl)) rfl) faA ?_
 refine st_pure (guardX (v:=true) rfl rfl ((rfl)) rfl) ldA ?_
 refine st_pure (guardX (v:=true) rfl rfl ((rfl)) rfl) faA ?_
 refine st_pure (guardX (v:=true) rfl rfl ((rfl)) rfl) ldA ?_
 refine st_callP (guardX (v:=true) rfl rfl ((rfl)) rfl) (.cons im0 (.cons im0 .nil)) (c_RCmp a b (by omega)) ?_
 refine st_pure (guardX (v:=true) rfl rfl ((rfl)) rfl) (.bin rfl rfl rfl) ?_
 refine st_pure rfl (.pickT rfl ((rfl))) ?_
 refine zg4 ?_
 refine ret1 (x:=bL (decide (cmpR a b≤0))) rfl ?_
 rw [decide_eq_true hc]
 exact .pure rfl
namespace H_c_SpIns
theorem zSm {p q:Prop} (k:q) (e:p=q:=by simp only [e1,e2,e3,e4,p1,p2,p3,q1,q2,q3,l1,t0,t1,r1,r2,r3,r4,Nat.zero_add,Nat.reduceMul,Nat.reduceAdd,b1,b2,b3,b4,b5,b6,i1,i2,i3,i4,i5,i6,Nat.reduceBEq,List.set_cons_zero,List.set_cons_succ,Nat.reduceEqDiff,reduceIte,if_true,if_false,ptL_kill,poL_kill,kills_map ptE,kills_map poE,kills_map ratE,ratL_kill,spL_kill,LV.kill,kills];exact rfl):p:=e.mpr k
end H_c_SpIns
open H_c_SpIns in
theorem c_SpIns (a b:Rat) (ha:rl a≤1000) (hb:rl b≤1000) (hab:a≤b):CallP Tryz.prog 141 [spL (a,b),spL (a,b)] (bL true):=by
 have hH:∀ t,rl t≤1000→a≤t→t≤b→CallP Tryz.prog 92 [spL (a,b),ratL t] (bL true):=fun t ht h1 h2=>by
  have:=c_SHas (a,b) t (by show rl a+rl t≤_;omega) (by show rl t+rl b≤_;omega)
  unfold hasR at this
  rw [decide_eq_true h1,decide_eq_true h2] at this
  exact this
 refine fnP Tryz.func141 ?_
 refine zg12 ?_
 refine cp am2 (hH a ha (by grind) hab) ?_
 refine zg1 ?_
 refine st_pure (guardX (v:=true) rfl rfl ((rfl)) rfl) ldA ?_
 refine st_pure (guardX (v:=true) rfl rfl ((rfl)) rfl) faA ?_
 refine st_pure (guardX (v:=true) rfl rfl ((rfl)) rfl) ldA ?_
 refine st_callP (guardX (v:=true) rfl rfl ((rfl)) rfl) (.cons im0 (.cons im0 .nil)) (hH b hb hab (by grind)) ?_
 refine st_pure rfl (.pickT rfl ((rfl))) ?_
 refine zg4 ?_
 exact ret1 rfl (.pure rfl)
namespace H_c_Swit
theorem zSm {p q:Prop} (k:q) (e:p=q:=by simp only [e1,e2,e3,e4,p1,p2,p3,q1,q2,q3,l1,t0,t1,r1,r2,r3,r4,Nat.zero_add,Nat.reduceMul,Nat.reduceAdd,b1,b2,b3,b4,b5,b6,i1,i2,i3,i4,i5,i6,Nat.reduceBEq,List.set_cons_zero,List.set_cons_succ,Nat.reduceEqDiff,reduceIte,if_true,if_false,ptL_kill,poL_kill,kills_map ptE,kills_map poE,kills_map ratE,ratL_kill,spL_kill,LV.kill,kills];exact rfl):p:=e.mpr k
end H_c_Swit
open H_c_Swit in
theorem c_Swit (a b:Rat) (ha:rl a≤1000) (hb:rl b≤1000) (hab:a<b):CallP Tryz.prog 81 [spL (a,b),spL (a,b)] (bL true):=by
 have hle:a≤b:=by grind
 have hS:CallP Tryz.prog 133 [ratL a,ratL b] (bL false):=by
  have:=c_RSame a b (by omega)
  rwa [decide_eq_false (by grind)] at this
 refine fnP Tryz.func81 ?_
 refine zg10 ?_
 refine cp am1 (c_SpVal a b ha hb hle) ?_
 refine zg1 ?_
 refine st_pure (guardX (v:=true) rfl rfl ((rfl)) rfl) faA ?_
 refine st_pure (guardX (v:=true) rfl rfl ((rfl)) rfl) ldA ?_
 refine st_pure (guardX (v:=true) rfl rfl ((rfl)) rfl) faA ?_
 refine st_pure (guardX (v:=true) rfl rfl ((rfl)) rfl) ldA ?_
 refine st_callP (guardX (v:=true) rfl rfl ((rfl)) rfl) (.cons im0 (.cons im0 .nil)) (hS) ?_
 refine st_pure (guardX (v:=true) rfl rfl ((rfl)) rfl) (.not rfl) ?_
 refine st_pure rfl (.pickT rfl ((rfl))) ?_
 refine zg1 ?_
 refine st_pure (guardX (v:=true) rfl rfl ((rfl)) rfl) ldA ?_
 refine st_pure (guardX (v:=true) rfl rfl ((rfl)) rfl) ldA ?_
 refine st_callP (guardX (v:=true) rfl rfl ((rfl)) rfl) (.cons im0 (.cons im0 .nil)) (c_SpIns a b ha hb hle) ?_
 refine st_pure rfl (.pickT rfl ((rfl))) ?_
 refine zg4 ?_
 exact ret1 rfl (.pure rfl)
namespace H_c_Ssnd
theorem zSm {p q:Prop} (k:q) (e:p=q:=by simp only [e1,e2,e3,e4,p1,p2,p3,q1,q2,q3,l1,t0,t1,r1,r2,r3,r4,Nat.zero_add,Nat.reduceMul,Nat.reduceAdd,b1,b2,b3,b4,b5,b6,i1,i2,i3,i4,i5,i6,Nat.reduceBEq,prL_kill,kills_map prE,dfr,dfq,take_map_len,map_snoc,len_snoc,List.length_cons,List.length_nil,List.nil_append,List.map_nil,List.take_nil,List.append_nil,List.set_cons_zero,List.set_cons_succ,Nat.reduceEqDiff,reduceIte,if_true,if_false,ptL_kill,poL_kill,kills_map ptE,kills_map poE,kills_map ratE,ratL_kill,spL_kill,LV.kill,kills];exact rfl):p:=e.mpr k
end H_c_Ssnd
open H_c_Ssnd in
theorem c_Ssnd (U V:Nat) (kU kV:List Rat) (rows:List (List PoR)) (hkU:kOK kU U) (hkV:kOK kV V) (hn:rows.length=kU.length-U-1) (hm:∀ r∈rows,r.length=kV.length-V-1) (hq:∀ r∈rows,∀ q∈r,okP 64 q):CallP Tryz.prog 74 [.agg [nI64 U,nI64 V,.list 3 (kU.map ratL),.list 3 (kV.map ratL),.list 1 (rows.map prL)]] (bL true):=by
 have hsp:LV.pure (.agg [nI64 U,nI64 V,.list 3 (kU.map ratL),.list 3 (kV.map ratL),.list 1 (rows.map prL)])=true:=by simp [LV.pure,pures,pures_map ratE,pures_map prE]
 refine fnP Tryz.func74 ?_
 refine zg12 ?_
 refine cp am2 (c_KCheck kU U hkU) ?_
 refine zg2 ?_
 refine st_pure (guardX (v:=true) rfl rfl ((rfl)) rfl) faA ?_
 refine st_pure (guardX (v:=true) rfl rfl ((rfl)) rfl) ldA ?_
 refine st_pure (guardX (v:=true) rfl rfl ((rfl)) rfl) faA ?_
 refine st_pure (guardX (v:=true) rfl rfl ((rfl)) rfl) ldA ?_
 refine st_callP (guardX (v:=true) rfl rfl ((rfl)) rfl) (.cons im0 (.cons im0 .nil)) (c_KCheck kV V hkV) ?_
 refine st_pure (guardX (v:=true) rfl rfl ((rfl)) rfl) (.bin rfl rfl rfl) ?_
 refine st_pure rfl (.pickT rfl ((rfl))) ?_
 refine zg1 ?_
 refine st_pure (guardX (v:=true) rfl rfl ((rfl)) rfl) ldA ?_
 refine st_callP (guardX (v:=true) rfl rfl ((rfl)) rfl) (.cons im0 .nil) (c_SRct U V kU kV rows hkU hkV hn hm hq) ?_
 refine st_pure rfl (.pickT rfl ((rfl))) ?_
 refine zg4 ?_
 exact ret1 rfl (.pure rfl)
namespace H_c_SurCop
theorem zSm {p q:Prop} (k:q) (e:p=q:=by simp only [e1,e2,e3,e4,p1,p2,p3,q1,q2,q3,l1,t0,t1,r1,r2,r3,r4,Nat.zero_add,Nat.reduceMul,Nat.reduceAdd,b1,b2,b3,b4,b5,b6,i1,i2,i3,i4,i5,i6,Nat.reduceBEq,List.set_cons_zero,List.set_cons_succ,Nat.reduceEqDiff,reduceIte,if_true,if_false,ptL_kill,poL_kill,kills_map ptE,kills_map poE,kills_map ratE,ratL_kill,spL_kill,LV.kill,kills];exact rfl):p:=e.mpr k
end H_c_SurCop
open H_c_SurCop in
theorem c_SurCop (q:PoR) (R:Nat) (hR:R≤1000000) (h:okP R q):CallP Tryz.prog 155 [poL q] (poL q):=by
 obtain⟨hp,hw,hpos⟩:=h
 have hA:=c_RAdd q.w 0 (by have:rl 0=1:=rfl;omega)
 rw [Rat.add_zero] at hA
 have hV:CallP Tryz.prog 222 [ptL q.p,ptL ⟨0,0,0⟩] (ptL q.p):=by
  have:=c_VAdd q.p ⟨0,0,0⟩ (R+1) (by omega) ⟨Nat.le_trans hp.1 (by omega),Nat.le_trans hp.2.1 (by omega),Nat.le_trans hp.2.2 (by omega)⟩ ⟨by have:rl 0=1:=rfl;show rl 0≤_;omega,by have:rl 0=1:=rfl;show rl 0≤_;omega,by have:rl 0=1:=rfl;show rl 0≤_;omega⟩
  unfold v3a at this
  simp only [Rat.add_zero] at this
  exact this
 refine fnP Tryz.func155 (ht:=(fun g=>LV.ren_pure g _ (poE.pure _))) ?_
 refine zg7 ?_
 refine wl_regD 9 (by decide +kernel) ?_
 refine zg2 ?_
 refine s0bd bdP0 ?_
 refine cp am2 (hV) ?_
 refine zg2 ?_
 refine st_pure rfl (.build0 SL32 Z32a) ?_
 refine cp am2 (hA) ?_
 refine s0bd (bdPo (p:=q.p) (r:=q.w) rfl rfl) ?_
 refine zg4 ?_
 exact retC [] rfl rfl rfl cs (at_all cs rfl) T122 (.pure pu)
namespace H_c_trsp
theorem zSm {p q:Prop} (k:q) (e:p=q:=by simp only [e1,e2,e3,e4,p1,p2,p3,q1,q2,q3,l1,t0,t1,r1,r2,r3,r4,Nat.zero_add,Nat.reduceMul,Nat.reduceAdd,b1,b2,b3,b4,b5,b6,i1,i2,i3,i4,i5,i6,Nat.reduceBEq,prL,etk,eto,esw,egr,hr0,hrn,kills_map prE,List.length_map,List.take_nil,List.nil_append,len_snoc,prL_kill,kills_map prE,dfr,dfq,take_map_len,map_snoc,len_snoc,List.length_cons,List.length_nil,List.nil_append,List.map_nil,List.take_nil,List.append_nil,List.set_cons_zero,List.set_cons_succ,Nat.reduceEqDiff,reduceIte,if_true,if_false,ptL_kill,poL_kill,kills_map ptE,kills_map poE,kills_map ratE,ratL_kill,spL_kill,LV.kill,kills];exact rfl):p:=e.mpr k
end H_c_trsp
open H_c_trsp in
theorem c_trsp (R U V:Nat) (rows:List (List PoR)) (h:pf R U V rows):CallP Tryz.prog 145 [.list 1 (rows.map prL)] (.list 1 ((swR V rows).map prL)):=by
 have hpr:=pure_lst prE 1 rows
 have hu3:=h.u3
 have hv3:=h.v3
 have hrn:=h.n
 have hr0:=h.r0 (Nat.zero_le U)
 have hsl:=swR_len V rows
 refine fnP Tryz.func145 (ht:=(fun g=>LV.ren_pure g _ (pure_lst prE 1 _))) ?_
 have etk:True:=trivial
 have eto:True:=trivial
 have esw:True:=trivial
 have egr:True:=trivial
 refine zg18 ?_
 refine wl_condY (b:=_) rfl (beq_eq_false_iff_ne.2 (by first | omega | (simp only [List.length_map,hrn];omega))) ?_
 refine zg13 ?_
 refine wl_weak (Weak.own (t:=3) 36 1 rfl rfl) ?_
 refine lp1 (fun(j:Nat) L=>(((((St.mk L.slot (hp [(36,⟨1,((swR V rows).take j).map prL,true⟩)])).put (some 0) (.list 1 (rows.map prL))).put (some 3) (.ref 36 1 0 j)).put (some 13) (nI64 (V+1))).put (some 14) (nI64 j))) (fun j=>j≤V+1) (fun j=>V+1-j) 0 (Nat.zero_le _) ?_
 rintro j L1 hj
 refine zg6 ?_
 refine wl_if rfl (fun h15r h15=>?_) (fun h15r h15=>?_)
 ·have hj2:j<V+1:=by omega
  have eto:(((swR V rows).take j).map prL).take j=((swR V rows).take j).map prL:=List.take_of_length_le (by simp;omega)
  have esw:((swR V rows).take j).map prL++[LV.list 12 ((rows.map fun r=>r.getD j default).map poL)]=((swR V rows).take (j+1)).map prL:=by
   show ((swR V rows).take j).map prL++[prL (rows.map fun r=>r.getD j default)]=_
   rw [map_snoc,swR_take rows hj2]
  refine zg24 ?_
  refine wl_weak (Weak.own (t:=5) 31 12 rfl rfl) ?_
  refine lp1 (fun(i:Nat) L=>(((((((((St.mk L.slot (hp [(36,⟨1,((swR V rows).take j).map prL,true⟩),(31,⟨12,((rows.map fun r=>r.getD j default).take i).map poL,true⟩)])).put (some 0) (.list 1 (rows.map prL))).put (some 3) (.ref 36 1 0 j)).put (some 13) (nI64 (V+1))).put (some 14) (nI64 j)).put (some 4) (nI64 j)).put (some 5) (.ref 31 12 0 i)).put (some 18) (nI64 (U+1))).put (some 19) (nI64 i))) (fun i=>i≤U+1) (fun i=>U+1-i) 0 (Nat.zero_le _) ?_
  rintro i L2 hi
  refine zg6 ?_
  refine wl_if rfl (fun h20r h20=>?_) (fun h20r h20=>?_)
  ·have hi2:i<U+1:=by omega
   have hri:=h.r0 (Nat.le_of_lt_succ hi2)
   have etk:(((rows.map fun r=>r.getD j default).take i).map poL).take i=((rows.map fun r=>r.getD j default).take i).map poL:=List.take_of_length_le (by simp;omega)
   have egr:=mapT (fun r:List PoR=>r.getD j default) rows [] (i:=i) (by omega)
   refine zg20 ?_
   refine st_store rfl (.appX (d:=31) (news:=[poL ((rows.getD i []).getD j default)]) rfl rfl rfl rfl (by simp;omega) (.inl rfl) (by decide) Tryz.underlying111 Tryz.underlying111 Z122 T122 cs B122 (.inl ⟨30,0,_,rfl,by decide,rfl,rfl,by simp,rfl,by simp [pures,poE.pure]⟩) (by simp;omega) (by simp;omega) (by decide)) ?_
   refine zg4 ?_
   refine wl_regW (Weak.kill _ 30) ?_
   refine st_pure rfl (.bin rfl rfl (add1N (by omega))) ?_
   refine zg3 ?_
   exact nx1 (i+1) (by omega)
  ·obtain rfl:i=U+1:=by omega
   rw [(List.take_of_length_le (by rw [List.length_map];omega):(rows.map fun r=>r.getD j default).take (U+1)=(rows.map fun r=>r.getD j default))]
   refine zg5 ?_
   refine wl_regW (Weak.hand (t:=5) (b:=31) poE rfl rfl (by simp;omega)) ?_
   refine zg3 ?_
   refine st_store rfl (.appX (d:=36) (news:=[prL (rows.map fun r=>r.getD j default)]) rfl rfl rfl rfl (by simp only [kills_map prE,List.length_map,List.length_take,List.length_cons,List.length_nil];omega) (.inl rfl) (by decide) Tryz.underlying27 Tryz.underlying27 prZ T111 cs B111 (.inl ⟨35,0,_,rfl,by decide,rfl,rfl,by simp,rfl,by simp [pures,prE.pure]⟩) (by simp only [kills_map prE,List.length_map,List.length_take,List.length_cons,List.length_nil];omega) (by simp only [kills_map prE,List.length_map,List.length_take,List.length_cons,List.length_nil];omega) (by decide)) ?_
   refine zg4 ?_
   refine wl_regW (Weak.kill _ 35) ?_
   refine st_pure rfl (.bin rfl rfl (add1N (by omega))) ?_
   refine zg3 ?_
   exact nx1 (j+1) (by omega)
 ·obtain rfl:j=V+1:=by omega
  rw [List.take_of_length_le (by omega:(swR V rows).length≤V+1)]
  refine zg12 ?_
  exact ret1f [36] rfl rfl (imm_refm prE rfl rfl (swR_len V rows).symm)
end Go.Proofs.YthpfpgfehmhpdaaGreat
namespace Go.Lg
theorem Weak.cellI {L:St} (b:Nat) (bs:List Nat) (h0:bs.contains 0=false) {sz:Nat} {x y:LV} {mt:Bool} (hb:(L.frz bs).heap b=some ⟨sz,[x],mt⟩) (hi:Imm (L.frz bs).heap x y):Weak L ((L.frz bs).setB b (some ⟨sz,[y],mt⟩)):=by
 rintro n W X Z0 a w ⟨hdf,hsz,μ,Z,hc0,hr⟩
 obtain⟨Z',hc,hz⟩:=hc0.widen (frz_le bs h0)
 refine⟨hdf,hsz,μ,Z',?_,fun s=>RepV.mono hz (fun _ _ h=>h) (Frame.refl Z μ w) (hr s)⟩
 have hs:∀ c,((L.frz bs).setB b (some ⟨sz,[y],mt⟩)).heap c=if c=b then some ⟨sz,[y],mt⟩ else(L.frz bs).heap c:=fun c=>rfl
 refine⟨hc.keep,hc.zone,hc.zsup,hc.zsub,hc.inj,hc.own,hc.x0,hc.xlt,hc.x1,fun c id blk g1 g2=>?_,fun c id blk g1 g2=>?_,fun c id g1=>?_⟩
 ·rw [hs] at g2
  split at g2
  ·rename_i e;subst e;cases g2;exact hc.mutz c id ⟨sz,[x],mt⟩ g1 hb
  ·exact hc.mutz c id blk g1 g2
 ·rw [hs] at g2
  split at g2
  ·rename_i e;subst e;cases g2;exact hc.frz c id ⟨sz,[x],mt⟩ g1 hb
  ·exact hc.frz c id blk g1 g2
 ·obtain⟨blk,k1,k2⟩:=hc.heap c id g1
  rw [hs]
  by_cases e:c=b
  ·subst e
   rw [if_pos rfl]
   rw [hb] at k1
   cases k1
   refine⟨_,rfl,?_⟩
   obtain⟨cs,T,part,rest,e1,e2,e3⟩:=k2
   refine⟨cs,T,part,rest,e1,e2,?_⟩
   simp only [RepAll] at e3 ⊢
   obtain⟨c1,c2,q1,q2,q3,q4⟩:=e3
   exact⟨c1,c2,q1,q2,Imm.sound (μ':=μ) hc hi q3,q4⟩
  ·rw [if_neg e];exact⟨blk,k1,k2⟩
end Go.Lg
namespace Go.Proofs.YthpfpgfehmhpdaaGreat
open Go.Lg
theorem slAt {d:Nat} {k:List Rat} {cs:List (List Q4)} {i:Nat} (h:i<cs.length):(cs.map (slL d k))[((i:Nat):Int).toNat]?=some (slL d k (cs.getD i [])):=by
 rw [Int.toNat_natCast,List.getElem?_map,List.getD_eq_getElem?_getD,List.getElem?_eq_getElem h];rfl
theorem slLit {P:Program} {ρ:Operand→LV} {T E:TypeId} {x:Operand} {d n:Nat} {k:List Rat} {C:List Q4} {z:LV} (hT:P.underlying T=some (.slice E)) (hz:ZeroOK P E z) (hzc:z.csize=3) (hza:z.isAgg=true) (hE:TyIs P E 3 true)
  (hx:ρ x=slL n k C):OpA P ρ d (.buildSlice T 1 #[(0,x)]) (.ref d 3 0 1) ⟨3,[C].map (slL n k),true⟩:=by
 have:=OpA.lit (P:=P) (ρ:=ρ) (d:=d) (T:=T) (n:=1) (ps:=#[(0,x)]) hT hz (by rw [hza];exact hE) hzc (by omega) (by omega) (by omega) (by
  intro p hp
  simp only [List.mem_singleton] at hp
  subst hp
  refine⟨by simp,?_,by rw [hx];exact LV.pure_ne_any ((slE n k).pure _),by rw [hx];exact LV.pure_ne_tup ((slE n k).pure _)⟩
  simp [lay,hx,(slE n k).csize,(slE n k).isAgg,hzc,hza])
 simpa [buildL,hx,List.replicate] using this
def hoC (V:Nat) (rows:List (List PoR)):List (List Q4):=(swR V rows).map fun c=>c.map hoQ
theorem hoC_len (V:Nat) (rows:List (List PoR)):(hoC V rows).length=V+1:=by rw [hoC,List.length_map,swR_len]
theorem hoC_get {V:Nat} (rows:List (List PoR)) {j:Nat} (h:j<V+1):(hoC V rows).getD j []=(rows.map fun r=>r.getD j default).map hoQ:=by
 rw [hoC,List.getD_eq_getElem?_getD,List.getElem?_map,swR_at rows h];rfl
theorem hoC_take {V:Nat} (rows:List (List PoR)) {j:Nat} (h:j<V+1):(hoC V rows).take j++[(rows.map fun r=>r.getD j default).map hoQ]=(hoC V rows).take (j+1):=by
 rw [hoC,List.take_add_one,List.getElem?_map,swR_at rows h];rfl
theorem col_ok {R U V:Nat} {rows:List (List PoR)} (h:pf R U V rows) {j:Nat} (hj:j<V+1):∀ q∈(rows.map fun r=>r.getD j default),okP R q:=fun q hq=>by
 obtain⟨r,hr,rfl⟩:=List.mem_map.1 hq
 exact h.ok r hr _ (getD_memP (by rw [h.m r hr];exact hj))
theorem getD_mapP {l:List PoR} {i:Nat} (h:i<l.length):(l.map hoQ).getD i default=hoQ (l.getD i default):=by
 rw [List.getD_eq_getElem?_getD,List.getElem?_map,List.getD_eq_getElem?_getD,List.getElem?_eq_getElem h];rfl
def kk (k:List Rat):Nat→List Rat
 | 0=>[]
 | _+1=>k
def uu (u:Nat):Nat→Nat
 | 0=>0
 | _+1=>u
theorem rep_srfL (a b d e:LV) (Z:Nat→Prop) (μ:Nat→Option Nat) (w:World) (cs:List Value) (h:Rep Z μ w (.agg [a,b,.v (.slice none 0 0),d,e]) cs):Rep Z μ w (.agg [a,b,.list 3 [],d,e]) cs:=by
 simp only [Rep,RepFs] at h ⊢
 obtain⟨c1,c2,e1,e2,e3,c3,c4,e4,e5,e6,c5,c6,e7,e8,e9,e10⟩:=h
 exact⟨c1,c2,e1,e2,e3,c3,c4,e4,e5,e6,c5,c6,e7,e8,⟨none,0,0,e9.1,rfl,Nat.le_refl _,.inl trivial,rfl⟩,e10⟩
namespace H_c_alU
theorem zSm {p q:Prop} (k:q) (e:p=q:=by simp only [e1,e2,e3,e4,p1,p2,p3,q1,q2,q3,l1,t0,t1,r1,r2,r3,r4,Nat.zero_add,Nat.reduceMul,Nat.reduceAdd,b1,b2,b3,b4,b5,b6,i1,i2,i3,i4,i5,i6,Nat.reduceBEq,prL,ecj,etk,eto,egr,esw,hsl,ecl,fz0,frz_c,kills_map prE,List.length_map,take_map_len,map_snoc,len_snoc,List.length_cons,List.length_nil,List.nil_append,List.map_nil,List.take_nil,List.append_nil,q4L_kill,kills_map q4E,slL_kill,kills_map (slE U kU),prL_kill,kills_map prE,dfr,dfq,take_map_len,map_snoc,len_snoc,List.length_cons,List.length_nil,List.nil_append,List.map_nil,List.take_nil,List.append_nil,List.set_cons_zero,List.set_cons_succ,Nat.reduceEqDiff,reduceIte,if_true,if_false,ptL_kill,poL_kill,kills_map ptE,kills_map poE,kills_map ratE,ratL_kill,spL_kill,LV.kill,kills];exact rfl):p:=e.mpr k
end H_c_alU
open H_c_alU in
theorem c_alU (R U V:Nat) (kU kV:List Rat) (rows:List (List PoR)) (h:pf R U V rows) (hku:kU.length≤100) (hkv:kV.length≤100) (hkur:∀ x∈kU,rl x≤1000) (hkvr:∀ x∈kV,rl x≤1000) (hR:R≤200000):CallP Tryz.prog 143 [.agg [nI64 U,nI64 V,.list 3 (kU.map ratL),.list 3 (kV.map ratL),.list 1 (rows.map prL)]] (.list 3 ((hoC V rows).map (slL U kU))):=by
 have hsp:LV.pure (.agg [nI64 U,nI64 V,.list 3 (kU.map ratL),.list 3 (kV.map ratL),.list 1 (rows.map prL)])=true:=by simp [LV.pure,pures,pures_map ratE,pures_map prE]
 have hpr:=pure_lst prE 1 rows
 have hps:=pure_lst prE 1 (swR V rows)
 have hpu:=pure_lst ratE 3 kU
 have hpv:=pure_lst ratE 3 kV
 have hu3:=h.u3
 have hv3:=h.v3
 have hrn:=h.n
 have hr0:=h.r0 (Nat.zero_le U)
 have hsl:=swR_len V rows
 have hhl:=hoC_len V rows
 have hT:=c_trsp R U V rows h
 refine fnP Tryz.func143 (ht:=(fun g=>LV.ren_pure g _ (pure_lst (slE U kU) 3 _))) ?_
 have ecj:True:=trivial
 have etk:True:=trivial
 have eto:True:=trivial
 have egr:True:=trivial
 have esw:True:=trivial
 have ecl:True:=trivial
 refine zg16 ?_
 refine cp am1 (hT) ?_
 refine zg5 ?_
 refine wl_weak (Weak.own (t:=3) 39 3 rfl rfl) ?_
 refine lp1 (fun(j:Nat) L=>((((((St.mk L.slot (hp [(1,⟨5,[.agg [nI64 U,nI64 V,.list 3 (kU.map ratL),.list 3 (kV.map ratL),.list 1 (rows.map prL)]],true⟩),(39,⟨3,((hoC V rows).take j).map (slL U kU),true⟩)])).put (some 1) (.eptr 1 5 0 0)).put (some 3) (.ref 39 3 0 j)).put (some 11) (.list 1 ((swR V rows).map prL))).put (some 12) (nI64 (V+1))).put (some 13) (nI64 j))) (fun j=>j≤V+1) (fun j=>V+1-j) 0 (Nat.zero_le _) ?_
 rintro j L1 hj
 refine zg6 ?_
 refine wl_if rfl (fun h14r h14=>?_) (fun h14r h14=>?_)
 ·have hj2:j<V+1:=by omega
  have ecj:=swR_getD (V:=V) rows hj2
  have ecl:(rows.map fun r=>r.getD j default).length=U+1:=by rw [List.length_map,hrn]
  have hcl:((rows.map fun r=>r.getD j default).map hoQ).length=U+1:=by rw [List.length_map,List.length_map,hrn]
  have eto:(((hoC V rows).take j).map (slL U kU)).take j=((hoC V rows).take j).map (slL U kU):=List.take_of_length_le (by simp;omega)
  have esw:((hoC V rows).take j).map (slL U kU)++[slL U kU ((rows.map fun r=>r.getD j default).map hoQ)]=((hoC V rows).take (j+1)).map (slL U kU):=by rw [map_snoc,hoC_take rows hj2]
  refine zg31 ?_
  refine wl_weak ((Weak.cell 6 rfl (fun Z μ w cs h=>rep_net 33 12 _ _ Z μ w cs h)).trans (Weak.newB _ 33 12 rfl)) ?_
  refine lp1 (fun(i:Nat) L=>((((((((((St.mk L.slot (hp [(1,⟨5,[.agg [nI64 U,nI64 V,.list 3 (kU.map ratL),.list 3 (kV.map ratL),.list 1 (rows.map prL)]],true⟩),(39,⟨3,((hoC V rows).take j).map (slL U kU),true⟩),(6,⟨3,[.agg [nI64 U,.list 3 (kU.map ratL),.ref 33 12 0 i]],true⟩),(33,⟨12,(((rows.map fun r=>r.getD j default).map hoQ).take i).map q4L,true⟩)])).put (some 1) (.eptr 1 5 0 0)).put (some 3) (.ref 39 3 0 j)).put (some 11) (.list 1 ((swR V rows).map prL))).put (some 12) (nI64 (V+1))).put (some 13) (nI64 j)).put (some 6) (.eptr 6 3 0 0)).put (some 22) (.list 12 ((rows.map fun r=>r.getD j default).map poL))).put (some 23) (nI64 (U+1))).put (some 24) (nI64 i))) (fun i=>i≤U+1) (fun i=>U+1-i) 0 (Nat.zero_le _) ?_
  rintro i L2 hi
  refine zg6 ?_
  refine wl_if rfl (fun h25r h25=>?_) (fun h25r h25=>?_)
  ·have hi2:i<U+1:=by omega
   have hok:=col_ok h hj2 _ (getD_memP (po:=(rows.map fun r=>r.getD j default)) (j:=i) (by omega))
   have etk:((((rows.map fun r=>r.getD j default).map hoQ).take i).map q4L).take i=(((rows.map fun r=>r.getD j default).map hoQ).take i).map q4L:=List.take_of_length_le (by simp;omega)
   have egr:=mapT hoQ (rows.map fun r=>r.getD j default) default (i:=i) (by omega)
   have hOf:CallP Tryz.prog 215 [poL ((rows.map fun r=>r.getD j default).getD i default)] (q4L (hoQ ((rows.map fun r=>r.getD j default).getD i default))):=c_Of2 ((rows.map fun r=>r.getD j default).getD i default) R (by omega) hok
   refine zg12 ?_
   refine wl_regD 5 (by decide +kernel) ?_
   refine zg3 ?_
   refine cp am1 (hOf) ?_
   refine zg1 ?_
   refine st_store rfl (.appX (d:=33) (news:=[q4L (hoQ ((rows.map fun r=>r.getD j default).getD i default))]) rfl rfl rfl rfl (by simp;omega) (.inl rfl) (by decide) Tryz.underlying152 Tryz.underlying152 Z198 T198 cs B198 (.inl ⟨32,0,_,rfl,by decide,rfl,rfl,by simp,rfl,by simp [pures,q4E.pure]⟩) (by simp;omega) (by simp;omega) (by decide)) ?_
   refine zg5 ?_
   refine wl_regW ((Weak.kill _ 8).trans (Weak.kill _ 32)) ?_
   refine st_pure rfl (.bin rfl rfl (add1N (by omega))) ?_
   refine zg3 ?_
   exact nx1 (i+1) (by omega)
  ·obtain rfl:i=U+1:=by omega
   rw [(List.take_of_length_le (by omega):((rows.map fun r=>r.getD j default).map hoQ).take (U+1)=((rows.map fun r=>r.getD j default).map hoQ))]
   refine zg5 ?_
   refine wl_regW ((Weak.cellI 6 [33] rfl rfl (.agg (.cons (.pure rfl) (.cons (.pure hpu) (.cons (imm_refm (l:=((rows.map fun r=>r.getD j default).map hoQ)) q4E rfl rfl hcl.symm) .nil))))).trans (Weak.kill _ 33)) ?_
   refine zSm ?_
   refine zg2 ?_
   refine zSm ?_
   refine st_alloc rfl rfl (slLit Tryz.underlying196 Z154 rfl rfl T154 rfl) ?_
   refine st_store rfl (.appX (d:=39) (news:=[slL U kU ((rows.map fun r=>r.getD j default).map hoQ)]) rfl rfl rfl rfl (by simp only [kills_map (slE U kU),List.length_map,List.length_take,List.length_cons,List.length_nil];omega) (.inl rfl) (by decide) Tryz.underlying196 Tryz.underlying196 Z154 T154 rfl B154 (.inl ⟨38,0,_,rfl,by decide,rfl,rfl,by simp,rfl,by simp [pures,(slE U kU).pure]⟩) (by simp only [kills_map (slE U kU),List.length_map,List.length_take,List.length_cons,List.length_nil];omega) (by simp only [kills_map (slE U kU),List.length_map,List.length_take,List.length_cons,List.length_nil];omega) (by decide)) ?_
   refine zg4 ?_
   refine wl_regW ((Weak.kill _ 6).trans (Weak.kill _ 38)) ?_
   refine st_pure rfl (.bin rfl rfl (add1N (by omega))) ?_
   refine zg3 ?_
   exact nx1 (j+1) (by omega)
 ·obtain rfl:j=V+1:=by omega
  rw [List.take_of_length_le (by rw [hoC_len];omega:(hoC V rows).length≤V+1)]
  refine zg12 ?_
  exact ret1f [39] rfl rfl (imm_refm (slE U kU) rfl rfl (by rw [hoC_len]))
end Go.Proofs.YthpfpgfehmhpdaaGreat
end
section
set_option linter.unusedVariables false
set_option linter.unusedSimpArgs false
namespace Go.Lg
section
variable {P:Program} {ops:Array Oper}
inductive StepV (P:Program) (ops:Array Oper) (o:Oper) (L L':St):Prop
 | base (h:Step P false ops o L L')
 | hand {M:St} {t b sz len:Nat} {vals:List LV} {m:Bool} (h:Step P false ops o L M) (ht:M.slot t=.ref b sz 0 len) (hb:M.heap b=some ⟨sz,vals,m⟩) (hp:pures vals=true) (hl:len=vals.length) (h0:b≠0)
   (e:L'=(M.put (some t) (.list sz vals)).kill b)
section
variable {D:Array Bool} {L:St} {K:St→Prop} {fuel:Nat}
end
section
variable {W w:World} {X Z0:Nat→Prop} {a:Act} {n:Nat}
end
end
def wideC:Op→Bool
 | .extract ..=>true
 | .assign _=>true
 | op=>wideOp op
section
variable {P:Program} {H:Heap} {ρ ρ':Operand→LV}
theorem OpV.congC {d:Nat} {op:Op} {r:LV} {fr:List (Nat × Blk)} (hov:OpV P H ρ d op r fr) (hk:wideC op=true) (hr:∀ x∈op.operands,ρ' x=ρ x):OpV P H ρ' d op r fr:=by
 cases hov with
 | pure hp =>
  by_cases hpl:plainOp op=true
  ·exact .pure (hp.cong hpl hr)
  ·by_cases hbq:∃ T ps,op=.build T ps
   ·obtain⟨T,ps,rfl⟩:=hbq
    exact .pure (hp.congB hr)
   ·cases hp with
    | ext2 hf hname hb hn he hx h1' h1 h2 =>
     refine .pure (.ext2 hf hname hb hn he ?_ h1' h1 h2)
     rw [←hx]
     exact List.map_congr_left fun x hxm=>hr x (mem_args hxm)
    | assign x=>rw [←hr x (by simp [Op.operands])];exact .pure (.assign x)
    | extract ht hq hne=>exact .pure (.extract ((hr _ (by simp [Op.operands])).trans ht) hq hne)
    | build=>exact absurd ⟨_,_,rfl⟩ hbq
    | buildA=>exact absurd ⟨_,_,rfl⟩ hbq
    | _=>first | (exfalso;exact hpl rfl) | (exfalso;revert hk hpl;simp [wideC,wideOp,plainOp])
 | alloc ha=>exact .alloc (ha.cong hr)
 | call hc =>
  cases hc with
  | func ha hkk hlen hpu =>
   refine .call (.func ?_ hkk hlen hpu)
   rw [show (_:Array Operand).toList.map ρ'=_ from List.map_congr_left fun x hxm=>hr x (mem_args hxm)]
   exact ha
  | clo=>exfalso;revert hk;simp [wideC,wideOp,plainOp]
  | mk=>exfalso;revert hk;simp [wideC,wideOp,plainOp]
theorem opvP {f:FuncId} {xs:Array Operand} {tas:Array TypeId} {args:List LV} {r:LV} {d:Nat} (ha:ImmL H (xs.toList.map ρ) args) (hk:CallP P f args r):OpV P H ρ d (.call ⟨.value (.func f),xs,tas⟩) r []:=by
 have:=OpV.call (op:=.call ⟨.value (.func f),xs,tas⟩) (OpC.func (d:=d) ha hk.1 (by simp) (by simp))
 rw [hk.2] at this
 exact this
end
section
variable {P:Program} {ops:Array Oper}
theorem step_commC {L L2:St} {d:Nat} {v:LV} {o:Oper} (hv:∀ b,v.kill b=v) (hk:wideC o.op=true) (hl:d∉o.looksAt ops) (hd:o.dst≠some d) (h:Step P false ops o (L.put (some d) v) L2) :
  ∃ L1,Step P false ops o L L1∧L2=L1.put (some d) v∧∀ t,o.dst≠some t→(∀ b,(L.slot t).kill b=L.slot t)→L1.slot t=L.slot t:=by
 have hev:=ev_put (L:=L) (v:=v) hl
 have hsl:∀ (M:St) (r:LV) t,M.slot t=L.slot t→o.dst≠some t→(M.put o.dst r).slot t=L.slot t:=fun M r t hM hne=>by
  cases hh:o.dst with
  | none=>exact hM
  | some e=>rw [put_slot,if_neg (fun q=>hne (by rw [hh,q]))];exact hM
 cases h with
 | skip hg hL=>exact⟨L.put o.dst (.tup []),.skip (guard_put hl hg) rfl,by rw [hL,put_commO L hd],fun t ht _=>hsl L _ t rfl ht⟩
 | @val r fr H1 hg hle hfr hov hL =>
  obtain⟨dst,op,ty,pos,after,gd⟩:=o
  have hev':∀ x∈op.operands,L.ev x=(L.put (some d) v).ev x:=fun x hx=>(hev x hx).symm
  have hov2:OpV P H1 L.ev (dst.getD 0) op r fr:=hov.congC hk hev'
  refine⟨⟨(L.put dst r).slot,H1⟩,.val (guard_put hl hg) hle hfr hov2 rfl,?_,fun t ht _=>hsl L r t rfl ht⟩
  rw [hL]
  have:=put_commO L hd v r
  exact congrArg (fun M=>St.mk (St.slot M) H1) this
 | st hg hot =>
  obtain⟨dst,op,ty,pos,after,gd⟩:=o
  cases hot with
  | store hp hb hs hm hi hy hput hT hne =>
   rename_i T p x b sz i o' blk y y'
   have e1:=hev p (by simp [Op.operands])
   have e2:=hev x (by simp [Op.operands])
   rw [e1] at hp
   rw [e2] at hput hT hne
   refine⟨_,.st (guard_put hl hg) (.store hp hb hs hm hi hy hput hT hne),?_,fun t ht _=>?_⟩
   ·exact put_commO (L.setB b _) hd v .any
   ·exact hsl (L.setB b _) .any t rfl ht
  | appX hx hb hs hm hlen hbd hb0 hT hU hz hE hzs hby hy hsz h63 hs0 =>
   rename_i T U E E' d' b sz len blk x y news z by_
   have e1:=hev x (by simp [Op.operands,Call.operands])
   have e2:=hev y (by simp [Op.operands,Call.operands])
   rw [e1] at hx
   rw [e2] at hy
   refine⟨_,.st (guard_put hl hg) (.appX hx hb hs hm hlen hbd hb0 hT hU hz hE hzs hby hy hsz h63 hs0),?_,fun t ht hf=>?_⟩
   ·rw [kill_put L hv]
    exact put_commO ((L.kill b).setB d' _) hd v _
   ·exact hsl ((L.kill b).setB d' _) _ t (hf b) ht
  | app0X hx hbd hT hU hz hE hzs hby hy hn hsz h63 hs0 =>
   rename_i T U E E' d' sz x y news z by_
   have e1:=hev x (by simp [Op.operands,Call.operands])
   have e2:=hev y (by simp [Op.operands,Call.operands])
   rw [e1] at hx
   rw [e2] at hy
   refine⟨_,.st (guard_put hl hg) (.app0X hx hbd hT hU hz hE hzs hby hy hn hsz h63 hs0),?_,fun t ht hf=>?_⟩
   ·exact put_commO (L.setB d' _) hd v _
   ·exact hsl (L.setB d' _) _ t rfl ht
  | _=>exfalso;revert hk;simp [wideC,wideOp,plainOp]
 | stM hdr hg hom =>
  obtain⟨dst,op,ty,pos,after,gd⟩:=o
  cases hom with
  | call hb hm hp ha hn hkk hm' hp' =>
   rename_i f xs ats args r b blk blk'
   have em:xs.toList.map (L.put (some d) v).ev=xs.toList.map L.ev:=List.map_congr_left fun x hxm=>hev x (mem_args hxm)
   rw [em] at ha hn
   refine⟨_,.stM hdr (guard_put hl hg) (.call hb hm hp ha hn hkk hm' hp'),?_,fun t ht _=>?_⟩
   ·exact put_commO (L.setB b _) hd v _
   ·exact hsl (L.setB b _) _ t rfl ht
  | appz hT hU hz hE hzs hb hx hy hbd h0 hs0 hm h63 =>
   rename_i T U E x y z k kl sz by_ n d'
   have e1:=hev x (by simp [Op.operands,Call.operands])
   have e2:=hev y (by simp [Op.operands,Call.operands])
   rw [e1] at hx
   rw [e2] at hy
   refine⟨_,.stM hdr (guard_put hl hg) (.appz hT hU hz hE hzs hb hx hy hbd h0 hs0 hm h63),?_,fun t ht _=>?_⟩
   ·exact put_commO (L.setB d' _) hd v _
   ·exact hsl (L.setB d' _) _ t rfl ht
def hoistOkC (ops:Array Oper) (i:Nat) (D:Array Bool):Bool :=
 D.size==ops.size && !D.getD i true && (dirs (ops.getD i default)).all (fun j=>D.getD j false) && (ops.getD i default).guard.isNone && wideC (ops.getD i default).op &&
 (List.range ops.size).all fun j=>j==i || D.getD j true || (wideC (ops.getD j default).op && ((ops.getD j default).dst != (ops.getD i default).dst) &&
  (match (ops.getD i default).dst with | some d=>!((ops.getD j default).looksAt ops).contains d || (dirs (ops.getD j default)).contains i | none=>false) &&
  (match (ops.getD j default).dst with | some e=>!((ops.getD i default).looksAt ops).contains e | none=>true))
theorem any_hoistC {m:Nat} {K:St→Prop} {L:St} {D:Array Bool} {d:Nat} {v:LV} (i:Nat) {o:Oper} (ho:ops[i]?=some o) (hdst:o.dst=some d) (hok:hoistOkC ops i D=true) (hv:OpV P (fun _=>none) L.ev d o.op v [])
  (hfv:∀ b,v.kill b=v) (hfo:firmAll L o.op.operands.toList)
  (h:anyL P ops m (D.setIfInBounds i true) (L.put (some d) v) K):anyL P ops (m+1) D L K:=by
 have getD_of:∀ i o,ops[i]?=some o→ops.getD i default=o:=fun i o h=>by rw [Array.getD_eq_getD_getElem?,h];rfl
 have hin:i<ops.size:=(Array.getElem?_eq_some_iff.1 ho).1
 let C:Array Bool→Prop:=fun D=>D.size=ops.size∧D.getD i false=false∧(∀ j∈dirs o,D.getD j false=true)∧∀ j oj,ops[j]?=some oj→j≠i→D.getD j false=false →
  wideC oj.op=true∧oj.dst≠some d∧(d∈oj.looksAt ops→i∈dirs oj)∧∀ e,oj.dst=some e→e∉o.looksAt ops
 unfold hoistOkC at hok
 rw [getD_of i o ho,hdst] at hok
 simp only [Bool.and_eq_true,List.all_eq_true,List.mem_range,Bool.or_eq_true,beq_iff_eq,Bool.not_eq_true',Option.isNone_iff_eq_none,bne_iff_ne,ne_eq] at hok
 obtain⟨⟨⟨⟨⟨hsz,hni⟩,hrd⟩,hgd⟩,hslim⟩,hall⟩:=hok
 have hC:C D:=by
  refine⟨hsz,by rw [getD_sz (by omega) false true];exact hni,hrd,fun j oj hj hne hDj=>?_⟩
  have hjl:j<ops.size:=(Array.getElem?_eq_some_iff.1 hj).1
  have:=hall j hjl
  rw [getD_of j oj hj] at this
  rcases this with(q | q) | q
  ·exact absurd q hne
  ·rw [getD_sz (by omega) true false,hDj] at q;cases q
  ·obtain⟨⟨⟨q1,q2⟩,q3⟩,q4⟩:=q
   refine⟨q1,q2,fun hm=>?_,fun e he hm=>?_⟩
   ·rcases q3 with q | q
    ·rw [List.contains_iff_mem.2 hm] at q;cases q
    ·exact List.contains_iff_mem.1 q
   ·rw [he] at q4
    simp only [Bool.not_eq_true'] at q4
    rw [List.contains_iff_mem.2 hm] at q4;cases q4
 have hstepi:∀ L:St,OpV P (fun _=>none) L.ev d o.op v []→Step P false ops o L (L.put (some d) v):=fun L hv=>by
  refine .val (fr:=[]) (H1:=L.heap) (r:=v) (by unfold GuardIs;rw [hgd]) (Heap.le_refl _) (fun _ _ hh=>by cases hh) (by rw [hdst];exact hv.le fun b blk h=>by cases h) ?_
  rw [hdst];rfl
 clear hsz hni hrd hall
 have hfo':∀ x∈o.op.operands,∀ b,(L.ev x).kill b=L.ev x:=fun x hx=>firmAll_mem hfo x (Array.mem_toList_iff.2 hx)
 clear hfo
 have main:∀ (n:Nat) (D:Array Bool) (L:St),C D→OpV P (fun _=>none) L.ev d o.op v []→(∀ x∈o.op.operands,∀ b,(L.ev x).kill b=L.ev x)→anyL P ops n (D.setIfInBounds i true) (L.put (some d) v) K→anyL P ops (n+1) D L K:=by
  intro n
  induction n with
  | zero =>
   intro D L ⟨c1,c2,c3,c4⟩ hv _ hh
   have hri:i∈Region.ready .any ops D:=(ready_spec c1).2 ⟨o,ho,by rw [getD_sz (by omega) true false];exact c2,c3⟩
   refine⟨fun hr=>(by rw [hr] at hri;cases hri),fun j hj=>?_⟩
   by_cases hji:j=i
   ·subst hji
    exact⟨o,_,ho,hstepi L hv,hh⟩
   ·exfalso
    obtain⟨oj,h1,h2,h3⟩:=(ready_spec c1).1 hj
    have:j∈Region.ready .any ops (D.setIfInBounds i true):=(ready_spec (by simpa using c1)).2 ⟨oj,h1,by
     rw [Array.getD_eq_getD_getElem?,Array.getElem?_setIfInBounds_ne (Ne.symm hji),←Array.getD_eq_getD_getElem?];exact h2,fun k hk=>by
     by_cases hki:i=k
     ·subst hki
      rw [Array.getD_eq_getD_getElem?,Array.getElem?_setIfInBounds_self_of_lt (by omega)];rfl
     ·rw [Array.getD_eq_getD_getElem?,Array.getElem?_setIfInBounds_ne hki,←Array.getD_eq_getD_getElem?];exact h3 k hk⟩
    rw [hh.1] at this;cases this
  | succ n ih =>
   intro D L ⟨c1,c2,c3,c4⟩ hv hfo hh
   have hri:i∈Region.ready .any ops D:=(ready_spec c1).2 ⟨o,ho,by rw [getD_sz (by omega) true false];exact c2,c3⟩
   refine⟨fun hr=>(by rw [hr] at hri;cases hri),fun j hj=>?_⟩
   by_cases hji:j=i
   ·subst hji
    exact⟨o,_,ho,hstepi L hv,hh⟩
   ·obtain⟨oj,h1,h2,h3⟩:=(ready_spec c1).1 hj
    have hjl:j<ops.size:=(Array.getElem?_eq_some_iff.1 h1).1
    have hDj:D.getD j false=false:=by rw [getD_sz (by omega) false true];exact h2
    have hji2:j∈Region.ready .any ops (D.setIfInBounds i true):=(ready_spec (by simpa using c1)).2 ⟨oj,h1,by
     rw [Array.getD_eq_getD_getElem?,Array.getElem?_setIfInBounds_ne (Ne.symm hji),←Array.getD_eq_getD_getElem?];exact h2,fun k hk=>by
     by_cases hki:i=k
     ·subst hki
      rw [Array.getD_eq_getD_getElem?,Array.getElem?_setIfInBounds_self_of_lt (by omega)];rfl
     ·rw [Array.getD_eq_getD_getElem?,Array.getElem?_setIfInBounds_ne hki,←Array.getD_eq_getD_getElem?];exact h3 k hk⟩
    obtain⟨oj',L2,g1,g2,g3⟩:=hh.2 j hji2
    rw [h1] at g1;cases g1
    obtain⟨k1,k2,k3,k4⟩:=c4 j oj h1 hji hDj
    have hnl:d∉oj.looksAt ops:=fun hm=>by
     have:=h3 i (k3 hm)
     rw [c2] at this;cases this
    obtain⟨L1,s1,s2,s3⟩:=step_commC hfv k1 hnl k2 g2
    have hsame:∀ x∈o.op.operands,L1.ev x=L.ev x:=fun x hx=>by
     cases x with
     | tmp t =>
      have ht:t∈o.looksAt ops:=by
       unfold Oper.looksAt
       simp only [List.mem_append,List.mem_filterMap]
       exact .inl ⟨.tmp t,by simpa using hx,rfl⟩
      exact s3 t (fun q=>k4 t q ht) (hfo _ hx)
     | const v=>rfl
     | func f=>rfl
     | global f=>rfl
    refine⟨oj,L1,h1,s1,ih (D.setIfInBounds j true) L1 ⟨by simpa using c1,?_,fun k hk=>?_,fun k ok hk hne hDk=>?_⟩ (hv.congC hslim hsame) (fun x hx b=>by rw [hsame x hx];exact hfo x hx b) ?_⟩
    ·rw [Array.getD_eq_getD_getElem?,Array.getElem?_setIfInBounds_ne hji,←Array.getD_eq_getD_getElem?];exact c2
    ·by_cases hjk:j=k
     ·subst hjk
      rw [Array.getD_eq_getD_getElem?,Array.getElem?_setIfInBounds_self_of_lt (by omega)];rfl
     ·rw [Array.getD_eq_getD_getElem?,Array.getElem?_setIfInBounds_ne hjk,←Array.getD_eq_getD_getElem?];exact c3 k hk
    ·by_cases hjk:j=k
     ·subst hjk
      rw [Array.getD_eq_getD_getElem?,Array.getElem?_setIfInBounds_self_of_lt (by omega)] at hDk
      cases hDk
     ·rw [Array.getD_eq_getD_getElem?,Array.getElem?_setIfInBounds_ne hjk,←Array.getD_eq_getD_getElem?] at hDk
      exact c4 k ok hk hne hDk
    ·rw [←s2]
     have:(D.setIfInBounds j true).setIfInBounds i true=(D.setIfInBounds i true).setIfInBounds j true:=by
      refine Array.ext_getElem? fun k=>?_
      by_cases q1:i=k
      ·subst q1
       rw [Array.getElem?_setIfInBounds_self_of_lt (by simp;omega),Array.getElem?_setIfInBounds_ne hji,Array.getElem?_setIfInBounds_self_of_lt (by omega)]
      ·by_cases q2:j=k
       ·subst q2
        rw [Array.getElem?_setIfInBounds_ne q1,Array.getElem?_setIfInBounds_self_of_lt (by omega),Array.getElem?_setIfInBounds_self_of_lt (by simp;omega)]
       ·rw [Array.getElem?_setIfInBounds_ne q1,Array.getElem?_setIfInBounds_ne q2,Array.getElem?_setIfInBounds_ne q2,Array.getElem?_setIfInBounds_ne q1]
     rw [this];exact g3
 exact main m D L hC hv hfo' h
end
end Go.Lg
end
section
set_option linter.unusedVariables false
set_option linter.unusedSimpArgs false
set_option maxHeartbeats 8000000
set_option maxRecDepth 100000
attribute [local irreducible] Go.Lg.opsL Go.Lg.wpL Go.Lg.thenL Go.Lg.blockL
namespace Go.Proofs.YthpfpgfehmhpdaaGreat
open Go.Lg
namespace H_c_inU
theorem zSm {p q:Prop} (k:q) (e:p=q:=by simp only [e1,e2,e3,e4,p1,p2,p3,q1,q2,q3,l1,t0,t1,r1,r2,r3,r4,Nat.zero_add,Nat.reduceMul,Nat.reduceAdd,b1,b2,b3,b4,b5,b6,i1,i2,i3,i4,i5,i6,Nat.reduceBEq,prL,eto,etk,esw,egr,egq,egl,ecl,hsl,hhl,fz0,frz_c,kills_map prE,List.length_map,take_map_len,map_snoc,len_snoc,List.length_cons,List.length_nil,List.nil_append,List.map_nil,List.take_nil,List.append_nil,q4L_kill,kills_map q4E,slL_kill,kills_map (slE U kU),prL_kill,kills_map prE,dfr,dfq,take_map_len,map_snoc,len_snoc,List.length_cons,List.length_nil,List.nil_append,List.map_nil,List.take_nil,List.append_nil,List.set_cons_zero,List.set_cons_succ,Nat.reduceEqDiff,reduceIte,if_true,if_false,ptL_kill,poL_kill,kills_map ptE,kills_map poE,kills_map ratE,ratL_kill,spL_kill,LV.kill,kills];exact rfl):p:=e.mpr k
end H_c_inU
open H_c_inU in
theorem c_inU (R U V:Nat) (kU kV:List Rat) (rows:List (List PoR)) (h:pf R U V rows) (hku0:0<kU.length) (hku:kU.length≤100) (hkv:kV.length≤100) (hkur:∀ x∈kU,rl x≤1000) (hkvr:∀ x∈kV,rl x≤1000) (hR:R≤200000) (f:Nat) (cap:List LV) (hcp:pures cap=true) (hcs:∀ x∈cap,x.csize=1∧x.isAgg=false) (hf:∀ C:List Q4,C.length=U+1→(∀ q∈C,bd4 (2*R) q)→CallP Tryz.prog f ([slL U kU C]++cap) (slL U kU C)):CallP Tryz.prog 82 [.agg [nI64 U,nI64 V,.list 3 (kU.map ratL),.list 3 (kV.map ratL),.list 1 (rows.map prL)],.clo f cap] (.agg [nI64 U,nI64 V,.list 3 (kU.map ratL),.list 3 (kV.map ratL),.list 1 (rows.map prL)]):=by
 have hsp:LV.pure (.agg [nI64 U,nI64 V,.list 3 (kU.map ratL),.list 3 (kV.map ratL),.list 1 (rows.map prL)])=true:=by simp [LV.pure,pures,pures_map ratE,pures_map prE]
 have hpr:=pure_lst prE 1 rows
 have hps:=pure_lst prE 1 (swR V rows)
 have hpu:=pure_lst ratE 3 kU
 have hpv:=pure_lst ratE 3 kV
 have hu3:=h.u3
 have hv3:=h.v3
 have hrn:=h.n
 have hr0:=h.r0 (Nat.zero_le U)
 have hsl:=swR_len V rows
 have hhl:=hoC_len V rows
 have hT:=c_trsp R U V rows h
 have hSp:=pure_lst (slE U kU) 3 (hoC V rows)
 have hpcl:LV.pure (.clo f cap)=true:=by simpa [LV.pure] using hcp
 have hCU:=c_SpCop kU (by omega) (fun x hx=>Nat.le_trans (hkur x hx) (by decide))
 have hCV:=c_SpCop kV (by omega) (fun x hx=>Nat.le_trans (hkvr x hx) (by decide))
 have hAl:=c_alU R U V kU kV rows h hku hkv hkur hkvr hR
 have hT2:=c_trsp R V U (swR V rows) (swR_pf h)
 rw [swR_swR h] at hT2
 have hpsw:=pure_lst prE 1 (swR V rows)
 refine fnP Tryz.func82 (ht:=(fun g=>LV.ren_pure g _ (by simp [LV.pure,pures,pures_map ratE,pures_map prE]))) ?_
 have eto:True:=trivial
 have etk:True:=trivial
 have esw:True:=trivial
 have egr:True:=trivial
 have egq:True:=trivial
 have egl:True:=trivial
 have ecl:True:=trivial
 refine zg7 ?_
 refine wl_regD 7 (by decide +kernel) ?_
 refine zg4 ?_
 refine cp am1 (hCV) ?_
 refine zg14 ?_
 refine cp am1 (hAl) ?_
 refine zg5 ?_
 refine wl_weak (((Weak.kill _ 2).trans (Weak.cell 5 rfl (fun Z μ w cs h=>rep_srfL _ _ _ _ Z μ w cs h))).trans (Weak.own (t:=6) 52 1 rfl rfl)) ?_
 refine lp1 (fun(j:Nat) L=>((((((((St.mk L.slot (hp [(4,⟨5,[.agg [.v (.int .i64 0),.v (.int .i64 0),.v (.slice none 0 0),.v (.slice none 0 0),.v (.slice none 0 0)]],true⟩),(5,⟨5,[.agg [nI64 (uu U j),nI64 V,.list 3 ((kk kU j).map ratL),.list 3 (kV.map ratL),.v (.slice none 0 0)]],true⟩),(52,⟨1,((swR V rows).take j).map prL,true⟩)])).put (some 1) (.clo f cap)).put (some 4) (.eptr 4 5 0 0)).put (some 5) (.eptr 5 5 0 0)).put (some 6) (.ref 52 1 0 j)).put (some 20) (.list 3 ((hoC V rows).map (slL U kU)))).put (some 21) (nI64 (V+1))).put (some 22) (nI64 j))) (fun j=>j≤V+1) (fun j=>V+1-j) 0 (Nat.zero_le _) ?_
 rintro j L1 hj
 refine zg6 ?_
 refine wl_if rfl (fun h23r h23=>?_) (fun h23r h23=>?_)
 ·have hj2:j<V+1:=by omega
  have egl:=hoC_get (V:=V) rows hj2
  have ecl:(rows.map fun r=>r.getD j default).length=U+1:=by rw [List.length_map,hrn]
  have hcl:((rows.map fun r=>r.getD j default).map hoQ).length=U+1:=by rw [List.length_map,List.length_map,hrn]
  have eto:(((swR V rows).take j).map prL).take j=((swR V rows).take j).map prL:=List.take_of_length_le (by simp;omega)
  have esw:((swR V rows).take j).map prL++[LV.list 12 ((rows.map fun r=>r.getD j default).map poL)]=((swR V rows).take (j+1)).map prL:=by
   show ((swR V rows).take j).map prL++[prL (rows.map fun r=>r.getD j default)]=_
   rw [map_snoc,swR_take rows hj2]
  have hc:=hf ((rows.map fun r=>r.getD j default).map hoQ) hcl (fun q hq=>by
   obtain⟨p,hp9,rfl⟩:=List.mem_map.1 hq
   exact hoQ_bd (col_ok h hj2 p hp9))
  have hp9:LV.pure (slL U kU ((rows.map fun r=>r.getD j default).map hoQ))=true:=(slE U kU).pure _
  have hph:=pure_lst q4E 12 ((rows.map fun r=>r.getD j default).map hoQ)
  refine zg6 ?_
  refine st_pure rfl (.idxL rfl Tryz.underlying196 T154 rfl (by omega) (slAt (i:=j) (by omega)) rfl) ?_
  refine zSm ?_
  refine st_pure rfl (.ldbx rfl hp9 rfl rfl) ?_
  refine zg8 ?_
  refine st_opc [] rfl rfl (.clo (f:=f) (cap:=cap) (args:=[(slL U kU ((rows.map fun r=>r.getD j default).map hoQ))]) rfl (.cons (.pure hp9) .nil) ⟨hcp,hcs⟩ hc.1 (by decide) (fun _ h=>by cases h)) (hc.2 _) ?_
  refine zg5 ?_
  refine wl_regAW (Weak.boxp (t:=9) (b:=9) rfl rfl rfl rfl hp9) ?_
  refine zSm ?_
  refine any_hoistC 0 rfl rfl (by decide +kernel) (.pure faA) fmV fmA ?_
  refine any_hoistC 1 rfl rfl (by decide +kernel) (.pure ldA) fmV fmA ?_
  refine any_hoistC 2 rfl rfl (by decide +kernel) (.pure faA) fmV fmA ?_
  refine any_hoistC 3 rfl rfl (by decide +kernel) (.pure (.ldbx rfl hpu rfl rfl)) (fun b=>show LV.kill b (.list 3 (kU.map ratL))=(.list 3 (kU.map ratL)) from LV.kill_pure b _ hpu) fmA ?_
  refine any_hoistC 4 rfl rfl (by decide +kernel) (opvP (.cons (.pure hpu) .nil) hCU) (fun b=>show LV.kill b (.list 3 (kU.map ratL))=(.list 3 (kU.map ratL)) from LV.kill_pure b _ hpu) (And.intro (fun _=>rfl) (And.intro (fun b=>show LV.kill b (.list 3 (kU.map ratL))=(.list 3 (kU.map ratL)) from LV.kill_pure b _ hpu) trivial)) ?_
  refine any_1 5 _ (by decide +kernel) rfl ?_
  refine zg1 ?_
  refine st_nil ?_
  refine any_1 6 _ (by decide +kernel) rfl ?_
  refine zg1 ?_
  refine st_nil ?_
  refine any_1 7 _ (by decide +kernel) rfl ?_
  refine zg1 ?_
  refine st_nil ?_
  refine any_1 8 _ (by decide +kernel) rfl ?_
  refine zg1 ?_
  refine st_nil ?_
  refine any_0 (by decide +kernel) ?_
  refine zg10 ?_
  refine st_pure rfl (.ldbx rfl hph rfl rfl) ?_
  refine zg5 ?_
  refine wl_weak ((Weak.kill _ 8).trans (Weak.own (t:=10) 47 12 rfl rfl)) ?_
  refine lp1 (fun(i:Nat) L=>((((((((((((St.mk L.slot (hp [(4,⟨5,[.agg [.v (.int .i64 0),.v (.int .i64 0),.v (.slice none 0 0),.v (.slice none 0 0),.v (.slice none 0 0)]],true⟩),(5,⟨5,[.agg [nI64 U,nI64 V,.list 3 (kU.map ratL),.list 3 (kV.map ratL),.v (.slice none 0 0)]],true⟩),(52,⟨1,((swR V rows).take j).map prL,true⟩),(47,⟨12,((rows.map fun r=>r.getD j default).take i).map poL,true⟩)])).put (some 1) (.clo f cap)).put (some 4) (.eptr 4 5 0 0)).put (some 5) (.eptr 5 5 0 0)).put (some 6) (.ref 52 1 0 j)).put (some 20) (.list 3 ((hoC V rows).map (slL U kU)))).put (some 21) (nI64 (V+1))).put (some 22) (nI64 j)).put (some 10) (.ref 47 12 0 i)).put (some 37) (.list 12 (((rows.map fun r=>r.getD j default).map hoQ).map q4L))).put (some 38) (nI64 (U+1))).put (some 39) (nI64 i))) (fun i=>i≤U+1) (fun i=>U+1-i) 0 (Nat.zero_le _) ?_
  rintro i L2 hi
  refine zg6 ?_
  refine wl_if rfl (fun h40r h40=>?_) (fun h40r h40=>?_)
  ·have hi2:i<U+1:=by omega
   have hok:=col_ok h hj2 _ (getD_memP (po:=(rows.map fun r=>r.getD j default)) (j:=i) (by omega))
   have etk:(((rows.map fun r=>r.getD j default).take i).map poL).take i=((rows.map fun r=>r.getD j default).take i).map poL:=List.take_of_length_le (by simp;omega)
   have egq:=getD_mapP (l:=(rows.map fun r=>r.getD j default)) (i:=i) (by omega)
   have egr:(rows.map fun r=>r.getD j default).take i++[((rows.map fun r=>r.getD j default).getD i default)]=(rows.map fun r=>r.getD j default).take (i+1):=by
    have:=mapT (fun q:PoR=>q) (rows.map fun r=>r.getD j default) default (i:=i) (by omega)
    rwa [List.map_id'] at this
   have hFP:CallP Tryz.prog 144 [q4L (hoQ ((rows.map fun r=>r.getD j default).getD i default))] (poL ((rows.map fun r=>r.getD j default).getD i default)):=by
    obtain⟨z1,z2,z3,z4⟩:=hoQ_bd hok
    have:=c_FourP (hoQ ((rows.map fun r=>r.getD j default).getD i default)).x (hoQ ((rows.map fun r=>r.getD j default).getD i default)).y (hoQ ((rows.map fun r=>r.getD j default).getD i default)).z (hoQ ((rows.map fun r=>r.getD j default).getD i default)).w (2*R) (by omega) z1 z2 z3 z4 hok.2.2
    have e:(⟨⟨(hoQ ((rows.map fun r=>r.getD j default).getD i default)).x/(hoQ ((rows.map fun r=>r.getD j default).getD i default)).w,(hoQ ((rows.map fun r=>r.getD j default).getD i default)).y/(hoQ ((rows.map fun r=>r.getD j default).getD i default)).w,(hoQ ((rows.map fun r=>r.getD j default).getD i default)).z/(hoQ ((rows.map fun r=>r.getD j default).getD i default)).w⟩,(hoQ ((rows.map fun r=>r.getD j default).getD i default)).w⟩:PoR)=((rows.map fun r=>r.getD j default).getD i default):=hoQ_back hok.2.2
    rw [e] at this
    exact this
   refine zg15 ?_
   refine zSm ?_
   refine st_callP rfl (.cons (.pure (q4E.pure _)) .nil) (hFP) ?_
   refine zg1 ?_
   refine st_store rfl (.appX (d:=47) (news:=[poL ((rows.map fun r=>r.getD j default).getD i default)]) rfl rfl rfl rfl (by simp;omega) (.inl rfl) (by decide) Tryz.underlying111 Tryz.underlying111 Z122 T122 cs B122 (.inl ⟨46,0,_,rfl,by decide,rfl,rfl,by simp,rfl,by simp [pures,poE.pure]⟩) (by simp;omega) (by simp;omega) (by decide)) ?_
   refine zg4 ?_
   refine wl_regW ((Weak.kill _ 12).trans (Weak.kill _ 46)) ?_
   refine st_pure rfl (.bin rfl rfl (add1N (by omega))) ?_
   refine zg3 ?_
   exact nx1 (i+1) (by omega)
  ·obtain rfl:i=U+1:=by omega
   rw [(List.take_of_length_le (by omega):(rows.map fun r=>r.getD j default).take (U+1)=(rows.map fun r=>r.getD j default))]
   refine zg5 ?_
   refine wl_regW (Weak.hand (t:=10) (b:=47) poE rfl rfl (by omega)) ?_
   refine zg3 ?_
   refine st_store rfl (.appX (d:=52) (news:=[prL (rows.map fun r=>r.getD j default)]) rfl rfl rfl rfl (by simp only [kills_map prE,List.length_map,List.length_take,List.length_cons,List.length_nil];omega) (.inl rfl) (by decide) Tryz.underlying27 Tryz.underlying27 prZ T111 cs B111 (.inl ⟨51,0,_,rfl,by decide,rfl,rfl,by simp,rfl,by simp [pures,prE.pure]⟩) (by simp only [kills_map prE,List.length_map,List.length_take,List.length_cons,List.length_nil];omega) (by simp only [kills_map prE,List.length_map,List.length_take,List.length_cons,List.length_nil];omega) (by decide)) ?_
   refine zg4 ?_
   refine wl_regW (Weak.kill _ 51) ?_
   refine st_pure rfl (.bin rfl rfl (add1N (by omega))) ?_
   refine zg3 ?_
   exact nx1 (j+1) (by omega)
 ·obtain rfl:j=V+1:=by omega
  rw [List.take_of_length_le (by omega:(swR V rows).length≤V+1)]
  refine zg8 ?_
  refine st_callPf [52] rfl rfl (.cons (imm_refm prE rfl rfl hsl.symm) .nil) (hT2) ?_
  refine zg11 ?_
  exact retC [] rfl rfl rfl cs (at_all cs rfl) T29 (.pure hsp)
namespace H_c_sEach
theorem zSm {p q:Prop} (k:q) (e:p=q:=by simp only [e1,e2,e3,e4,p1,p2,p3,q1,q2,q3,l1,t0,t1,r1,r2,r3,r4,Nat.zero_add,Nat.reduceMul,Nat.reduceAdd,b1,b2,b3,b4,b5,b6,i1,i2,i3,i4,i5,i6,Nat.reduceBEq,prL,eto,etk,esw,egr,erl,fz0,frz_c,hr0,hrn,kills_map prE,List.length_map,take_map_len,map_snoc,len_snoc,List.length_cons,List.length_nil,List.nil_append,List.map_nil,List.take_nil,List.append_nil,prL_kill,kills_map prE,dfr,dfq,take_map_len,map_snoc,len_snoc,List.length_cons,List.length_nil,List.nil_append,List.map_nil,List.take_nil,List.append_nil,List.set_cons_zero,List.set_cons_succ,Nat.reduceEqDiff,reduceIte,if_true,if_false,ptL_kill,poL_kill,kills_map ptE,kills_map poE,kills_map ratE,ratL_kill,spL_kill,LV.kill,kills];exact rfl):p:=e.mpr k
end H_c_sEach
open H_c_sEach in
theorem c_sEach (R U V:Nat) (kU kV:List Rat) (rows:List (List PoR)) (h:pf R U V rows) (hku:kU.length≤100) (hkv:kV.length≤100) (hkur:∀ x∈kU,rl x≤1000) (hkvr:∀ x∈kV,rl x≤1000) (hR:R≤200000) (f:Nat) (hf:∀ q,okP R q→CallP Tryz.prog f [poL q] (poL q)):CallP Tryz.prog 154 [.agg [nI64 U,nI64 V,.list 3 (kU.map ratL),.list 3 (kV.map ratL),.list 1 (rows.map prL)],.clo f []] (.agg [nI64 U,nI64 V,.list 3 (kU.map ratL),.list 3 (kV.map ratL),.list 1 (rows.map prL)]):=by
 have hsp:LV.pure (.agg [nI64 U,nI64 V,.list 3 (kU.map ratL),.list 3 (kV.map ratL),.list 1 (rows.map prL)])=true:=by simp [LV.pure,pures,pures_map ratE,pures_map prE]
 have hpr:=pure_lst prE 1 rows
 have hps:=pure_lst prE 1 (swR V rows)
 have hpu:=pure_lst ratE 3 kU
 have hpv:=pure_lst ratE 3 kV
 have hu3:=h.u3
 have hv3:=h.v3
 have hrn:=h.n
 have hr0:=h.r0 (Nat.zero_le U)
 have hsl:=swR_len V rows
 have hhl:=hoC_len V rows
 have hT:=c_trsp R U V rows h
 have hCU:=c_SpCop kU (by omega) (fun x hx=>Nat.le_trans (hkur x hx) (by decide))
 have hCV:=c_SpCop kV (by omega) (fun x hx=>Nat.le_trans (hkvr x hx) (by decide))
 refine fnP Tryz.func154 (ht:=(fun g=>LV.ren_pure g _ (by simp [LV.pure,pures,pures_map ratE,pures_map prE]))) ?_
 have eto:True:=trivial
 have etk:True:=trivial
 have esw:True:=trivial
 have egr:True:=trivial
 have erl:True:=trivial
 refine zg7 ?_
 refine wl_regD 12 (by decide +kernel) ?_
 refine zg6 ?_
 refine cp am1 (hCU) ?_
 refine zg2 ?_
 refine cp am1 (hCV) ?_
 refine zg15 ?_
 refine wl_weak (((Weak.kill _ 2).trans (Weak.cell 5 rfl (fun Z μ w cs h=>rep_srf 46 1 _ _ _ _ Z μ w cs h))).trans (Weak.newB _ 46 1 rfl)) ?_
 refine lp1 (fun(i:Nat) L=>(((((((St.mk L.slot (hp [(4,⟨5,[.agg [.v (.int .i64 0),.v (.int .i64 0),.v (.slice none 0 0),.v (.slice none 0 0),.v (.slice none 0 0)]],true⟩),(5,⟨5,[.agg [nI64 U,nI64 V,.list 3 (kU.map ratL),.list 3 (kV.map ratL),.ref 46 1 0 i]],true⟩),(46,⟨1,(rows.take i).map prL,true⟩)])).put (some 1) (.clo f [])).put (some 4) (.eptr 4 5 0 0)).put (some 5) (.eptr 5 5 0 0)).put (some 23) (.list 1 (rows.map prL))).put (some 24) (nI64 (U+1))).put (some 25) (nI64 i))) (fun i=>i≤U+1) (fun i=>U+1-i) 0 (Nat.zero_le _) ?_
 rintro i L1 hi
 refine zg6 ?_
 refine wl_if rfl (fun h26r h26=>?_) (fun h26r h26=>?_)
 ·have hi2:i<U+1:=by omega
  have erl:=h.r0 (Nat.le_of_lt_succ hi2)
  have eto:((rows.take i).map prL).take i=(rows.take i).map prL:=List.take_of_length_le (by simp;omega)
  have esw:(rows.take i).map prL++[LV.list 12 ((rows.getD i []).map poL)]=(rows.take (i+1)).map prL:=by
   show (rows.take i).map prL++[prL (rows.getD i [])]=_
   have:=mapT (fun r:List PoR=>r) rows [] (i:=i) (by omega)
   rw [List.map_id'] at this
   rw [map_snoc,this]
  refine zg25 ?_
  refine wl_weak (Weak.own (t:=8) 40 12 rfl rfl) ?_
  refine lp1 (fun(j:Nat) L=>(((((((((((St.mk L.slot (hp [(4,⟨5,[.agg [.v (.int .i64 0),.v (.int .i64 0),.v (.slice none 0 0),.v (.slice none 0 0),.v (.slice none 0 0)]],true⟩),(5,⟨5,[.agg [nI64 U,nI64 V,.list 3 (kU.map ratL),.list 3 (kV.map ratL),.ref 46 1 0 i]],true⟩),(46,⟨1,(rows.take i).map prL,true⟩),(40,⟨12,((rows.getD i []).take j).map poL,true⟩)])).put (some 1) (.clo f [])).put (some 4) (.eptr 4 5 0 0)).put (some 5) (.eptr 5 5 0 0)).put (some 23) (.list 1 (rows.map prL))).put (some 24) (nI64 (U+1))).put (some 25) (nI64 i)).put (some 8) (.ref 40 12 0 j)).put (some 29) (.list 12 ((rows.getD i []).map poL))).put (some 30) (nI64 (V+1))).put (some 31) (nI64 j))) (fun j=>j≤V+1) (fun j=>V+1-j) 0 (Nat.zero_le _) ?_
  rintro j L2 hj
  refine zg6 ?_
  refine wl_if rfl (fun h32r h32=>?_) (fun h32r h32=>?_)
  ·have hj2:j<V+1:=by omega
   have hok:=h.ok _ (getR_mem (by omega)) _ (getD_memP (po:=(rows.getD i [])) (j:=j) (by omega))
   have hc:=hf _ hok
   have etk:(((rows.getD i []).take j).map poL).take j=((rows.getD i []).take j).map poL:=List.take_of_length_le (by simp;omega)
   have egr:(rows.getD i []).take j++[((rows.getD i []).getD j default)]=(rows.getD i []).take (j+1):=by
    have:=mapT (fun q:PoR=>q) (rows.getD i []) default (i:=j) (by omega)
    rwa [List.map_id'] at this
   refine zg16 ?_
   refine st_opc [] rfl rfl (.clo (f:=f) (cap:=[]) (args:=[poL ((rows.getD i []).getD j default)]) rfl (.cons im0 .nil) ⟨rfl,fun _ h=>by cases h⟩ hc.1 (by decide) (fun _ h=>by cases h)) (hc.2 _) ?_
   refine zg1 ?_
   refine st_store rfl (.appX (d:=40) (news:=[poL ((rows.getD i []).getD j default)]) rfl rfl rfl rfl (by simp only [kills_map poE,List.length_map,List.length_take,List.length_cons,List.length_nil];omega) (.inl rfl) (by decide) Tryz.underlying111 Tryz.underlying111 Z122 T122 cs B122 (.inl ⟨39,0,_,rfl,by decide,rfl,rfl,by simp,rfl,by simp [pures,poE.pure]⟩) (by simp only [kills_map poE,List.length_map,List.length_take,List.length_cons,List.length_nil];omega) (by simp only [kills_map poE,List.length_map,List.length_take,List.length_cons,List.length_nil];omega) (by decide)) ?_
   refine zg4 ?_
   refine wl_regW ((Weak.kill _ 10).trans (Weak.kill _ 39)) ?_
   refine st_pure rfl (.bin rfl rfl (add1N (by omega))) ?_
   refine zg3 ?_
   exact nx1 (j+1) (by omega)
  ·obtain rfl:j=V+1:=by omega
   rw [(List.take_of_length_le (by omega):(rows.getD i []).take (V+1)=(rows.getD i []))]
   refine zg5 ?_
   refine wl_regW (Weak.hand (t:=8) (b:=40) poE rfl rfl (by omega)) ?_
   refine zg4 ?_
   refine st_store rfl (.appX (d:=46) (news:=[prL (rows.getD i [])]) rfl rfl rfl rfl (by simp only [kills_map prE,List.length_map,List.length_take,List.length_cons,List.length_nil];omega) (.inl rfl) (by decide) Tryz.underlying27 Tryz.underlying27 prZ T111 cs B111 (.inl ⟨45,0,_,rfl,by decide,rfl,rfl,by simp,rfl,by simp [pures,prE.pure]⟩) (by simp only [kills_map prE,List.length_map,List.length_take,List.length_cons,List.length_nil];omega) (by simp only [kills_map prE,List.length_map,List.length_take,List.length_cons,List.length_nil];omega) (by decide)) ?_
   refine zg5 ?_
   refine wl_regW (Weak.kill _ 45) ?_
   refine st_pure rfl (.bin rfl rfl (add1N (by omega))) ?_
   refine zg3 ?_
   exact nx1 (i+1) (by omega)
 ·obtain rfl:i=U+1:=by omega
  rw [List.take_of_length_le (by omega:rows.length≤U+1)]
  refine zg12 ?_
  exact retC [46] rfl rfl rfl cs (at_all cs rfl) T29 (.agg (.cons (.pure rfl) (.cons (.pure rfl) (.cons (.pure hpu) (.cons (.pure hpv) (.cons (imm_refm (l:=rows) prE rfl rfl hrn.symm) .nil))))))
namespace H_c_Swp1
theorem zSm {p q:Prop} (k:q) (e:p=q:=by simp only [e1,e2,e3,e4,p1,p2,p3,q1,q2,q3,l1,t0,t1,r1,r2,r3,r4,Nat.zero_add,Nat.reduceMul,Nat.reduceAdd,b1,b2,b3,b4,b5,b6,i1,i2,i3,i4,i5,i6,Nat.reduceBEq,prL,dfr,List.length_map,prL_kill,kills_map prE,dfr,dfq,take_map_len,map_snoc,len_snoc,List.length_cons,List.length_nil,List.nil_append,List.map_nil,List.take_nil,List.append_nil,List.set_cons_zero,List.set_cons_succ,Nat.reduceEqDiff,reduceIte,if_true,if_false,ptL_kill,poL_kill,kills_map ptE,kills_map poE,kills_map ratE,ratL_kill,spL_kill,LV.kill,kills];exact rfl):p:=e.mpr k
end H_c_Swp1
open H_c_Swp1 in
theorem c_Swp1 (U V:Nat) (kU kV:List Rat) (rows:List (List PoR)) (r:List PoR) (h0:0<rows.length) (hr:r.length=(rows.getD 0 []).length):CallP Tryz.prog 153 [prL r,.boxp (.agg [nI64 U,nI64 V,.list 3 (kU.map ratL),.list 3 (kV.map ratL),.list 1 (rows.map prL)])] (bL false):=by
 have hsp:LV.pure (.agg [nI64 U,nI64 V,.list 3 (kU.map ratL),.list 3 (kV.map ratL),.list 1 (rows.map prL)])=true:=by simp [LV.pure,pures,pures_map ratE,pures_map prE]
 have hpr2:=prE.pure r
 have hpr3:=pures_map prE rows
 have hpr4:=pure_lst prE 1 rows
 refine fnP Tryz.func153 ?_
 refine zg14 ?_
 refine st_pure rfl (.bin rfl rfl ((neqF (by first | omega | (simp only [List.length_map,prL,dfr,t0];omega))))) ?_
 refine zg4 ?_
 exact ret1 rfl (.pure rfl)
namespace H_c_sSwap
theorem zSm {p q:Prop} (k:q) (e:p=q:=by simp only [e1,e2,e3,e4,p1,p2,p3,q1,q2,q3,l1,t0,t1,r1,r2,r3,r4,Nat.zero_add,Nat.reduceMul,Nat.reduceAdd,b1,b2,b3,b4,b5,b6,i1,i2,i3,i4,i5,i6,Nat.reduceBEq,prL,any_ff,hrn,List.length_map,prL_kill,kills_map prE,dfr,dfq,take_map_len,map_snoc,len_snoc,List.length_cons,List.length_nil,List.nil_append,List.map_nil,List.take_nil,List.append_nil,List.set_cons_zero,List.set_cons_succ,Nat.reduceEqDiff,reduceIte,if_true,if_false,ptL_kill,poL_kill,kills_map ptE,kills_map poE,kills_map ratE,ratL_kill,spL_kill,LV.kill,kills];exact rfl):p:=e.mpr k
end H_c_sSwap
open H_c_sSwap in
theorem c_sSwap (R U V:Nat) (kU kV:List Rat) (rows:List (List PoR)) (h:pf R U V rows) (hku:kU.length≤100) (hkv:kV.length≤100) (hkur:∀ x∈kU,rl x≤1000) (hkvr:∀ x∈kV,rl x≤1000) (hR:R≤200000):CallP Tryz.prog 85 [.agg [nI64 U,nI64 V,.list 3 (kU.map ratL),.list 3 (kV.map ratL),.list 1 (rows.map prL)]] (.agg [nI64 V,nI64 U,.list 3 (kV.map ratL),.list 3 (kU.map ratL),.list 1 ((swR V rows).map prL)]):=by
 have hsp:LV.pure (.agg [nI64 U,nI64 V,.list 3 (kU.map ratL),.list 3 (kV.map ratL),.list 1 (rows.map prL)])=true:=by simp [LV.pure,pures,pures_map ratE,pures_map prE]
 have hpr:=pure_lst prE 1 rows
 have hps:=pure_lst prE 1 (swR V rows)
 have hpu:=pure_lst ratE 3 kU
 have hpv:=pure_lst ratE 3 kV
 have hu3:=h.u3
 have hv3:=h.v3
 have hrn:=h.n
 have hr0:=h.r0 (Nat.zero_le U)
 have hsl:=swR_len V rows
 have hhl:=hoC_len V rows
 have hT:=c_trsp R U V rows h
 have hCU:=c_SpCop kU (by omega) (fun x hx=>Nat.le_trans (hkur x hx) (by decide))
 have hCV:=c_SpCop kV (by omega) (fun x hx=>Nat.le_trans (hkvr x hx) (by decide))
 have hspX:LV.pure (.agg [nI64 V,nI64 U,.list 3 (kV.map ratL),.list 3 (kU.map ratL),.list 1 ((swR V rows).map prL)])=true:=by simp [LV.pure,pures,pures_map ratE,pures_map prE]
 have hbp:pures [.boxp (.agg [nI64 U,nI64 V,.list 3 (kU.map ratL),.list 3 (kV.map ratL),.list 1 (rows.map prL)])]=true:=by simp [pures,LV.pure,pures_map ratE,pures_map prE]
 have hEa:=c_sEach R U V kU kV rows h hku hkv hkur hkvr hR 155 (fun q hq=>c_SurCop q R (by omega) hq)
 refine fnP Tryz.func85 (ht:=(fun g=>LV.ren_pure g _ (by simp [LV.pure,pures,pures_map ratE,pures_map prE]))) ?_
 refine zg14 ?_
 refine st_pure (guardX (v:=true) rfl rfl ((decide_eq_true (by first | omega | (simp only [List.length_map,hrn];omega)))) rfl) faA ?_
 refine st_pure (guardX (v:=true) rfl rfl ((decide_eq_true (by first | omega | (simp only [List.length_map,hrn];omega)))) rfl) ldA ?_
 refine st_opc [1] (guardX (v:=true) rfl rfl ((decide_eq_true (by first | omega | (simp only [List.length_map,hrn];omega)))) rfl) rfl (.mk (caps:=[.boxp (.agg [nI64 U,nI64 V,.list 3 (kU.map ratL),.list 3 (kV.map ratL),.list 1 (rows.map prL)])]) (.cons (.eptr rfl rfl rfl cs (at_all cs rfl) hsp rfl) .nil) (fun x hx=>by rw [List.mem_singleton.1 hx];exact⟨rfl,rfl⟩)) rfl ?_
 refine st_callP (guardX (v:=true) rfl rfl ((decide_eq_true (by first | omega | (simp only [List.length_map,hrn];omega)))) rfl) (.cons (.pure (pure_lst prE 1 _)) (.cons (.pure (show LV.pure (.clo 153 [.boxp (.agg [nI64 U,nI64 V,.list 3 (kU.map ratL),.list 3 (kV.map ratL),.list 1 (rows.map prL)])])=true by simpa [LV.pure] using hbp)) .nil)) (c_HasW 153 [.boxp (.agg [nI64 U,nI64 V,.list 3 (kU.map ratL),.list 3 (kV.map ratL),.list 1 (rows.map prL)])] hbp (fun x hx=>by rw [List.mem_singleton.1 hx];exact⟨rfl,rfl⟩) (fun _=>false) rows (by omega) (fun x hx=>c_Swp1 U V kU kV rows x (by omega) (by rw [h.m x hx,hr0]))) ?_
 refine st_pure rfl (.pickT rfl ((decide_eq_true (by first | omega | (simp only [List.length_map,hrn];omega))))) ?_
 refine zg2 ?_
 refine wl_condY (b:=_) rfl (by first | rfl | exact any_ff _) ?_
 refine zg5 ?_
 refine cp am2 (hEa) ?_
 refine zg5 ?_
 refine wl_regD 12 (by decide +kernel) ?_
 refine zg10 ?_
 refine cp am1 (hT) ?_
 refine st_pure rfl (.build (zs:=[.v (.int .i64 0),.v (.int .i64 0),.v (.slice none 0 0),.v (.slice none 0 0),.v (.slice none 0 0)]) SL29 Z29 (by simp only [List.forall_mem_cons];exact⟨⟨_,rfl,rfl,ne0⟩,⟨_,rfl,rfl,ne0⟩,⟨_,rfl,rfl,ne0⟩,⟨_,rfl,rfl,ne0⟩,⟨_,rfl,rfl,ne0⟩,fun _ h=>by cases h⟩)) ?_
 refine zg4 ?_
 exact retC [] rfl rfl rfl cs (at_all cs rfl) T29 (.pure hspX)
namespace H_c_Cut1
theorem zSm {p q:Prop} (k:q) (e:p=q:=by simp only [e1,e2,e3,e4,p1,p2,p3,q1,q2,q3,l1,t0,t1,r1,r2,r3,r4,Nat.zero_add,Nat.reduceMul,Nat.reduceAdd,b1,b2,b3,b4,b5,b6,i1,i2,i3,i4,i5,i6,Nat.reduceBEq,slL_kill,q4L_kill,kills_map q4E,slL_kill,prL_kill,kills_map prE,dfr,dfq,take_map_len,map_snoc,len_snoc,List.length_cons,List.length_nil,List.nil_append,List.map_nil,List.take_nil,List.append_nil,List.set_cons_zero,List.set_cons_succ,Nat.reduceEqDiff,reduceIte,if_true,if_false,ptL_kill,poL_kill,kills_map ptE,kills_map poE,kills_map ratE,ratL_kill,spL_kill,LV.kill,kills];exact rfl):p:=e.mpr k
end H_c_Cut1
open H_c_Cut1 in
theorem c_Cut1 (d:Nat) (a b:Rat) (C:List Q4) (R:Nat) (h9:d≤6) (hab:a<b) (ha:rl a≤100) (hb:rl b≤100) (hC:C.length=d+1) (hR1:1≤R) (hR:R≤10000000) (hcR:∀ q∈C,bd4 R q):CallP Tryz.prog 83 [slL d (kn2 d a b) C,.boxp (.agg [ratL a,ratL b])] (slL d (kn2 d a b) C):=by
 have hpk:=pure_lst ratE 3 (kn2 d a b)
 have hpq:=pure_lst q4E 12 C
 have hps:=(slE d (kn2 d a b)).pure C
 have hCu:CallP Tryz.prog 84 [slL d (kn2 d a b) C,ratL a,ratL b] (slL d (kn2 d a b) C):=c_SpCut d a b C R h9 hab ha hb hC hR1 hR hcR
 refine fnP Tryz.func83 (ht:=(fun g=>LV.ren_pure g _ ((slE _ _).pure _))) ?_
 refine zg8 ?_
 refine st_pure rfl (.loadE rfl rfl rfl rfl rfl (at_all rfl rfl) T154) ?_
 refine zg4 ?_
 refine st_callP rfl (.cons (.pure hps) (.cons im0 (.cons im0 .nil))) (hCu) ?_
 refine zg4 ?_
 exact retC [] rfl rfl rfl rfl (at_all rfl rfl) T154 (.pure hps)
namespace H_c_Cut2s
theorem zSm {p q:Prop} (k:q) (e:p=q:=by simp only [e1,e2,e3,e4,p1,p2,p3,q1,q2,q3,l1,t0,t1,r1,r2,r3,r4,Nat.zero_add,Nat.reduceMul,Nat.reduceAdd,b1,b2,b3,b4,b5,b6,i1,i2,i3,i4,i5,i6,Nat.reduceBEq,slL_kill,q4L_kill,kills_map q4E,slL_kill,prL_kill,kills_map prE,dfr,dfq,take_map_len,map_snoc,len_snoc,List.length_cons,List.length_nil,List.nil_append,List.map_nil,List.take_nil,List.append_nil,List.set_cons_zero,List.set_cons_succ,Nat.reduceEqDiff,reduceIte,if_true,if_false,ptL_kill,poL_kill,kills_map ptE,kills_map poE,kills_map ratE,ratL_kill,spL_kill,LV.kill,kills];exact rfl):p:=e.mpr k
end H_c_Cut2s
open H_c_Cut2s in
theorem c_Cut2s (d:Nat) (a b:Rat) (C:List Q4) (R:Nat) (h9:d≤6) (hab:a<b) (ha:rl a≤100) (hb:rl b≤100) (hC:C.length=d+1) (hR1:1≤R) (hR:R≤10000000) (hcR:∀ q∈C,bd4 R q):CallP Tryz.prog 86 [slL d (kn2 d a b) C,.boxp (.agg [ratL a,ratL b])] (slL d (kn2 d a b) C):=by
 have hpk:=pure_lst ratE 3 (kn2 d a b)
 have hpq:=pure_lst q4E 12 C
 have hps:=(slE d (kn2 d a b)).pure C
 have hCu:CallP Tryz.prog 84 [slL d (kn2 d a b) C,ratL a,ratL b] (slL d (kn2 d a b) C):=c_SpCut d a b C R h9 hab ha hb hC hR1 hR hcR
 refine fnP Tryz.func86 (ht:=(fun g=>LV.ren_pure g _ ((slE _ _).pure _))) ?_
 refine zg8 ?_
 refine st_pure rfl (.loadE rfl rfl rfl rfl rfl (at_all rfl rfl) T154) ?_
 refine zg4 ?_
 refine st_callP rfl (.cons (.pure hps) (.cons im0 (.cons im0 .nil))) (hCu) ?_
 refine zg4 ?_
 exact retC [] rfl rfl rfl rfl (at_all rfl rfl) T154 (.pure hps)
theorem kn2_tm (d:Nat) (a b t:Rat):tmN (kn2 d a b) t (kn2 d a b).length=(if a=t then d+1 else 0)+(if b=t then d+1 else 0):=by
 have h:=tm_app (List.replicate (d+1) a) (List.replicate (d+1) b) t (d+1)
 rw [List.length_replicate] at h
 have e:(kn2 d a b).length=d+1+(d+1):=by rw [kn2_len];omega
 rw [e]
 show tmN (List.replicate (d+1) a++_) t _=_
 rw [h,tm_const _ _ _ _ (Nat.le_refl _),tm_const _ _ _ _ (Nat.le_refl _)]
theorem kn2_ok {d:Nat} {a b:Rat} (h1:1≤d) (h6:d≤6) (hab:a<b) (hT:rl a≤64) (hT1:rl b≤64):kOK (kn2 d a b) d:=by
 have hl:=kn2_len d a b
 have hne:a≠b:=by grind
 have e0:(kn2 d a b).getD 0 0=a:=by rw [kn2_get _ _ _ _ (by omega),if_pos (by omega)]
 have e1:(kn2 d a b).getD ((kn2 d a b).length-1) 0=b:=by rw [hl,kn2_get _ _ _ _ (by omega),if_neg (by omega)]
 have hm:∀ x∈kn2 d a b,x=a∨x=b:=fun x hx=>by
  rcases List.mem_append.1 hx with h | h
  ·exact .inl (List.mem_replicate.1 h).2
  ·exact .inr (List.mem_replicate.1 h).2
 refine⟨h1,h6,by omega,by omega,fun i hi=>?_,by rw [e0,e1];exact hne,fun t ht he=>?_,fun t ht g0 g1=>?_,fun x hx=>?_⟩
 ·rw [kn2_get _ _ _ _ (by omega),kn2_get _ _ _ _ (by omega)]
  split<;>split
  ·exact Rat.le_refl
  ·grind
  ·omega
  ·exact Rat.le_refl
 ·rw [kn2_tm]
  rcases hm t ht with rfl | rfl
  ·rw [if_pos rfl,if_neg (fun e=>hne e.symm)]
  ·rw [if_neg hne,if_pos rfl,Nat.zero_add]
 ·rw [e0] at g0;rw [e1] at g1
  rcases hm t ht with h | h
  ·exact absurd h g0
  ·exact absurd h g1
 ·rcases hm x hx with rfl | rfl<;>assumption
theorem ds_kn2a {d:Nat} {a b:Rat}:∀ i,i+1≤d+1→dsN (kn2 d a b) (i+1)=[a]
 | 0,_=>by rw [dsN,if_pos (.inl rfl),kn2_lo];rfl
 | i+1,h=>by
  rw [ds_n (by omega) (by rw [kn2_get _ _ _ _ (by omega),kn2_get _ _ _ _ (by omega),if_pos (by omega),if_pos (by omega)]),ds_kn2a i (by omega)]
theorem ds_kn2b {d:Nat} {a b:Rat} (hab:a<b):∀ i,i+1≤d+1→dsN (kn2 d a b) (d+1+(i+1))=[a,b]
 | 0,_=>by
  rw [←Nat.add_assoc,ds_y (by omega) (by rw [kn2_get _ _ _ _ (by omega),kn2_get _ _ _ _ (by omega),if_neg (by omega),if_pos (by omega)];grind),Nat.add_zero,ds_kn2a d (by omega),kn2_get _ _ _ _ (by omega),if_neg (by omega)];rfl
 | i+1,h=>by
  rw [←Nat.add_assoc,ds_n (by omega) (by rw [kn2_get _ _ _ _ (by omega),kn2_get _ _ _ _ (by omega),if_neg (by omega),if_neg (by omega)]),ds_kn2b hab i (by omega)]
theorem ds_kn2 {d:Nat} {a b:Rat} (hab:a<b):dsN (kn2 d a b) (kn2 d a b).length=[a,b]:=by
 have:=ds_kn2b (d:=d) hab d (Nat.le_refl _)
 rwa [show d+1+(d+1)=(kn2 d a b).length by rw [kn2_len];omega] at this
theorem spu (a b:Rat):spL (a,b)=.agg [ratL a,ratL b]:=by unfold spL;rfl
namespace H_c_sCut
theorem zSm {p q:Prop} (k:q) (e:p=q:=by simp only [e1,e2,e3,e4,p1,p2,p3,q1,q2,q3,l1,t0,t1,r1,r2,r3,r4,Nat.zero_add,Nat.reduceMul,Nat.reduceAdd,b1,b2,b3,b4,b5,b6,i1,i2,i3,i4,i5,i6,Nat.reduceBEq,fz0,frz_c,spu0,prL_kill,kills_map prE,dfr,dfq,take_map_len,map_snoc,len_snoc,List.length_cons,List.length_nil,List.nil_append,List.map_nil,List.take_nil,List.append_nil,List.set_cons_zero,List.set_cons_succ,Nat.reduceEqDiff,reduceIte,if_true,if_false,ptL_kill,poL_kill,kills_map ptE,kills_map poE,kills_map ratE,ratL_kill,spL_kill,LV.kill,kills];exact rfl):p:=e.mpr k
end H_c_sCut
open H_c_sCut in
theorem c_sCut (R U V:Nat) (ua ub va vb:Rat) (rows:List (List PoR)) (h:pf R U V rows) (hR:R≤64) (hu:ua<ub) (hv:va<vb) (h1:rl ua≤64) (h2:rl ub≤64) (h3:rl va≤64) (h4:rl vb≤64):CallP Tryz.prog 37 [.agg [nI64 U,nI64 V,.list 3 ((kn2 U ua ub).map ratL),.list 3 ((kn2 V va vb).map ratL),.list 1 (rows.map prL)],spL (ua,ub),spL (va,vb)] (.tup [.agg [nI64 U,nI64 V,.list 3 ((kn2 U ua ub).map ratL),.list 3 ((kn2 V va vb).map ratL),.list 1 (rows.map prL)],iL 0]):=by
 have hsp:LV.pure (.agg [nI64 U,nI64 V,.list 3 ((kn2 U ua ub).map ratL),.list 3 ((kn2 V va vb).map ratL),.list 1 (rows.map prL)])=true:=by simp [LV.pure,pures,pures_map ratE,pures_map prE]
 have hsx:LV.pure (.agg [nI64 V,nI64 U,.list 3 ((kn2 V va vb).map ratL),.list 3 ((kn2 U ua ub).map ratL),.list 1 ((swR V rows).map prL)])=true:=by simp [LV.pure,pures,pures_map ratE,pures_map prE]
 have hu1:=h.u1
 have hu3:=h.u3
 have hv1:=h.v1
 have hv3:=h.v3
 have hr1:=h.r1
 have hku:=kn2_len U ua ub
 have hkv:=kn2_len V va vb
 have hrn:=h.n
 have hDo:=c_PDom U V ua ub va vb rows (by omega) (by omega) (by omega) (by omega) hu hv (by omega) (by omega)
 have hSd:=c_Ssnd U V (kn2 U ua ub) (kn2 V va vb) rows (kn2_ok hu1 (by omega) hu h1 h2) (kn2_ok hv1 (by omega) hv h3 h4) (by omega) (fun r hr=>by rw [h.m r hr,hkv];omega) (fun r hr q hq=>(h.ok r hr q hq).le hR)
 have hI1:CallP Tryz.prog 82 [.agg [nI64 U,nI64 V,.list 3 ((kn2 U ua ub).map ratL),.list 3 ((kn2 V va vb).map ratL),.list 1 (rows.map prL)],.clo 83 [.boxp (.agg [ratL ua,ratL ub])]] (.agg [nI64 U,nI64 V,.list 3 ((kn2 U ua ub).map ratL),.list 3 ((kn2 V va vb).map ratL),.list 1 (rows.map prL)]):=c_inU R U V (kn2 U ua ub) (kn2 V va vb) rows h (by rw [kn2_len];omega) (by rw [kn2_len];omega) (by rw [kn2_len];omega) (kn2_rl (by omega) (by omega)) (kn2_rl (by omega) (by omega)) (by omega) 83 [.boxp (.agg [ratL ua,ratL ub])] (by simp [pures,LV.pure,ratE.pure]) (fun x hx=>by rw [List.mem_singleton.1 hx];exact⟨rfl,rfl⟩) (fun C hC hq=>c_Cut1 U ua ub C (2*R) (by omega) (by assumption) (by omega) (by omega) hC (by omega) (by omega) hq)
 have hI2:CallP Tryz.prog 82 [.agg [nI64 V,nI64 U,.list 3 ((kn2 V va vb).map ratL),.list 3 ((kn2 U ua ub).map ratL),.list 1 ((swR V rows).map prL)],.clo 86 [.boxp (.agg [ratL va,ratL vb])]] (.agg [nI64 V,nI64 U,.list 3 ((kn2 V va vb).map ratL),.list 3 ((kn2 U ua ub).map ratL),.list 1 ((swR V rows).map prL)]):=c_inU R V U (kn2 V va vb) (kn2 U ua ub) (swR V rows) (swR_pf h) (by rw [kn2_len];omega) (by rw [kn2_len];omega) (by rw [kn2_len];omega) (kn2_rl (by omega) (by omega)) (kn2_rl (by omega) (by omega)) (by omega) 86 [.boxp (.agg [ratL va,ratL vb])] (by simp [pures,LV.pure,ratE.pure]) (fun x hx=>by rw [List.mem_singleton.1 hx];exact⟨rfl,rfl⟩) (fun C hC hq=>c_Cut2s V va vb C (2*R) (by omega) (by assumption) (by omega) (by omega) hC (by omega) (by omega) hq)
 have hW1:=c_Swit ua ub (by omega) (by omega) hu
 have hW2:=c_Swit va vb (by omega) (by omega) hv
 have hS1:=c_sSwap R U V (kn2 U ua ub) (kn2 V va vb) rows h (by omega) (by omega) (kn2_rl (by omega) (by omega)) (kn2_rl (by omega) (by omega)) (by omega)
 have hS2:=c_sSwap R V U (kn2 V va vb) (kn2 U ua ub) (swR V rows) (swR_pf h) (by omega) (by omega) (kn2_rl (by omega) (by omega)) (kn2_rl (by omega) (by omega)) (by omega)
 rw [swR_swR h] at hS2
 have spu0:True:=trivial
 refine fnP Tryz.func37 (ht:=(tame2 (by simp [LV.pure,pures,pures_map ratE,pures_map prE]) rfl)) ?_
 refine zg12 ?_
 refine cp am1 (hDo) ?_
 refine zg13 ?_
 refine cp am1 (hSd) ?_
 refine zg2 ?_
 refine st_pure (guardX (v:=false) rfl rfl ((rfl)) rfl) ldA ?_
 refine st_pure (guardX (v:=false) rfl rfl ((rfl)) rfl) ldA ?_
 refine st_callP (guardX (v:=false) rfl rfl ((rfl)) rfl) (.cons im0 (.cons im0 .nil)) (hW1) ?_
 refine st_pure (guardX (v:=false) rfl rfl ((rfl)) rfl) (.not rfl) ?_
 refine st_pure rfl (.pickF rfl ((rfl))) ?_
 refine zg1 ?_
 refine st_pure (guardX (v:=false) rfl rfl ((rfl)) rfl) ldA ?_
 refine st_pure (guardX (v:=false) rfl rfl ((rfl)) rfl) ldA ?_
 refine st_callP (guardX (v:=false) rfl rfl ((rfl)) rfl) (.cons im0 (.cons im0 .nil)) (hW2) ?_
 refine st_pure (guardX (v:=false) rfl rfl ((rfl)) rfl) (.not rfl) ?_
 refine st_pure rfl (.pickF rfl ((rfl))) ?_
 refine zg2 ?_
 refine wl_condY (b:=_) rfl (rfl) ?_
 refine zg3 ?_
 refine wl_regW (Weak.cell (x:=spL (ua,ub)) (y:=.agg [ratL ua,ratL ub]) 4 rfl (fun Z μ w cs h=>by rw [←spu];exact h)) ?_
 refine zSm ?_
 refine zg1 ?_
 refine st_opc [4] rfl rfl (.mk (caps:=[.boxp (.agg [ratL ua,ratL ub])]) (.cons (.eptr rfl rfl rfl cs (at_all cs rfl) pu rfl) .nil) (fun x hx=>by rw [List.mem_singleton.1 hx];exact⟨rfl,rfl⟩)) rfl ?_
 refine st_callP rfl (.cons (.pure hsp) (.cons (.pure (show LV.pure (.clo 83 [.boxp (.agg [ratL ua,ratL ub])])=true by simp [LV.pure,pures,ratE.pure])) .nil)) (hI1) ?_
 refine zg4 ?_
 refine wl_regW (Weak.cell (x:=spL (va,vb)) (y:=.agg [ratL va,ratL vb]) 5 rfl (fun Z μ w cs h=>by rw [←spu];exact h)) ?_
 refine zSm ?_
 refine zg1 ?_
 refine cp am1 (hS1) ?_
 refine st_opc [5] rfl rfl (.mk (caps:=[.boxp (.agg [ratL va,ratL vb])]) (.cons (.eptr rfl rfl rfl cs (at_all cs rfl) pu rfl) .nil) (fun x hx=>by rw [List.mem_singleton.1 hx];exact⟨rfl,rfl⟩)) rfl ?_
 refine st_callP rfl (.cons (.pure hsx) (.cons (.pure (show LV.pure (.clo 86 [.boxp (.agg [ratL va,ratL vb])])=true by simp [LV.pure,pures,ratE.pure])) .nil)) (hI2) ?_
 refine cp am1 (hS2) ?_
 refine zg5 ?_
 exact retCT [] rfl rfl rfl cs (at_all cs rfl) T29 (.pure hsp) rfl (.pure rfl)
def ngS (s:Rat × Rat):Rat × Rat:=(-s.2,-s.1)
def adS (s t:Rat × Rat):Rat × Rat:=(s.1+t.1,s.2+t.2)
def ngB (b:Bx3):Bx3:=⟨ngS b.x,ngS b.y,ngS b.z⟩
def d2S (p q r s:Rat × Rat):Rat × Rat:=sbS (muS p s) (muS q r)
def d3S (a b c:Bx3):Rat × Rat:=adS (sbS (muS a.x (d2S b.y c.y b.z c.z)) (muS b.x (d2S a.y c.y a.z c.z))) (muS c.x (d2S a.y b.y a.z b.z))
def meS (s t:Rat × Rat):Bool:=decide (mxR s.1 t.1≤mnR s.2 t.2)
def mtL (a b c:Bx3):LV:=.agg [bxL ⟨a.x,b.x,c.x⟩,bxL ⟨a.y,b.y,c.y⟩,bxL ⟨a.z,b.z,c.z⟩]
theorem mtL_pure (a b c:Bx3):(mtL a b c).pure=true:=by simp [mtL,LV.pure,pures,spE.pure]
theorem ngS_bd {R:Nat} {s:Rat × Rat} (h:bdS R s):bdS R (ngS s):=⟨by show rl (-s.2)≤R;rw [rl_neg];exact h.2,by show rl (-s.1)≤R;rw [rl_neg];exact h.1⟩
theorem ngB_bd {R:Nat} {b:Bx3} (h:bdB R b):bdB R (ngB b):=⟨ngS_bd h.1,ngS_bd h.2.1,ngS_bd h.2.2⟩
theorem adS_bd {R S:Nat} {s t:Rat × Rat} (hs:bdS R s) (ht:bdS S t):bdS (R+S+1) (adS s t):=⟨Nat.le_trans (rl_add _ _) (by have:=hs.1;have:=ht.1;omega),Nat.le_trans (rl_add _ _) (by have:=hs.2;have:=ht.2;omega)⟩
theorem d2S_bd {R:Nat} {p q r s:Rat × Rat} (hp:bdS R p) (hq:bdS R q) (hr:bdS R r) (hs:bdS R s):bdS (4*R+1) (d2S p q r s):=(sbS_bd (muS_bd hp hs) (muS_bd hq hr)).le (by omega)
theorem d3S_bd {R:Nat} {a b c:Bx3} (ha:bdB R a) (hb:bdB R b) (hc:bdB R c):bdS (20*R+10) (d3S a b c):=by
 obtain⟨a1,a2,a3⟩:=ha
 obtain⟨y1,y2,y3⟩:=hb
 obtain⟨z1,z2,z3⟩:=hc
 exact(adS_bd (sbS_bd (muS_bd a1 (d2S_bd y2 z2 y3 z3)) (muS_bd y1 (d2S_bd a2 z2 a3 z3))) (muS_bd z1 (d2S_bd a2 y2 a3 y3))).le (by omega)
theorem bd0S {P:Program} {H:Heap} {ρ:Operand→LV} {T:TypeId} (hl:StructLay P T [(3,true),(3,true)]) (hz:ZeroOK P T (spL (0,0))):OpP P H ρ (.build T #[]) (spL (0,0)):=by
 have e:[ratL 0,ratL 0].map lay=[(3,true),(3,true)]:=by simp [lay,ratE.csize,ratE.isAgg]
 rw [spu] at hz ⊢
 exact .build (zs:=[ratL 0,ratL 0]) (e ▸ hl) hz (by intro p hp;cases hp)
theorem putM0 {x y z v:LV} (hx:x.csize=18) (hy:y.csize=18) (hz:z.csize=18) (hv:v.csize=18) (xa:x.isAgg=true) (va:v.isAgg=true):(LV.agg [x,y,z]).put 0 v=some (.agg [v,y,z]):=by
 have:=put_whole x v (hx.trans hv.symm) (xa.trans va.symm)
 simp [LV.put,putFs,csizes,hx,hy,hz,hv,this]
theorem putM1 {x y z v:LV} (hx:x.csize=18) (hy:y.csize=18) (hz:z.csize=18) (hv:v.csize=18) (ya:y.isAgg=true) (va:v.isAgg=true):(LV.agg [x,y,z]).put 18 v=some (.agg [x,v,z]):=by
 have:=put_whole y v (hy.trans hv.symm) (ya.trans va.symm)
 simp [LV.put,putFs,csizes,hx,hy,hz,hv,this]
theorem putM2 {x y z v:LV} (hx:x.csize=18) (hy:y.csize=18) (hz:z.csize=18) (hv:v.csize=18) (za:z.isAgg=true) (va:v.isAgg=true):(LV.agg [x,y,z]).put 36 v=some (.agg [x,y,v]):=by
 have:=put_whole z v (hz.trans hv.symm) (za.trans va.symm)
 simp [LV.put,putFs,csizes,hx,hy,hz,hv,this]
theorem bdV3 {P:Program} {H:Heap} {ρ:Operand→LV} {T E:TypeId} {n:Nat} {ag:Bool} {o0 o1 o2:Operand} {z v0 v1 v2:LV} (hT:P.underlying T=some (.array 3 E)) (t:TyIs P E n ag) (hz:ZeroOK P T (.agg [z,z,z])) (zl:lay z=(n,ag)) (h0:ρ o0=v0) (h1:ρ o1=v1) (h2:ρ o2=v2)
  (l0:lay v0=(n,ag)) (l1:lay v1=(n,ag)) (l2:lay v2=(n,ag)) (p0:v0.pure=true) (p1':v1.pure=true) (p2':v2.pure=true):OpP P H ρ (.build T #[(0,o0),(1,o1),(2,o2)]) (.agg [v0,v1,v2]):=by
 have:=OpP.buildA (P:=P) (H:=H) (ρ:=ρ) (zs:=[z,z,z]) (ps:=#[(0,o0),(1,o1),(2,o2)]) hT t (by simp [zl]) hz (by
  intro p hp
  simp only [List.mem_cons,List.not_mem_nil,or_false] at hp
  rcases hp with rfl | rfl | rfl
  ·exact⟨_,rfl,by rw [h0,l0,zl],by rw [h0];exact LV.pure_ne_any p0,by rw [h0];exact LV.pure_ne_tup p0⟩
  ·exact⟨_,rfl,by rw [h1,l1,zl],by rw [h1];exact LV.pure_ne_any p1',by rw [h1];exact LV.pure_ne_tup p1'⟩
  ·exact⟨_,rfl,by rw [h2,l2,zl],by rw [h2];exact LV.pure_ne_any p2',by rw [h2];exact LV.pure_ne_tup p2'⟩)
 simpa only [buildL,List.map,List.foldl,List.set,h0,h1,h2] using this
theorem bdV2 {P:Program} {H:Heap} {ρ:Operand→LV} {T E:TypeId} {n:Nat} {ag:Bool} {o0 o1:Operand} {z v0 v1:LV} (hT:P.underlying T=some (.array 2 E)) (t:TyIs P E n ag) (hz:ZeroOK P T (.agg [z,z])) (zl:lay z=(n,ag)) (h0:ρ o0=v0) (h1:ρ o1=v1)
  (l0:lay v0=(n,ag)) (l1:lay v1=(n,ag)) (p0:v0.pure=true) (p1':v1.pure=true):OpP P H ρ (.build T #[(0,o0),(1,o1)]) (.agg [v0,v1]):=by
 have:=OpP.buildA (P:=P) (H:=H) (ρ:=ρ) (zs:=[z,z]) (ps:=#[(0,o0),(1,o1)]) hT t (by simp [zl]) hz (by
  intro p hp
  simp only [List.mem_cons,List.not_mem_nil,or_false] at hp
  rcases hp with rfl | rfl
  ·exact⟨_,rfl,by rw [h0,l0,zl],by rw [h0];exact LV.pure_ne_any p0,by rw [h0];exact LV.pure_ne_tup p0⟩
  ·exact⟨_,rfl,by rw [h1,l1,zl],by rw [h1];exact LV.pure_ne_any p1',by rw [h1];exact LV.pure_ne_tup p1'⟩)
 simpa only [buildL,List.map,List.foldl,List.set,h0,h1] using this
theorem lz {p:Prop} (h:p:=by first | rfl | simp [lay,LV.csize,csizes,isAgg_agg,ratE.csize,spE.csize,ratE.isAgg,spE.isAgg]):p:=h
open H0 in
theorem c_RNeg (q:Rat) (h:rl q≤274877906944):CallP Tryz.prog 230 [ratL q] (ratL (-q)):=by
 refine fnP Tryz.func230 ?_
 refine zg9 ?_
 refine cp am1 (c_copied q (by omega)) ?_
 refine zg9 ?_
 refine op_if 8 rfl (fun h8r h8=>?_) (fun h8r h8=>?_)
 ·refine zg6 ?_
  refine st_store rfl (.stNegR rfl rfl rfl T4 (by first | exact neg1 h8r | exact neg2 h8r)) ?_
  refine zg9 ?_
  exact retC [] rfl rfl rfl (ratE.csize _) (ratL_all _) T32 (.pure (ratE.pure _))
 ·refine zg6 ?_
  refine st_store rfl (.stNegR rfl rfl rfl T4 (by first | exact neg1 h8r | exact neg2 h8r)) ?_
  refine zg9 ?_
  exact retC [] rfl rfl rfl (ratE.csize _) (ratL_all _) T32 (.pure (ratE.pure _))
namespace H_c_SNeg
theorem zSm {p q:Prop} (k:q) (e:p=q:=by simp only [e1,e2,e3,e4,p1,p2,p3,q1,q2,q3,l1,t0,t1,r1,r2,r3,r4,Nat.zero_add,Nat.reduceMul,Nat.reduceAdd,b1,b2,b3,b4,b5,b6,i1,i2,i3,i4,i5,i6,Nat.reduceBEq,List.set_cons_zero,List.set_cons_succ,Nat.reduceEqDiff,reduceIte,if_true,if_false,ptL_kill,poL_kill,kills_map ptE,kills_map poE,kills_map ratE,ratL_kill,spL_kill,LV.kill,kills];exact rfl):p:=e.mpr k
end H_c_SNeg
open H_c_SNeg in
theorem c_SNeg (s:Rat × Rat) (R:Nat) (hR:R≤1000000000) (hs:bdS R s):CallP Tryz.prog 166 [spL s] (spL (ngS s)):=by
 obtain⟨a1,a2⟩:=hs
 refine fnP Tryz.func166 ?_
 refine zg7 ?_
 refine wl_regD 7 (by decide +kernel) ?_
 refine zg2 ?_
 refine cp am1 (c_RNeg s.2 (by omega)) ?_
 refine zg2 ?_
 refine cp am1 (c_RNeg s.1 (by omega)) ?_
 refine zg5 ?_
 exact retC [] rfl rfl rfl (spE.csize _) (spL_all _) T50 (.pure (spE.pure _))
namespace H_c_SAdd
theorem zSm {p q:Prop} (k:q) (e:p=q:=by simp only [e1,e2,e3,e4,p1,p2,p3,q1,q2,q3,l1,t0,t1,r1,r2,r3,r4,Nat.zero_add,Nat.reduceMul,Nat.reduceAdd,b1,b2,b3,b4,b5,b6,i1,i2,i3,i4,i5,i6,Nat.reduceBEq,List.set_cons_zero,List.set_cons_succ,Nat.reduceEqDiff,reduceIte,if_true,if_false,ptL_kill,poL_kill,kills_map ptE,kills_map poE,kills_map ratE,ratL_kill,spL_kill,LV.kill,kills];exact rfl):p:=e.mpr k
end H_c_SAdd
open H_c_SAdd in
theorem c_SAdd (s t:Rat × Rat) (R:Nat) (hR:R≤1000000000) (hs:bdS R s) (ht:bdS R t):CallP Tryz.prog 169 [spL s,spL t] (spL (adS s t)):=by
 obtain⟨a1,a2⟩:=hs
 obtain⟨y1,y2⟩:=ht
 refine fnP Tryz.func169 ?_
 refine zg8 ?_
 refine wl_regD 11 (by decide +kernel) ?_
 refine zg4 ?_
 refine cp am2 (c_RAdd s.1 t.1 (by omega)) ?_
 refine zg4 ?_
 refine cp am2 (c_RAdd s.2 t.2 (by omega)) ?_
 refine zg5 ?_
 exact retC [] rfl rfl rfl (spE.csize _) (spL_all _) T50 (.pure (spE.pure _))
namespace H_c_SMeet
theorem zSm {p q:Prop} (k:q) (e:p=q:=by simp only [e1,e2,e3,e4,p1,p2,p3,q1,q2,q3,l1,t0,t1,r1,r2,r3,r4,Nat.zero_add,Nat.reduceMul,Nat.reduceAdd,b1,b2,b3,b4,b5,b6,i1,i2,i3,i4,i5,i6,Nat.reduceBEq,List.set_cons_zero,List.set_cons_succ,Nat.reduceEqDiff,reduceIte,if_true,if_false,ptL_kill,poL_kill,kills_map ptE,kills_map poE,kills_map ratE,ratL_kill,spL_kill,LV.kill,kills];exact rfl):p:=e.mpr k
end H_c_SMeet
open H_c_SMeet in
theorem c_SMeet (s t:Rat × Rat) (R:Nat) (hR:R≤1000000000) (hs:bdS R s) (ht:bdS R t) (hm:meS s t=true):CallP Tryz.prog 87 [spL s,spL t] (.tup [spL (mxR s.1 t.1,mnR s.2 t.2),bL true]):=by
 obtain⟨a1,a2⟩:=hs
 obtain⟨y1,y2⟩:=ht
 have hle:=of_decide_eq_true hm
 have hz1:rl (mxR s.1 t.1)≤R:=by unfold mxR;split<;>assumption
 have hz2:rl (mnR s.2 t.2)≤R:=by unfold mnR;split<;>assumption
 have hcm:¬cmpR (mxR s.1 t.1) (mnR s.2 t.2) > 0:=fun e=>by have:=cmpR_pos.1 e;grind
 refine fnP Tryz.func87 (ht:=(tame2 (spE.pure _) rfl)) ?_
 refine zg9 ?_
 refine wl_regD 12 (by decide +kernel) ?_
 refine zg4 ?_
 refine cp am2 ((c_RMax s.1 t.1 (by omega):CallP Tryz.prog 135 [ratL s.1,ratL t.1] (ratL (mxR s.1 t.1)))) ?_
 refine zg4 ?_
 refine cp am2 ((c_RMin s.2 t.2 (by omega):CallP Tryz.prog 134 [ratL s.2,ratL t.2] (ratL (mnR s.2 t.2)))) ?_
 refine zg12 ?_
 refine cp am2 (c_RCmp (mxR s.1 t.1) (mnR s.2 t.2) (by omega)) ?_
 refine zg3 ?_
 refine wl_condY (b:=_) rfl (decide_eq_false hcm) ?_
 refine zg10 ?_
 exact retCT [] rfl rfl rfl (spE.csize _) (spL_all _) T50 (.pure (spE.pure _)) rfl (.pure rfl)
namespace H_c_SMeetN
theorem zSm {p q:Prop} (k:q) (e:p=q:=by simp only [e1,e2,e3,e4,p1,p2,p3,q1,q2,q3,l1,t0,t1,r1,r2,r3,r4,Nat.zero_add,Nat.reduceMul,Nat.reduceAdd,b1,b2,b3,b4,b5,b6,i1,i2,i3,i4,i5,i6,Nat.reduceBEq,List.set_cons_zero,List.set_cons_succ,Nat.reduceEqDiff,reduceIte,if_true,if_false,ptL_kill,poL_kill,kills_map ptE,kills_map poE,kills_map ratE,ratL_kill,spL_kill,LV.kill,kills];exact rfl):p:=e.mpr k
end H_c_SMeetN
open H_c_SMeetN in
theorem c_SMeetN (s t:Rat × Rat) (R:Nat) (hR:R≤1000000000) (hs:bdS R s) (ht:bdS R t) (hm:meS s t=false):CallP Tryz.prog 87 [spL s,spL t] (.tup [spL (0,0),bL false]):=by
 obtain⟨a1,a2⟩:=hs
 obtain⟨y1,y2⟩:=ht
 have hle:=of_decide_eq_false hm
 have hz1:rl (mxR s.1 t.1)≤R:=by unfold mxR;split<;>assumption
 have hz2:rl (mnR s.2 t.2)≤R:=by unfold mnR;split<;>assumption
 have hcm:cmpR (mxR s.1 t.1) (mnR s.2 t.2) > 0:=cmpR_pos.2 (by grind)
 refine fnP Tryz.func87 (ht:=(tame2 (spE.pure _) rfl)) ?_
 refine zg9 ?_
 refine wl_regD 12 (by decide +kernel) ?_
 refine zg4 ?_
 refine cp am2 ((c_RMax s.1 t.1 (by omega):CallP Tryz.prog 135 [ratL s.1,ratL t.1] (ratL (mxR s.1 t.1)))) ?_
 refine zg4 ?_
 refine cp am2 ((c_RMin s.2 t.2 (by omega):CallP Tryz.prog 134 [ratL s.2,ratL t.2] (ratL (mnR s.2 t.2)))) ?_
 refine zg12 ?_
 refine cp am2 (c_RCmp (mxR s.1 t.1) (mnR s.2 t.2) (by omega)) ?_
 refine zg3 ?_
 refine wl_condX (b:=_) rfl (decide_eq_true hcm) ?_
 refine zg2 ?_
 refine st_pure rfl (bd0S SL50 Z50s) ?_
 refine zg6 ?_
 exact retCT [] rfl rfl rfl (spE.csize _) (spL_all _) T50 (.pure (spE.pure _)) rfl (.pure rfl)
namespace H_c_sMin
theorem zSm {p q:Prop} (k:q) (e:p=q:=by simp only [e1,e2,e3,e4,p1,p2,p3,q1,q2,q3,l1,t0,t1,r1,r2,r3,r4,Nat.zero_add,Nat.reduceMul,Nat.reduceAdd,b1,b2,b3,b4,b5,b6,i1,i2,i3,i4,i5,i6,Nat.reduceBEq,List.getD_cons_zero,List.getD_cons_succ,List.set_cons_zero,List.set_cons_succ,Nat.reduceEqDiff,reduceIte,if_true,if_false,ptL_kill,poL_kill,kills_map ptE,kills_map poE,kills_map ratE,ratL_kill,spL_kill,LV.kill,kills];exact rfl):p:=e.mpr k
end H_c_sMin
open H_c_sMin in
theorem c_sMin (a:Bx3) (R:Nat) (hR:R≤1000000000) (ha:bdB R a):CallP Tryz.prog 91 [bxL a] (bxL (ngB a)):=by
 obtain⟨a1,a2,a3⟩:=ha
 refine fnP Tryz.func91 (ht:=(fun r=>LV.ren_pure r _ (bxE.pure _))) ?_
 refine zg13 ?_
 refine wl_unroll ?_
 refine zg6 ?_
 refine wl_condX (b:=_) rfl (by decide) ?_
 refine zg15 ?_
 refine cp am1 (c_SNeg a.x R hR a1) ?_
 refine zg10 ?_
 refine wl_unroll ?_
 refine zg6 ?_
 refine wl_condX (b:=_) rfl (by decide) ?_
 refine zg15 ?_
 refine cp am1 (c_SNeg a.y R hR a2) ?_
 refine zg10 ?_
 refine wl_unroll ?_
 refine zg6 ?_
 refine wl_condX (b:=_) rfl (by decide) ?_
 refine zg15 ?_
 refine cp am1 (c_SNeg a.z R hR a3) ?_
 refine zg10 ?_
 refine wl_unroll ?_
 refine zg6 ?_
 refine wl_condY (b:=_) rfl (by decide) ?_
 refine zg12 ?_
 exact retC [] rfl rfl rfl cs (at_all cs rfl) T92 (.pure pu)
namespace H_c_SDet2
theorem zSm {p q:Prop} (k:q) (e:p=q:=by simp only [e1,e2,e3,e4,p1,p2,p3,q1,q2,q3,l1,t0,t1,r1,r2,r3,r4,Nat.zero_add,Nat.reduceMul,Nat.reduceAdd,b1,b2,b3,b4,b5,b6,i1,i2,i3,i4,i5,i6,Nat.reduceBEq,List.getD_cons_zero,List.getD_cons_succ,List.set_cons_zero,List.set_cons_succ,Nat.reduceEqDiff,reduceIte,if_true,if_false,ptL_kill,poL_kill,kills_map ptE,kills_map poE,kills_map ratE,ratL_kill,spL_kill,LV.kill,kills];exact rfl):p:=e.mpr k
end H_c_SDet2
open H_c_SDet2 in
theorem c_SDet2 (p q r s:Rat × Rat) (R:Nat) (hR:R≤100000000) (hp9:bdS R p) (hq9:bdS R q) (hr9:bdS R r) (hs9:bdS R s):CallP Tryz.prog 168 [.agg [.agg [spL p,spL q],.agg [spL r,spL s]]] (spL (d2S p q r s)):=by
 have m1:=muS_bd hp9 hs9
 have m2:=muS_bd hq9 hr9
 refine fnP Tryz.func168 (ht:=(fun r=>LV.ren_pure r _ (spE.pure _))) ?_
 refine zg7 ?_
 refine wl_regD 15 (by decide +kernel) ?_
 refine zg6 ?_
 refine cp am2 (c_SMul p s R (by omega) hp9 hs9) ?_
 refine zg6 ?_
 refine cp am2 (c_SMul q r R (by omega) hq9 hr9) ?_
 refine cp am2 (c_SSub (muS p s) (muS q r) (R+R) (by omega) m1 m2) ?_
 refine zg4 ?_
 exact retC [] rfl rfl rfl (spE.csize _) (spL_all _) T50 (.pure (spE.pure _))
namespace H_c_sCol
theorem zSm {p q:Prop} (k:q) (e:p=q:=by simp only [e1,e2,e3,e4,p1,p2,p3,q1,q2,q3,l1,t0,t1,r1,r2,r3,r4,Nat.zero_add,Nat.reduceMul,Nat.reduceAdd,b1,b2,b3,b4,b5,b6,i1,i2,i3,i4,i5,i6,Nat.reduceBEq,List.getD_cons_zero,List.getD_cons_succ,List.set_cons_zero,List.set_cons_succ,Nat.reduceEqDiff,reduceIte,if_true,if_false,ptL_kill,poL_kill,kills_map ptE,kills_map poE,kills_map ratE,ratL_kill,spL_kill,LV.kill,kills];exact rfl):p:=e.mpr k
end H_c_sCol
open H_c_sCol in
theorem c_sCol (a b c:Bx3):CallP Tryz.prog 94 [bxL a,bxL b,bxL c] (mtL a b c):=by
 refine fnP Tryz.func94 (ht:=(fun r=>LV.ren_pure r _ (mtL_pure _ _ _))) ?_
 refine zg20 ?_
 refine wl_unroll ?_
 refine zg6 ?_
 refine wl_condX (b:=_) rfl (by decide) ?_
 refine zg10 ?_
 refine wl_regD 12 (by decide +kernel) ?_
 refine zg10 ?_
 refine zSm ?_
 refine st_pure rfl (bdV3 (v0:=spL a.x) (v1:=spL b.x) (v2:=spL c.x) Tryz.underlying91 T50 Z91 lz rfl rfl rfl lz lz lz (spE.pure _) (spE.pure _) (spE.pure _)) ?_
 refine zg1 ?_
 refine zSm ?_
 refine st_store rfl (.stp (v:=bxL ⟨a.x,b.x,c.x⟩) rfl rfl rfl rfl (by simp [LV.csize,csizes,spE.csize,ratE.csize]) (by simp [LV.csize,csizes,spE.csize,ratE.csize]) rfl (putM0 (by simp [LV.csize,csizes,spE.csize,ratE.csize]) (by simp [LV.csize,csizes,spE.csize,ratE.csize]) (by simp [LV.csize,csizes,spE.csize,ratE.csize]) (by simp [LV.csize,csizes,spE.csize,ratE.csize]) rfl rfl) ⟨by simp [bxL],by simp [bxL]⟩) ?_
 refine zg8 ?_
 refine wl_unroll ?_
 refine zg6 ?_
 refine wl_condX (b:=_) rfl (by decide) ?_
 refine zg10 ?_
 refine wl_regD 12 (by decide +kernel) ?_
 refine zg10 ?_
 refine zSm ?_
 refine st_pure rfl (bdV3 (v0:=spL a.y) (v1:=spL b.y) (v2:=spL c.y) Tryz.underlying91 T50 Z91 lz rfl rfl rfl lz lz lz (spE.pure _) (spE.pure _) (spE.pure _)) ?_
 refine zg1 ?_
 refine zSm ?_
 refine st_store rfl (.stp (v:=bxL ⟨a.y,b.y,c.y⟩) rfl rfl rfl rfl (by simp [LV.csize,csizes,spE.csize,ratE.csize]) (by simp [LV.csize,csizes,spE.csize,ratE.csize]) rfl (putM1 (by simp [LV.csize,csizes,spE.csize,ratE.csize]) (by simp [LV.csize,csizes,spE.csize,ratE.csize]) (by simp [LV.csize,csizes,spE.csize,ratE.csize]) (by simp [LV.csize,csizes,spE.csize,ratE.csize]) rfl rfl) ⟨by simp [bxL],by simp [bxL]⟩) ?_
 refine zg8 ?_
 refine wl_unroll ?_
 refine zg6 ?_
 refine wl_condX (b:=_) rfl (by decide) ?_
 refine zg10 ?_
 refine wl_regD 12 (by decide +kernel) ?_
 refine zg10 ?_
 refine zSm ?_
 refine st_pure rfl (bdV3 (v0:=spL a.z) (v1:=spL b.z) (v2:=spL c.z) Tryz.underlying91 T50 Z91 lz rfl rfl rfl lz lz lz (spE.pure _) (spE.pure _) (spE.pure _)) ?_
 refine zg1 ?_
 refine zSm ?_
 refine st_store rfl (.stp (v:=bxL ⟨a.z,b.z,c.z⟩) rfl rfl rfl rfl (by simp [LV.csize,csizes,spE.csize,ratE.csize]) (by simp [LV.csize,csizes,spE.csize,ratE.csize]) rfl (putM2 (by simp [LV.csize,csizes,spE.csize,ratE.csize]) (by simp [LV.csize,csizes,spE.csize,ratE.csize]) (by simp [LV.csize,csizes,spE.csize,ratE.csize]) (by simp [LV.csize,csizes,spE.csize,ratE.csize]) rfl rfl) ⟨by simp [bxL],by simp [bxL]⟩) ?_
 refine zg8 ?_
 refine wl_unroll ?_
 refine zg6 ?_
 refine wl_condY (b:=_) rfl (by decide) ?_
 refine zg12 ?_
 exact retC [] rfl rfl rfl cs (at_all cs rfl) T170 (.pure pu)
namespace H_c_SD312
theorem zSm {p q:Prop} (k:q) (e:p=q:=by simp only [e1,e2,e3,e4,p1,p2,p3,q1,q2,q3,l1,t0,t1,r1,r2,r3,r4,Nat.zero_add,Nat.reduceMul,Nat.reduceAdd,b1,b2,b3,b4,b5,b6,i1,i2,i3,i4,i5,i6,Nat.reduceBEq,mtL,List.getD_cons_zero,List.getD_cons_succ,List.set_cons_zero,List.set_cons_succ,Nat.reduceEqDiff,reduceIte,if_true,if_false,ptL_kill,poL_kill,kills_map ptE,kills_map poE,kills_map ratE,ratL_kill,spL_kill,LV.kill,kills];exact rfl):p:=e.mpr k
end H_c_SD312
open H_c_SD312 in
theorem c_SD312 (a b c:Bx3) (R:Nat) (hR:R≤10000000) (ha:bdB R a) (hb:bdB R b) (hc:bdB R c):CallP Tryz.prog 167 [nI64 1,nI64 2,.boxp (mtL a b c)] (spL (d2S b.y c.y b.z c.z)):=by
 obtain⟨a1,a2,a3⟩:=ha
 obtain⟨y1,y2,y3⟩:=hb
 obtain⟨z1,z2,z3⟩:=hc
 have hmt:=mtL_pure a b c
 have hpD:LV.pure (.agg [.agg [spL b.y,spL c.y],.agg [spL b.z,spL c.z]])=true:=by simp [LV.pure,pures,spE.pure]
 refine fnP Tryz.func167 (ht:=(fun r=>LV.ren_pure r _ (spE.pure _))) ?_
 refine zg6 ?_
 refine wl_regD 20 (by decide +kernel) ?_
 refine zg8 ?_
 refine zSm ?_
 refine st_pure rfl (bdV2 (v0:=spL b.y) (v1:=spL c.y) Tryz.underlying225 T50 Z225 lz rfl rfl lz lz (spE.pure _) (spE.pure _)) ?_
 refine zg8 ?_
 refine zSm ?_
 refine st_pure rfl (bdV2 (v0:=spL b.z) (v1:=spL c.z) Tryz.underlying225 T50 Z225 lz rfl rfl lz lz (spE.pure _) (spE.pure _)) ?_
 try refine zSm ?_
 refine st_pure rfl (bdV2 (v0:=.agg [spL b.y,spL c.y]) (v1:=.agg [spL b.z,spL c.z]) Tryz.underlying226 T225 Z226 lz rfl rfl lz lz pu pu) ?_
 try refine zSm ?_
 refine st_callP rfl (.cons (.pure hpD) .nil) (c_SDet2 b.y c.y b.z c.z R (by omega) y2 z2 y3 z3) ?_
 refine zg4 ?_
 exact retC [] rfl rfl rfl (spE.csize _) (spL_all _) T50 (.pure (spE.pure _))
namespace H_c_SD302
theorem zSm {p q:Prop} (k:q) (e:p=q:=by simp only [e1,e2,e3,e4,p1,p2,p3,q1,q2,q3,l1,t0,t1,r1,r2,r3,r4,Nat.zero_add,Nat.reduceMul,Nat.reduceAdd,b1,b2,b3,b4,b5,b6,i1,i2,i3,i4,i5,i6,Nat.reduceBEq,mtL,List.getD_cons_zero,List.getD_cons_succ,List.set_cons_zero,List.set_cons_succ,Nat.reduceEqDiff,reduceIte,if_true,if_false,ptL_kill,poL_kill,kills_map ptE,kills_map poE,kills_map ratE,ratL_kill,spL_kill,LV.kill,kills];exact rfl):p:=e.mpr k
end H_c_SD302
open H_c_SD302 in
theorem c_SD302 (a b c:Bx3) (R:Nat) (hR:R≤10000000) (ha:bdB R a) (hb:bdB R b) (hc:bdB R c):CallP Tryz.prog 167 [nI64 0,nI64 2,.boxp (mtL a b c)] (spL (d2S a.y c.y a.z c.z)):=by
 obtain⟨a1,a2,a3⟩:=ha
 obtain⟨y1,y2,y3⟩:=hb
 obtain⟨z1,z2,z3⟩:=hc
 have hmt:=mtL_pure a b c
 have hpD:LV.pure (.agg [.agg [spL a.y,spL c.y],.agg [spL a.z,spL c.z]])=true:=by simp [LV.pure,pures,spE.pure]
 refine fnP Tryz.func167 (ht:=(fun r=>LV.ren_pure r _ (spE.pure _))) ?_
 refine zg6 ?_
 refine wl_regD 20 (by decide +kernel) ?_
 refine zg8 ?_
 refine zSm ?_
 refine st_pure rfl (bdV2 (v0:=spL a.y) (v1:=spL c.y) Tryz.underlying225 T50 Z225 lz rfl rfl lz lz (spE.pure _) (spE.pure _)) ?_
 refine zg8 ?_
 refine zSm ?_
 refine st_pure rfl (bdV2 (v0:=spL a.z) (v1:=spL c.z) Tryz.underlying225 T50 Z225 lz rfl rfl lz lz (spE.pure _) (spE.pure _)) ?_
 try refine zSm ?_
 refine st_pure rfl (bdV2 (v0:=.agg [spL a.y,spL c.y]) (v1:=.agg [spL a.z,spL c.z]) Tryz.underlying226 T225 Z226 lz rfl rfl lz lz pu pu) ?_
 try refine zSm ?_
 refine st_callP rfl (.cons (.pure hpD) .nil) (c_SDet2 a.y c.y a.z c.z R (by omega) a2 z2 a3 z3) ?_
 refine zg4 ?_
 exact retC [] rfl rfl rfl (spE.csize _) (spL_all _) T50 (.pure (spE.pure _))
namespace H_c_SD301
theorem zSm {p q:Prop} (k:q) (e:p=q:=by simp only [e1,e2,e3,e4,p1,p2,p3,q1,q2,q3,l1,t0,t1,r1,r2,r3,r4,Nat.zero_add,Nat.reduceMul,Nat.reduceAdd,b1,b2,b3,b4,b5,b6,i1,i2,i3,i4,i5,i6,Nat.reduceBEq,mtL,List.getD_cons_zero,List.getD_cons_succ,List.set_cons_zero,List.set_cons_succ,Nat.reduceEqDiff,reduceIte,if_true,if_false,ptL_kill,poL_kill,kills_map ptE,kills_map poE,kills_map ratE,ratL_kill,spL_kill,LV.kill,kills];exact rfl):p:=e.mpr k
end H_c_SD301
open H_c_SD301 in
theorem c_SD301 (a b c:Bx3) (R:Nat) (hR:R≤10000000) (ha:bdB R a) (hb:bdB R b) (hc:bdB R c):CallP Tryz.prog 167 [nI64 0,nI64 1,.boxp (mtL a b c)] (spL (d2S a.y b.y a.z b.z)):=by
 obtain⟨a1,a2,a3⟩:=ha
 obtain⟨y1,y2,y3⟩:=hb
 obtain⟨z1,z2,z3⟩:=hc
 have hmt:=mtL_pure a b c
 have hpD:LV.pure (.agg [.agg [spL a.y,spL b.y],.agg [spL a.z,spL b.z]])=true:=by simp [LV.pure,pures,spE.pure]
 refine fnP Tryz.func167 (ht:=(fun r=>LV.ren_pure r _ (spE.pure _))) ?_
 refine zg6 ?_
 refine wl_regD 20 (by decide +kernel) ?_
 refine zg8 ?_
 refine zSm ?_
 refine st_pure rfl (bdV2 (v0:=spL a.y) (v1:=spL b.y) Tryz.underlying225 T50 Z225 lz rfl rfl lz lz (spE.pure _) (spE.pure _)) ?_
 refine zg8 ?_
 refine zSm ?_
 refine st_pure rfl (bdV2 (v0:=spL a.z) (v1:=spL b.z) Tryz.underlying225 T50 Z225 lz rfl rfl lz lz (spE.pure _) (spE.pure _)) ?_
 try refine zSm ?_
 refine st_pure rfl (bdV2 (v0:=.agg [spL a.y,spL b.y]) (v1:=.agg [spL a.z,spL b.z]) Tryz.underlying226 T225 Z226 lz rfl rfl lz lz pu pu) ?_
 try refine zSm ?_
 refine st_callP rfl (.cons (.pure hpD) .nil) (c_SDet2 a.y b.y a.z b.z R (by omega) a2 y2 a3 y3) ?_
 refine zg4 ?_
 exact retC [] rfl rfl rfl (spE.csize _) (spL_all _) T50 (.pure (spE.pure _))
namespace H_c_SDet3
theorem zSm {p q:Prop} (k:q) (e:p=q:=by simp only [e1,e2,e3,e4,p1,p2,p3,q1,q2,q3,l1,t0,t1,r1,r2,r3,r4,Nat.zero_add,Nat.reduceMul,Nat.reduceAdd,b1,b2,b3,b4,b5,b6,i1,i2,i3,i4,i5,i6,Nat.reduceBEq,mtL,fz0,frz_c,List.getD_cons_zero,List.getD_cons_succ,List.set_cons_zero,List.set_cons_succ,Nat.reduceEqDiff,reduceIte,if_true,if_false,ptL_kill,poL_kill,kills_map ptE,kills_map poE,kills_map ratE,ratL_kill,spL_kill,LV.kill,kills];exact rfl):p:=e.mpr k
end H_c_SDet3
open H_c_SDet3 in
theorem c_SDet3 (a b c:Bx3) (R:Nat) (hR:R≤10000000) (ha:bdB R a) (hb:bdB R b) (hc:bdB R c):CallP Tryz.prog 93 [(mtL a b c)] (spL (d3S a b c)):=by
 obtain⟨a1,a2,a3⟩:=ha
 obtain⟨y1,y2,y3⟩:=hb
 obtain⟨z1,z2,z3⟩:=hc
 have hmt:=mtL_pure a b c
 have hcp:pures [.boxp (mtL a b c)]=true:=by simp [pures,LV.pure,mtL,spE.pure]
 have hcs:∀ x∈[LV.boxp (mtL a b c)],x.csize=1∧x.isAgg=false:=fun x hx=>by rw [List.mem_singleton.1 hx];exact⟨rfl,rfl⟩
 have k12:=c_SD312 a b c R hR ⟨a1,a2,a3⟩ ⟨y1,y2,y3⟩ ⟨z1,z2,z3⟩
 have k02:=c_SD302 a b c R hR ⟨a1,a2,a3⟩ ⟨y1,y2,y3⟩ ⟨z1,z2,z3⟩
 have k01:=c_SD301 a b c R hR ⟨a1,a2,a3⟩ ⟨y1,y2,y3⟩ ⟨z1,z2,z3⟩
 have hd12:=d2S_bd y2 z2 y3 z3
 have hd02:=d2S_bd a2 z2 a3 z3
 have hd01:=d2S_bd a2 y2 a3 y3
 have hmA:=muS_bd a1 hd12
 have hmB:=muS_bd y1 hd02
 have hmC:=muS_bd z1 hd01
 have hsAB:=sbS_bd hmA hmB
 refine fnP Tryz.func93 (ht:=(fun r=>LV.ren_pure r _ (spE.pure _))) ?_
 refine zg8 ?_
 refine st_opc [1] rfl rfl (.mk (caps:=[.boxp (mtL a b c)]) (.cons (.eptr rfl rfl rfl cs (at_all cs rfl) hmt rfl) .nil) hcs) rfl ?_
 refine zg4 ?_
 refine wl_regD 20 (by decide +kernel) ?_
 refine zg4 ?_
 refine st_opc [] rfl rfl (.clo (f:=167) (cap:=[.boxp (mtL a b c)]) (args:=[nI64 1,nI64 2]) rfl (.cons (.pure rfl) (.cons (.pure rfl) .nil)) ⟨hcp,hcs⟩ k12.1 (by decide) (fun _ h=>by cases h)) (k12.2 _) ?_
 refine cp am2 (c_SMul a.x (d2S b.y c.y b.z c.z) (4*R+1) (by omega) (a1.le (by omega)) hd12) ?_
 refine zg4 ?_
 refine st_opc [] rfl rfl (.clo (f:=167) (cap:=[.boxp (mtL a b c)]) (args:=[nI64 0,nI64 2]) rfl (.cons (.pure rfl) (.cons (.pure rfl) .nil)) ⟨hcp,hcs⟩ k02.1 (by decide) (fun _ h=>by cases h)) (k02.2 _) ?_
 refine cp am2 (c_SMul b.x (d2S a.y c.y a.z c.z) (4*R+1) (by omega) (y1.le (by omega)) hd02) ?_
 refine cp am2 (c_SSub (muS a.x (d2S b.y c.y b.z c.z)) (muS b.x (d2S a.y c.y a.z c.z)) (R+(4*R+1)) (by omega) hmA hmB) ?_
 refine zg4 ?_
 refine st_opc [] rfl rfl (.clo (f:=167) (cap:=[.boxp (mtL a b c)]) (args:=[nI64 0,nI64 1]) rfl (.cons (.pure rfl) (.cons (.pure rfl) .nil)) ⟨hcp,hcs⟩ k01.1 (by decide) (fun _ h=>by cases h)) (k01.2 _) ?_
 refine cp am2 (c_SMul c.x (d2S a.y b.y a.z b.z) (4*R+1) (by omega) (z1.le (by omega)) hd01) ?_
 refine cp am2 (c_SAdd (sbS (muS a.x (d2S b.y c.y b.z c.z)) (muS b.x (d2S a.y c.y a.z c.z))) (muS c.x (d2S a.y b.y a.z b.z)) (20*R+10) (by omega) (hsAB.le (by omega)) (hmC.le (by omega))) ?_
 refine zg4 ?_
 exact retC [] rfl rfl rfl (spE.csize _) (spL_all _) T50 (.pure (spE.pure _))
instance:Inhabited Bx3:=⟨⟨(0,0),(0,0),(0,0)⟩⟩
def rsT (l:List Bx3) (k:Nat):Nat→List Bx3
 | 0=>[]
 | i+1=>if i=k then rsT l k i else rsT l k i++[l.getD i default]
def dtK (l:List Bx3) (k:Nat):Rat × Rat:=d3S ((rsT l k 4).getD 0 default) ((rsT l k 4).getD 1 default) ((rsT l k 4).getD 2 default)
theorem rsT_bd {R:Nat} {l:List Bx3} {k:Nat} (h:∀ x∈l,bdB R x):∀ i,i≤l.length→∀ x∈rsT l k i,bdB R x
 | 0,_,x,hx=>by cases hx
 | i+1,hi,x,hx=>by
  unfold rsT at hx
  split at hx
  ·exact rsT_bd h i (by omega) x hx
  ·rcases List.mem_append.1 hx with g | g
   ·exact rsT_bd h i (by omega) x g
   ·rw [List.mem_singleton.1 g,List.getD_eq_getElem?_getD,List.getElem?_eq_getElem (by omega)]
    exact h _ (List.getElem_mem _)
theorem rsT_len4 (l:List Bx3) {k:Nat} (h:k<4):(rsT l k 4).length=3:=by
 have:k=0∨k=1∨k=2∨k=3:=by omega
 rcases this with rfl | rfl | rfl | rfl<;>simp [rsT]
theorem rsT_le (l:List Bx3) (k:Nat):∀ i,(rsT l k i).length≤i
 | 0=>Nat.le_refl _
 | i+1=>by
  have:=rsT_le l k i
  unfold rsT
  split
  ·omega
  ·rw [List.length_append];simp;omega
theorem bxAt {l:List Bx3} {i:Nat} (h:i<l.length):(l.map bxL)[((i:Nat):Int).toNat]?=some (bxL (l.getD i default)):=by
 rw [Int.toNat_natCast,List.getElem?_map,List.getD_eq_getElem?_getD,List.getElem?_eq_getElem h];rfl
theorem bxMem {l:List Bx3} {i:Nat} (h:i<l.length):l.getD i default∈l:=by
 rw [List.getD_eq_getElem?_getD,List.getElem?_eq_getElem h];exact List.getElem_mem h
theorem putQ0 {x y z u v:LV} (hx:x.csize=18) (hy:y.csize=18) (hz:z.csize=18) (hu:u.csize=18) (hv:v.csize=18) (xa:x.isAgg=true) (va:v.isAgg=true):(LV.agg [x,y,z,u]).put 0 v=some (.agg [v,y,z,u]):=by
 have:=put_whole x v (hx.trans hv.symm) (xa.trans va.symm)
 simp [LV.put,putFs,csizes,hx,hy,hz,hu,hv,this]
theorem putQ1 {x y z u v:LV} (hx:x.csize=18) (hy:y.csize=18) (hz:z.csize=18) (hu:u.csize=18) (hv:v.csize=18) (ya:y.isAgg=true) (va:v.isAgg=true):(LV.agg [x,y,z,u]).put 18 v=some (.agg [x,v,z,u]):=by
 have:=put_whole y v (hy.trans hv.symm) (ya.trans va.symm)
 simp [LV.put,putFs,csizes,hx,hy,hz,hu,hv,this]
theorem putQ2 {x y z u v:LV} (hx:x.csize=18) (hy:y.csize=18) (hz:z.csize=18) (hu:u.csize=18) (hv:v.csize=18) (za:z.isAgg=true) (va:v.isAgg=true):(LV.agg [x,y,z,u]).put 36 v=some (.agg [x,y,v,u]):=by
 have:=put_whole z v (hz.trans hv.symm) (za.trans va.symm)
 simp [LV.put,putFs,csizes,hx,hy,hz,hu,hv,this]
theorem putQ3 {x y z u v:LV} (hx:x.csize=18) (hy:y.csize=18) (hz:z.csize=18) (hu:u.csize=18) (hv:v.csize=18) (ua:u.isAgg=true) (va:v.isAgg=true):(LV.agg [x,y,z,u]).put 54 v=some (.agg [x,y,z,v]):=by
 have:=put_whole u v (hu.trans hv.symm) (ua.trans va.symm)
 simp [LV.put,putFs,csizes,hx,hy,hz,hu,hv,this]
theorem Zbx:ZeroOK Tryz.prog 92 (bxL ⟨(0,0),(0,0),(0,0)⟩):=by
 have:=Z92
 simpa only [bxL,spu] using this
namespace H_c_Meets
theorem zSm {p q:Prop} (k:q) (e:p=q:=by simp only [e1,e2,e3,e4,p1,p2,p3,q1,q2,q3,l1,t0,t1,r1,r2,r3,r4,Nat.zero_add,Nat.reduceMul,Nat.reduceAdd,b1,b2,b3,b4,b5,b6,i1,i2,i3,i4,i5,i6,Nat.reduceBEq,List.getD_cons_zero,List.getD_cons_succ,List.set_cons_zero,List.set_cons_succ,Nat.reduceEqDiff,reduceIte,if_true,if_false,ptL_kill,poL_kill,kills_map ptE,kills_map poE,kills_map ratE,ratL_kill,spL_kill,LV.kill,kills];exact rfl):p:=e.mpr k
end H_c_Meets
open H_c_Meets in
theorem c_Meets (a b:Bx3) (R:Nat) (hR:R≤1000000000) (ha:bdB R a) (hb:bdB R b) (hm0:meS a.x b.x=true) (hm1:meS a.y b.y=true) (hm2:meS a.z b.z=true):CallP Tryz.prog 38 [bxL a,bxL b] (bL true):=by
 obtain⟨a1,a2,a3⟩:=ha
 obtain⟨y1,y2,y3⟩:=hb
 refine fnP Tryz.func38 ?_
 refine zg14 ?_
 refine wl_unroll ?_
 refine zg6 ?_
 refine wl_condX (b:=_) rfl (by decide) ?_
 refine zg11 ?_
 refine wl_regF 11 [9] (by decide +kernel) ?_
 refine zg6 ?_
 refine cp am2 (c_SMeet a.x b.x R hR a1 y1 hm0) ?_
 refine zg14 ?_
 refine wl_condY (b:=_) rfl (rfl) ?_
 refine zg3 ?_
 refine wl_regW (Weak.kill _ 6) ?_
 refine zg4 ?_
 refine wl_unroll ?_
 refine zg6 ?_
 refine wl_condX (b:=_) rfl (by decide) ?_
 refine zg11 ?_
 refine wl_regF 11 [9] (by decide +kernel) ?_
 refine zg6 ?_
 refine cp am2 (c_SMeet a.y b.y R hR a2 y2 hm1) ?_
 refine zg14 ?_
 refine wl_condY (b:=_) rfl (rfl) ?_
 refine zg3 ?_
 refine wl_regW (Weak.kill _ 6) ?_
 refine zg4 ?_
 refine wl_unroll ?_
 refine zg6 ?_
 refine wl_condX (b:=_) rfl (by decide) ?_
 refine zg11 ?_
 refine wl_regF 11 [9] (by decide +kernel) ?_
 refine zg6 ?_
 refine cp am2 (c_SMeet a.z b.z R hR a3 y3 hm2) ?_
 refine zg14 ?_
 refine wl_condY (b:=_) rfl (rfl) ?_
 refine zg3 ?_
 refine wl_regW (Weak.kill _ 6) ?_
 refine zg4 ?_
 refine wl_unroll ?_
 refine zg6 ?_
 refine wl_condY (b:=_) rfl (by decide) ?_
 refine zg11 ?_
 exact ret1 rfl (.pure rfl)
namespace H_c_MeetsN
theorem zSm {p q:Prop} (k:q) (e:p=q:=by simp only [e1,e2,e3,e4,p1,p2,p3,q1,q2,q3,l1,t0,t1,r1,r2,r3,r4,Nat.zero_add,Nat.reduceMul,Nat.reduceAdd,b1,b2,b3,b4,b5,b6,i1,i2,i3,i4,i5,i6,Nat.reduceBEq,List.getD_cons_zero,List.getD_cons_succ,List.set_cons_zero,List.set_cons_succ,Nat.reduceEqDiff,reduceIte,if_true,if_false,ptL_kill,poL_kill,kills_map ptE,kills_map poE,kills_map ratE,ratL_kill,spL_kill,LV.kill,kills];exact rfl):p:=e.mpr k
end H_c_MeetsN
open H_c_MeetsN in
theorem c_MeetsN (a b:Bx3) (R:Nat) (hR:R≤1000000000) (ha:bdB R a) (hb:bdB R b) (hm0:meS a.x b.x=true) (hm1:meS a.y b.y=true) (hm2:meS a.z b.z=false):CallP Tryz.prog 38 [bxL a,bxL b] (bL false):=by
 obtain⟨a1,a2,a3⟩:=ha
 obtain⟨y1,y2,y3⟩:=hb
 refine fnP Tryz.func38 ?_
 refine zg14 ?_
 refine wl_unroll ?_
 refine zg6 ?_
 refine wl_condX (b:=_) rfl (by decide) ?_
 refine zg11 ?_
 refine wl_regF 11 [9] (by decide +kernel) ?_
 refine zg6 ?_
 refine cp am2 (c_SMeet a.x b.x R hR a1 y1 hm0) ?_
 refine zg14 ?_
 refine wl_condY (b:=_) rfl (rfl) ?_
 refine zg3 ?_
 refine wl_regW (Weak.kill _ 6) ?_
 refine zg4 ?_
 refine wl_unroll ?_
 refine zg6 ?_
 refine wl_condX (b:=_) rfl (by decide) ?_
 refine zg11 ?_
 refine wl_regF 11 [9] (by decide +kernel) ?_
 refine zg6 ?_
 refine cp am2 (c_SMeet a.y b.y R hR a2 y2 hm1) ?_
 refine zg14 ?_
 refine wl_condY (b:=_) rfl (rfl) ?_
 refine zg3 ?_
 refine wl_regW (Weak.kill _ 6) ?_
 refine zg4 ?_
 refine wl_unroll ?_
 refine zg6 ?_
 refine wl_condX (b:=_) rfl (by decide) ?_
 refine zg11 ?_
 refine wl_regF 11 [9] (by decide +kernel) ?_
 refine zg6 ?_
 refine cp am2 (c_SMeetN a.z b.z R hR a3 y3 hm2) ?_
 refine zg14 ?_
 refine wl_condX (b:=_) rfl (rfl) ?_
 refine zg11 ?_
 exact ret1 rfl (.pure rfl)
instance:UN Tryz.prog 164 (.array 4 92):=⟨Tryz.underlying164⟩
theorem T164:TyIs Tryz.prog 164 72 true:=⟨by kernel_rfl,_,Tryz.underlying164,rfl⟩
theorem B164:TyBytes Tryz.prog 164 1344:=⟨Tryz.t164,by kernel_rfl,rfl⟩
theorem Z164:ZeroOK Tryz.prog 164 (.agg [.agg [.agg [ratL 0,ratL 0],.agg [ratL 0,ratL 0],.agg [ratL 0,ratL 0]],.agg [.agg [ratL 0,ratL 0],.agg [ratL 0,ratL 0],.agg [ratL 0,ratL 0]],.agg [.agg [ratL 0,ratL 0],.agg [ratL 0,ratL 0],.agg [ratL 0,ratL 0]],.agg [.agg [ratL 0,ratL 0],.agg [ratL 0,ratL 0],.agg [ratL 0,ratL 0]]]):=⟨Tryz.t164,_,by kernel_rfl,rfl,by simp [LV.pure,pures,ratE.pure],fun _ _ _=>repAgg0 (repFs1 (c1:=[.bool false,.slice none 0 0,.slice none 0 0,.bool false,.slice none 0 0,.slice none 0 0,.bool false,.slice none 0 0,.slice none 0 0,.bool false,.slice none 0 0,.slice none 0 0,.bool false,.slice none 0 0,.slice none 0 0,.bool false,.slice none 0 0,.slice none 0 0]) (by simp [LV.csize,csizes,ratE.csize]) (repAgg0 (repFs1 (c1:=[.bool false,.slice none 0 0,.slice none 0 0,.bool false,.slice none 0 0,.slice none 0 0]) (by simp [LV.csize,csizes,ratE.csize]) (repAgg0 (repFs1 (c1:=[.bool false,.slice none 0 0,.slice none 0 0]) (by simp [LV.csize,csizes,ratE.csize]) (repRat0) (repFs1 (c1:=[.bool false,.slice none 0 0,.slice none 0 0]) (by simp [LV.csize,csizes,ratE.csize]) (repRat0) (repFs0)))) (repFs1 (c1:=[.bool false,.slice none 0 0,.slice none 0 0,.bool false,.slice none 0 0,.slice none 0 0]) (by simp [LV.csize,csizes,ratE.csize]) (repAgg0 (repFs1 (c1:=[.bool false,.slice none 0 0,.slice none 0 0]) (by simp [LV.csize,csizes,ratE.csize]) (repRat0) (repFs1 (c1:=[.bool false,.slice none 0 0,.slice none 0 0]) (by simp [LV.csize,csizes,ratE.csize]) (repRat0) (repFs0)))) (repFs1 (c1:=[.bool false,.slice none 0 0,.slice none 0 0,.bool false,.slice none 0 0,.slice none 0 0]) (by simp [LV.csize,csizes,ratE.csize]) (repAgg0 (repFs1 (c1:=[.bool false,.slice none 0 0,.slice none 0 0]) (by simp [LV.csize,csizes,ratE.csize]) (repRat0) (repFs1 (c1:=[.bool false,.slice none 0 0,.slice none 0 0]) (by simp [LV.csize,csizes,ratE.csize]) (repRat0) (repFs0)))) (repFs0))))) (repFs1 (c1:=[.bool false,.slice none 0 0,.slice none 0 0,.bool false,.slice none 0 0,.slice none 0 0,.bool false,.slice none 0 0,.slice none 0 0,.bool false,.slice none 0 0,.slice none 0 0,.bool false,.slice none 0 0,.slice none 0 0,.bool false,.slice none 0 0,.slice none 0 0]) (by simp [LV.csize,csizes,ratE.csize]) (repAgg0 (repFs1 (c1:=[.bool false,.slice none 0 0,.slice none 0 0,.bool false,.slice none 0 0,.slice none 0 0]) (by simp [LV.csize,csizes,ratE.csize]) (repAgg0 (repFs1 (c1:=[.bool false,.slice none 0 0,.slice none 0 0]) (by simp [LV.csize,csizes,ratE.csize]) (repRat0) (repFs1 (c1:=[.bool false,.slice none 0 0,.slice none 0 0]) (by simp [LV.csize,csizes,ratE.csize]) (repRat0) (repFs0)))) (repFs1 (c1:=[.bool false,.slice none 0 0,.slice none 0 0,.bool false,.slice none 0 0,.slice none 0 0]) (by simp [LV.csize,csizes,ratE.csize]) (repAgg0 (repFs1 (c1:=[.bool false,.slice none 0 0,.slice none 0 0]) (by simp [LV.csize,csizes,ratE.csize]) (repRat0) (repFs1 (c1:=[.bool false,.slice none 0 0,.slice none 0 0]) (by simp [LV.csize,csizes,ratE.csize]) (repRat0) (repFs0)))) (repFs1 (c1:=[.bool false,.slice none 0 0,.slice none 0 0,.bool false,.slice none 0 0,.slice none 0 0]) (by simp [LV.csize,csizes,ratE.csize]) (repAgg0 (repFs1 (c1:=[.bool false,.slice none 0 0,.slice none 0 0]) (by simp [LV.csize,csizes,ratE.csize]) (repRat0) (repFs1 (c1:=[.bool false,.slice none 0 0,.slice none 0 0]) (by simp [LV.csize,csizes,ratE.csize]) (repRat0) (repFs0)))) (repFs0))))) (repFs1 (c1:=[.bool false,.slice none 0 0,.slice none 0 0,.bool false,.slice none 0 0,.slice none 0 0,.bool false,.slice none 0 0,.slice none 0 0,.bool false,.slice none 0 0,.slice none 0 0,.bool false,.slice none 0 0,.slice none 0 0,.bool false,.slice none 0 0,.slice none 0 0]) (by simp [LV.csize,csizes,ratE.csize]) (repAgg0 (repFs1 (c1:=[.bool false,.slice none 0 0,.slice none 0 0,.bool false,.slice none 0 0,.slice none 0 0]) (by simp [LV.csize,csizes,ratE.csize]) (repAgg0 (repFs1 (c1:=[.bool false,.slice none 0 0,.slice none 0 0]) (by simp [LV.csize,csizes,ratE.csize]) (repRat0) (repFs1 (c1:=[.bool false,.slice none 0 0,.slice none 0 0]) (by simp [LV.csize,csizes,ratE.csize]) (repRat0) (repFs0)))) (repFs1 (c1:=[.bool false,.slice none 0 0,.slice none 0 0,.bool false,.slice none 0 0,.slice none 0 0]) (by simp [LV.csize,csizes,ratE.csize]) (repAgg0 (repFs1 (c1:=[.bool false,.slice none 0 0,.slice none 0 0]) (by simp [LV.csize,csizes,ratE.csize]) (repRat0) (repFs1 (c1:=[.bool false,.slice none 0 0,.slice none 0 0]) (by simp [LV.csize,csizes,ratE.csize]) (repRat0) (repFs0)))) (repFs1 (c1:=[.bool false,.slice none 0 0,.slice none 0 0,.bool false,.slice none 0 0,.slice none 0 0]) (by simp [LV.csize,csizes,ratE.csize]) (repAgg0 (repFs1 (c1:=[.bool false,.slice none 0 0,.slice none 0 0]) (by simp [LV.csize,csizes,ratE.csize]) (repRat0) (repFs1 (c1:=[.bool false,.slice none 0 0,.slice none 0 0]) (by simp [LV.csize,csizes,ratE.csize]) (repRat0) (repFs0)))) (repFs0))))) (repFs1 (c1:=[.bool false,.slice none 0 0,.slice none 0 0,.bool false,.slice none 0 0,.slice none 0 0,.bool false,.slice none 0 0,.slice none 0 0,.bool false,.slice none 0 0,.slice none 0 0,.bool false,.slice none 0 0,.slice none 0 0,.bool false,.slice none 0 0,.slice none 0 0]) (by simp [LV.csize,csizes,ratE.csize]) (repAgg0 (repFs1 (c1:=[.bool false,.slice none 0 0,.slice none 0 0,.bool false,.slice none 0 0,.slice none 0 0]) (by simp [LV.csize,csizes,ratE.csize]) (repAgg0 (repFs1 (c1:=[.bool false,.slice none 0 0,.slice none 0 0]) (by simp [LV.csize,csizes,ratE.csize]) (repRat0) (repFs1 (c1:=[.bool false,.slice none 0 0,.slice none 0 0]) (by simp [LV.csize,csizes,ratE.csize]) (repRat0) (repFs0)))) (repFs1 (c1:=[.bool false,.slice none 0 0,.slice none 0 0,.bool false,.slice none 0 0,.slice none 0 0]) (by simp [LV.csize,csizes,ratE.csize]) (repAgg0 (repFs1 (c1:=[.bool false,.slice none 0 0,.slice none 0 0]) (by simp [LV.csize,csizes,ratE.csize]) (repRat0) (repFs1 (c1:=[.bool false,.slice none 0 0,.slice none 0 0]) (by simp [LV.csize,csizes,ratE.csize]) (repRat0) (repFs0)))) (repFs1 (c1:=[.bool false,.slice none 0 0,.slice none 0 0,.bool false,.slice none 0 0,.slice none 0 0]) (by simp [LV.csize,csizes,ratE.csize]) (repAgg0 (repFs1 (c1:=[.bool false,.slice none 0 0,.slice none 0 0]) (by simp [LV.csize,csizes,ratE.csize]) (repRat0) (repFs1 (c1:=[.bool false,.slice none 0 0,.slice none 0 0]) (by simp [LV.csize,csizes,ratE.csize]) (repRat0) (repFs0)))) (repFs0))))) (repFs0)))))⟩
instance:TI Tryz.prog 164 72 true:=⟨T164⟩
instance:BI Tryz.prog 164 1344:=⟨B164⟩
instance:ZI Tryz.prog 164 (.agg [.agg [.agg [ratL 0,ratL 0],.agg [ratL 0,ratL 0],.agg [ratL 0,ratL 0]],.agg [.agg [ratL 0,ratL 0],.agg [ratL 0,ratL 0],.agg [ratL 0,ratL 0]],.agg [.agg [ratL 0,ratL 0],.agg [ratL 0,ratL 0],.agg [ratL 0,ratL 0]],.agg [.agg [ratL 0,ratL 0],.agg [ratL 0,ratL 0],.agg [ratL 0,ratL 0]]]):=⟨Z164⟩
instance:EC Tryz.prog 92 bxL 18 true ⟨(0,0),(0,0),(0,0)⟩:=⟨bxE,Zbx,T92⟩
namespace H_c_test
theorem zSm {p q:Prop} (k:q) (e:p=q:=by simp only [e1,e2,e3,e4,p1,p2,p3,q1,q2,q3,l1,t0,t1,r1,r2,r3,r4,Nat.zero_add,Nat.reduceMul,Nat.reduceAdd,b1,b2,b3,b4,b5,b6,i1,i2,i3,i4,i5,i6,Nat.reduceBEq,hLm,hsk,htk,hZc,hs,ht,hsa,hta,erl,ers,eir,etk,fz0,frz_c,kills_map bxE,bxL_kill,List.length_map,List.getD_cons_zero,List.getD_cons_succ,take_map_len,map_snoc,len_snoc,List.length_cons,List.length_nil,List.nil_append,List.map_nil,List.take_nil,List.append_nil,List.set_cons_zero,List.set_cons_succ,Nat.reduceEqDiff,reduceIte,if_true,if_false,ptL_kill,poL_kill,kills_map ptE,kills_map poE,kills_map ratE,ratL_kill,spL_kill,LV.kill,kills];exact rfl):p:=e.mpr k
end H_c_test
open H_c_test in
theorem c_test (s t:LV) (hs:s.csize=5) (hsa:s.isAgg=true) (hsp:s.pure=true) (ht:t.csize=5) (hta:t.isAgg=true) (htp:t.pure=true) (xa xb xc xd:Bx3) (R:Nat) (hR:R≤10000000) (ha0:bdB R xa) (ha1:bdB R xb) (hb0:bdB R xc) (hb1:bdB R xd) (hD1:CallP Tryz.prog 90 [s] (.tup [bxL xa,bxL xb])) (hD2:CallP Tryz.prog 90 [t] (.tup [bxL xc,bxL xd])) (k0:Nat) (hk0:k0<4) (hlow:∀ k,k<k0→hasR (dtK [xa,xb,ngB xc,ngB xd] k) 0=true) (hhit:hasR (dtK [xa,xb,ngB xc,ngB xd] k0) 0=false):CallP Tryz.prog 40 [s,t] (.agg [.v (.bool false),iL 4,nI64 k0]):=by
 obtain⟨Lb,hLe⟩:∃ Lb,Lb=[xa,xb,ngB xc,ngB xd]:=⟨_,rfl⟩
 have hL4:Lb.length=4:=by rw [hLe];rfl
 have hLm:.agg [bxL xa,bxL xb,bxL (ngB xc),bxL (ngB xd)]=LV.agg (Lb.map bxL):=by rw [hLe];rfl
 have hLc:(LV.agg (Lb.map bxL)).csize=72:=by rw [←hLm];simp [LV.csize,csizes,spE.csize]
 have hLb:∀ x∈Lb,bdB R x:=by
  rw [hLe]
  intro x hx
  simp only [List.mem_cons,List.not_mem_nil,or_false] at hx
  rcases hx with rfl | rfl | rfl | rfl
  ·exact ha0
  ·exact ha1
  ·exact ngB_bd hb0
  ·exact ngB_bd hb1
 rw [←hLe] at hlow hhit
 have hM1:=c_sMin xc R (by omega) hb0
 have hM2:=c_sMin xd R (by omega) hb1
 have hsk:∀ b,LV.kill b s=s:=fun b=>LV.kill_pure b s hsp
 have htk:∀ b,LV.kill b t=t:=fun b=>LV.kill_pure b t htp
 have hZc:(LV.agg [.agg [.agg [ratL 0,ratL 0],.agg [ratL 0,ratL 0],.agg [ratL 0,ratL 0]],.agg [.agg [ratL 0,ratL 0],.agg [ratL 0,ratL 0],.agg [ratL 0,ratL 0]],.agg [.agg [ratL 0,ratL 0],.agg [ratL 0,ratL 0],.agg [ratL 0,ratL 0]],.agg [.agg [ratL 0,ratL 0],.agg [ratL 0,ratL 0],.agg [ratL 0,ratL 0]]]).csize=72:=by simp [LV.csize,csizes,ratE.csize]
 refine fnP Tryz.func40 (ht:=(fun g=>LV.ren_pure g _ rfl)) ?_
 have erl:True:=trivial
 have ers:True:=trivial
 have eir:True:=trivial
 have etk:True:=trivial
 refine zg14 ?_
 refine st_pure rfl (.loadE rfl rfl rfl rfl hs (at_all hs hsa) T29) ?_
 refine st_callP rfl (.cons (.pure hsp) .nil) (hD1) ?_
 refine zg4 ?_
 refine st_store rfl (.stp (v:=bxL xa) rfl rfl rfl rfl (by simp [LV.csize,csizes,spE.csize,ratE.csize]) (by simp [LV.csize,csizes,spE.csize,ratE.csize]) rfl (putQ0 (by simp [LV.csize,csizes,spE.csize,ratE.csize]) (by simp [LV.csize,csizes,spE.csize,ratE.csize]) (by simp [LV.csize,csizes,spE.csize,ratE.csize]) (by simp [LV.csize,csizes,spE.csize,ratE.csize]) (by simp [LV.csize,csizes,spE.csize,ratE.csize]) rfl rfl) ⟨by simp [bxL],by simp [bxL]⟩) ?_
 refine zg1 ?_
 refine st_store rfl (.stp (v:=bxL xb) rfl rfl rfl rfl (by simp [LV.csize,csizes,spE.csize,ratE.csize]) (by simp [LV.csize,csizes,spE.csize,ratE.csize]) rfl (putQ1 (by simp [LV.csize,csizes,spE.csize,ratE.csize]) (by simp [LV.csize,csizes,spE.csize,ratE.csize]) (by simp [LV.csize,csizes,spE.csize,ratE.csize]) (by simp [LV.csize,csizes,spE.csize,ratE.csize]) (by simp [LV.csize,csizes,spE.csize,ratE.csize]) rfl rfl) ⟨by simp [bxL],by simp [bxL]⟩) ?_
 refine zg4 ?_
 refine st_pure rfl (.loadE rfl rfl rfl rfl ht (at_all ht hta) T29) ?_
 refine st_callP rfl (.cons (.pure htp) .nil) (hD2) ?_
 refine zg10 ?_
 refine wl_regAW ((Weak.boxp (t:=6) (b:=6) rfl rfl cs rfl (bxE.pure _)).trans (Weak.boxp (t:=7) (b:=7) rfl rfl (by simp only [LV.kill,kills,spL_kill];exact cs) rfl (by simp only [LV.kill,kills,spL_kill];exact bxE.pure xd))) ?_
 refine zSm ?_
 refine any_hoistC 0 rfl rfl (by decide +kernel) (.pure (.ldbx rfl (bxE.pure _) cs rfl)) (fun b=>show LV.kill b (bxL xc)=bxL xc from bxL_kill _ b) fmA ?_
 refine any_hoistC 1 rfl rfl (by decide +kernel) (opvP (.cons (.pure (bxE.pure _)) .nil) hM1) (fun b=>show LV.kill b (bxL (ngB xc))=bxL (ngB xc) from bxL_kill _ b) (And.intro (fun _=>rfl) (And.intro (fun b=>show LV.kill b (bxL xc)=bxL xc from bxL_kill _ b) trivial)) ?_
 refine any_hoistC 2 rfl rfl (by decide +kernel) (.pure (.ldbx rfl (bxE.pure _) cs rfl)) (fun b=>show LV.kill b (bxL xd)=bxL xd from bxL_kill _ b) fmA ?_
 refine any_hoistC 3 rfl rfl (by decide +kernel) (opvP (.cons (.pure (bxE.pure _)) .nil) hM2) (fun b=>show LV.kill b (bxL (ngB xd))=bxL (ngB xd) from bxL_kill _ b) (And.intro (fun _=>rfl) (And.intro (fun b=>show LV.kill b (bxL xd)=bxL xd from bxL_kill _ b) trivial)) ?_
 refine any_1 4 _ (by decide +kernel) rfl ?_
 refine zg1 ?_
 refine st_nil ?_
 refine any_1 5 _ (by decide +kernel) rfl ?_
 refine st_store rfl (.stp (v:=bxL (ngB xc)) rfl rfl rfl rfl (by simp [LV.csize,csizes,spE.csize,ratE.csize]) (by simp [LV.csize,csizes,spE.csize,ratE.csize]) rfl (putQ2 (by simp [LV.csize,csizes,spE.csize,ratE.csize]) (by simp [LV.csize,csizes,spE.csize,ratE.csize]) (by simp [LV.csize,csizes,spE.csize,ratE.csize]) (by simp [LV.csize,csizes,spE.csize,ratE.csize]) (by simp [LV.csize,csizes,spE.csize,ratE.csize]) rfl rfl) ⟨by simp [bxL],by simp [bxL]⟩) ?_
 refine st_nil ?_
 refine any_1 6 _ (by decide +kernel) rfl ?_
 refine zg1 ?_
 refine st_nil ?_
 refine any_1 7 _ (by decide +kernel) rfl ?_
 refine st_store rfl (.stp (v:=bxL (ngB xd)) rfl rfl rfl rfl (by simp [LV.csize,csizes,spE.csize,ratE.csize]) (by simp [LV.csize,csizes,spE.csize,ratE.csize]) rfl (putQ3 (by simp [LV.csize,csizes,spE.csize,ratE.csize]) (by simp [LV.csize,csizes,spE.csize,ratE.csize]) (by simp [LV.csize,csizes,spE.csize,ratE.csize]) (by simp [LV.csize,csizes,spE.csize,ratE.csize]) (by simp [LV.csize,csizes,spE.csize,ratE.csize]) rfl rfl) ⟨by simp [bxL],by simp [bxL]⟩) ?_
 refine st_nil ?_
 refine any_0 (by decide +kernel) ?_
 refine zg8 ?_
 refine wl_weak (((Weak.kill _ 2).trans (Weak.kill _ 3))) ?_
 refine lp1 (fun(k:Nat) L=>((((St.mk L.slot (hp [(4,⟨3,[.agg [.v (.bool false),.v (.int .i64 0),.v (.int .i64 0)]],true⟩),(5,⟨72,[.agg (Lb.map bxL)],true⟩)])).put (some 4) (.eptr 4 3 0 0)).put (some 5) (.eptr 5 72 0 0)).put (some 30) (nI64 k))) (fun k=>k≤k0) (fun k=>k0-k) 0 (Nat.zero_le _) ?_
 rintro k L1 hk
 refine zg6 ?_
 refine wl_if rfl (fun h31r h31=>?_) (fun h31r h31=>?_)
 ·refine zg12 ?_
  refine st_alloc rfl rfl (.makeM (n:=0) (m:=3) bxE Tryz.underlying168 Zbx T92 B92 rfl rfl (by omega) (by omega) (by omega)) ?_
  refine zg6 ?_
  refine st_pure rfl (.loadE rfl rfl rfl rfl hLc (at_all hLc rfl) T164) ?_
  refine zg4 ?_
  refine lp1 (fun(i:Nat) L=>((((((((St.mk L.slot (hp [(4,⟨3,[.agg [.v (.bool false),.v (.int .i64 0),.v (.int .i64 0)]],true⟩),(5,⟨72,[.agg (Lb.map bxL)],true⟩),(33,⟨18,(rsT Lb k i).map bxL,true⟩)])).put (some 4) (.eptr 4 3 0 0)).put (some 5) (.eptr 5 72 0 0)).put (some 30) (nI64 k)).put (some 8) (nI64 k)).put (some 9) (.ref 33 18 0 (rsT Lb k i).length)).put (some 34) (.agg (Lb.map bxL))).put (some 35) (nI64 i))) (fun i=>i≤4) (fun i=>4-i) 0 (Nat.zero_le _) ?_
  rintro i L2 hi
  refine zg6 ?_
  refine wl_if rfl (fun h36r h36=>?_) (fun h36r h36=>?_)
  ·have hi2:i<4:=by omega
   have hle:=rsT_le Lb k i
   have etk:((rsT Lb k i).map bxL).take (rsT Lb k i).length=(rsT Lb k i).map bxL:=List.take_of_length_le (by simp)
   refine zg7 ?_
   refine st_pure rfl (.ixa (fs:=Lb.map bxL) rfl rfl (by omega) (bxAt (by omega)) (bxE.pure _) (by simp [hLe,lay,LV.csize,csizes,isAgg_agg,spE.csize,spE.isAgg])) ?_
   refine zg12 ?_
   refine wl_if rfl (fun h41r h41=>?_) (fun h41r h41=>?_)
   ·have hne:i≠k:=by omega
    have ers:(rsT Lb k i)++[(Lb.getD i default)]=(rsT Lb k (i+1)):=by rw [rsT,if_neg hne]
    have erl:(rsT Lb k i).length+1=(rsT Lb k (i+1)).length:=by rw [←ers];simp
    refine zg3 ?_
    refine st_alloc rfl rfl (.lit1 (a:=(Lb.getD i default)) (z:=⟨(0,0),(0,0),(0,0)⟩) bxE Tryz.underlying168 Zbx T92 rfl (by decide) (by decide)) ?_
    refine st_store rfl (.appX (d:=33) (news:=[bxL (Lb.getD i default)]) rfl rfl rfl rfl (by rw [List.length_map];omega) (.inl rfl) (by decide) Tryz.underlying168 Tryz.underlying168 Zbx T92 cs B92 (.inl ⟨44,0,_,rfl,by decide,rfl,rfl,by simp,rfl,by simp [pures,bxE.pure]⟩) (by simp;omega) (by simp;omega) (by decide)) ?_
    refine zg4 ?_
    refine wl_regW ((Weak.kill _ 11).trans (Weak.kill _ 44)) ?_
    refine st_pure rfl (.bin rfl rfl (add1N (by omega))) ?_
    refine zg3 ?_
    exact nx1 (i+1) (by omega)
   ·have hne:i=k:=by omega
    have eir:(rsT Lb k (i+1))=(rsT Lb k i):=by rw [rsT,if_pos hne]
    refine zg3 ?_
    refine wl_regW ((Weak.kill _ 11).trans (Weak.kill _ 44)) ?_
    refine st_pure rfl (.bin rfl rfl (add1N (by omega))) ?_
    refine zg3 ?_
    exact nx1 (i+1) (by omega)
  ·obtain rfl:i=4:=by omega
   have erl:=rsT_len4 Lb (show k<4 by omega)
   have hrb:=rsT_bd hLb (k:=k) 4 (by omega)
   have hg0:=hrb _ (bxMem (l:=(rsT Lb k 4)) (i:=0) (by omega))
   have hg1:=hrb _ (bxMem (l:=(rsT Lb k 4)) (i:=1) (by omega))
   have hg2:=hrb _ (bxMem (l:=(rsT Lb k 4)) (i:=2) (by omega))
   have hdb:=d3S_bd hg0 hg1 hg2
   have hDT:=c_SDet3 ((rsT Lb k 4).getD 0 default) ((rsT Lb k 4).getD 1 default) ((rsT Lb k 4).getD 2 default) R hR hg0 hg1 hg2
   have hHs:=c_SHas (dtK Lb k) 0 (by have:=hdb.1;have:rl 0=1:=rfl;show rl (d3S _ _ _).1+_≤_;omega) (by have:=hdb.2;have:rl 0=1:=rfl;show _+rl (d3S _ _ _).2≤_;omega)
   refine zg6 ?_
   refine wl_regD 14 (by decide +kernel) ?_
   refine zg9 ?_
   refine zSm ?_
   refine st_callP rfl (.cons (.pure (bxE.pure _)) (.cons (.pure (bxE.pure _)) (.cons (.pure (bxE.pure _)) .nil))) (c_sCol ((rsT Lb k 4).getD 0 default) ((rsT Lb k 4).getD 1 default) ((rsT Lb k 4).getD 2 default)) ?_
   refine st_callP rfl (.cons (.pure (mtL_pure _ _ _)) .nil) (hDT) ?_
   refine st_pure rfl (.build0 SL32 Z32a) ?_
   try refine zSm ?_
   refine st_callP rfl (.cons (.pure (spE.pure _)) (.cons (.pure (ratE.pure _)) .nil)) (hHs) ?_
   refine zg3 ?_
   refine wl_if rfl (fun h60r h60=>?_) (fun h60r h60=>?_)
   ·have hkk:k=k0:=by
     rcases Nat.lt_or_ge k k0 with g | g
     ·have:=hlow k g
      simp_all
     ·omega
    refine zg13 ?_
    obtain rfl:=hkk
    exact retC [] rfl rfl rfl rfl (at_all rfl rfl) T87 (.pure rfl)
   ·have hkk:k<k0:=by
     rcases Nat.lt_or_ge k k0 with g | g
     ·exact g
     ·obtain rfl:k=k0:=by omega
      simp_all
    refine zg3 ?_
    refine wl_regW (Weak.kill _ 33) ?_
    refine st_pure rfl (.bin rfl rfl (add1N (by omega))) ?_
    refine zg3 ?_
    exact nx1 (k+1) (by omega)
 ·omega
def prcL (d w:Nat):LV:=.agg [nI64 d,nI64 w,ratL 0]
theorem prcL_pure (d w:Nat):(prcL d w).pure=true:=by simp [prcL,LV.pure,pures,ratE.pure]
theorem take_snocS {l:List (Rat × Rat)} {k:Nat} (h:k<l.length):l.take k++[l.getD k default]=l.take (k+1):=by
 rw [List.take_add_one,List.getElem?_eq_getElem h,List.getD_eq_getElem?_getD,List.getElem?_eq_getElem h];rfl
theorem memS {l:List (Rat × Rat)} {k:Nat} (h:k<l.length):l.getD k default∈l:=by
 rw [List.getD_eq_getElem?_getD,List.getElem?_eq_getElem h];exact List.getElem_mem h
theorem lit1V {P:Program} {ρ:Operand→LV} {T E:TypeId} {x:Operand} {d sz:Nat} {ag:Bool} {z v:LV} (hT:P.underlying T=some (.slice E)) (hz:ZeroOK P E z) (hzc:z.csize=sz) (hza:z.isAgg=ag) (hE:TyIs P E sz ag)
  (hx:ρ x=v) (hvc:v.csize=sz) (hva:v.isAgg=ag) (hvp:v.pure=true) (hs:0<sz) (h63:sz≤1000):OpA P ρ d (.buildSlice T 1 #[(0,x)]) (.ref d sz 0 1) ⟨sz,[v],true⟩:=by
 have:=OpA.lit (P:=P) (ρ:=ρ) (d:=d) (T:=T) (n:=1) (ps:=#[(0,x)]) hT hz (by rw [hza];exact hE) hzc (by omega) (by omega) (by omega) (by
  intro p hp
  simp only [List.mem_singleton] at hp
  subst hp
  refine⟨by simp,?_,by rw [hx];exact LV.pure_ne_any hvp,by rw [hx];exact LV.pure_ne_tup hvp⟩
  simp [lay,hx,hvc,hva,hzc,hza])
 simpa [buildL,hx,List.replicate] using this
namespace H_c_SpsCopO
theorem zSm {p q:Prop} (k:q) (e:p=q:=by simp only [e1,e2,e3,e4,p1,p2,p3,q1,q2,q3,l1,t0,t1,r1,r2,r3,r4,Nat.zero_add,Nat.reduceMul,Nat.reduceAdd,b1,b2,b3,b4,b5,b6,i1,i2,i3,i4,i5,i6,Nat.reduceBEq,ers,etk,kills_map spE,List.length_map,take_map_len,map_snoc,len_snoc,List.length_cons,List.length_nil,List.nil_append,List.map_nil,List.take_nil,List.append_nil,List.set_cons_zero,List.set_cons_succ,Nat.reduceEqDiff,reduceIte,if_true,if_false,ptL_kill,poL_kill,kills_map ptE,kills_map poE,kills_map ratE,ratL_kill,spL_kill,LV.kill,kills];exact rfl):p:=e.mpr k
end H_c_SpsCopO
open H_c_SpsCopO in
theorem c_SpsCopO (l:List (Rat × Rat)) (h0:0<l.length) (hl:l.length≤1000) (hb:∀ s∈l,bdS 1000000 s∧s.1≤s.2):CallOK Tryz.prog 78 [.list 6 (l.map spL)] (.ref 1 6 0 l.length) [⟨6,l.map spL,true⟩]:=by
 refine fnO Tryz.func78 ?_
 have ers:True:=trivial
 have etk:True:=trivial
 refine zg19 ?_
 refine wl_weak (Weak.own (t:=3) 19 6 rfl rfl) ?_
 refine lp1 (fun(k:Nat) L=>(((((St.mk L.slot (hp [(19,⟨6,(l.take k).map spL,true⟩)])).put (some 3) (.ref 19 6 0 k)).put (some 6) (.list 6 (l.map spL))).put (some 7) (nI64 l.length)).put (some 8) (nI64 k))) (fun k=>k≤l.length) (fun k=>l.length-k) 0 (Nat.zero_le _) ?_
 rintro k L1 hk
 refine zg6 ?_
 refine wl_if rfl (fun h9r h9=>?_) (fun h9r h9=>?_)
 ·have hk2:k<l.length:=by omega
  obtain⟨⟨hs1,hs2⟩,hs3⟩:=hb _ (memS hk2)
  have ers:=take_snocS hk2
  have etk:((l.take k).map spL).take k=(l.take k).map spL:=List.take_of_length_le (by rw [List.length_map,List.length_take];omega)
  have hSO:CallP Tryz.prog 76 [ratL (l.getD k default).1,ratL (l.getD k default).2] (spL (l.getD k default)):=by
   have:=c_SOf (l.getD k default).1 (l.getD k default).2 (by omega)
   have e1x:mnR (l.getD k default).1 (l.getD k default).2=(l.getD k default).1:=by unfold mnR;split<;>grind
   have e2x:mxR (l.getD k default).1 (l.getD k default).2=(l.getD k default).2:=by unfold mxR;split<;>grind
   rw [e1x,e2x] at this
   exact this
  refine zg18 ?_
  refine cp am2 (hSO) ?_
  refine zg1 ?_
  refine st_store rfl (.appX (d:=19) (news:=[spL (l.getD k default)]) rfl rfl rfl rfl (by simp;omega) (.inl rfl) (by decide) Tryz.underlying46 Tryz.underlying46 Z50s (by rw [spE.isAgg];exact T50) cs B50 (.inl ⟨18,0,_,rfl,by decide,rfl,rfl,by simp,rfl,by simp [pures,spE.pure]⟩) (by simp;omega) (by simp;omega) (by decide)) ?_
  refine zg4 ?_
  refine wl_regW ((Weak.kill _ 5).trans (Weak.kill _ 18)) ?_
  refine st_pure rfl (.bin rfl rfl (add1N (by omega))) ?_
  refine zg3 ?_
  exact nx1 (k+1) (by omega)
 ·obtain rfl:k=l.length:=by omega
  have hE:l.take l.length=l:=List.take_length
  refine zg12 ?_
  simp only [hE]
  exact ret1own rfl rfl (pures_map spE _)
namespace H_c_sVal
theorem zSm {p q:Prop} (k:q) (e:p=q:=by simp only [e1,e2,e3,e4,p1,p2,p3,q1,q2,q3,l1,t0,t1,r1,r2,r3,r4,Nat.zero_add,Nat.reduceMul,Nat.reduceAdd,b1,b2,b3,b4,b5,b6,i1,i2,i3,i4,i5,i6,Nat.reduceBEq,prcL,List.getD_cons_zero,List.set_cons_zero,List.set_cons_succ,Nat.reduceEqDiff,reduceIte,if_true,if_false,ptL_kill,poL_kill,kills_map ptE,kills_map poE,kills_map ratE,ratL_kill,spL_kill,LV.kill,kills];exact rfl):p:=e.mpr k
end H_c_sVal
open H_c_sVal in
theorem c_sVal (d w:Nat) (hd:d≤24) (hw:w≤4096):CallP Tryz.prog 32 [prcL d w] (bL true):=by
 have hVa:=c_RValid 0 (by have:rl 0=1:=rfl;omega)
 have hSg:=c_RSign 0 (by have:rl 0=1:=rfl;omega)
 refine fnP Tryz.func32 ?_
 refine zg12 ?_
 refine st_pure (guardX (v:=true) rfl rfl ((decide_eq_true (by omega))) rfl) faA ?_
 refine st_pure (guardX (v:=true) rfl rfl ((decide_eq_true (by omega))) rfl) ldA ?_
 refine st_pure (guardX (v:=true) rfl rfl ((decide_eq_true (by omega))) rfl) (.bin rfl rfl rfl) ?_
 refine st_pure rfl (.pickT rfl ((decide_eq_true (by omega)))) ?_
 refine zg1 ?_
 refine st_pure (guardX (v:=true) rfl rfl ((decide_eq_true (by omega))) rfl) faA ?_
 refine st_pure (guardX (v:=true) rfl rfl ((decide_eq_true (by omega))) rfl) ldA ?_
 refine st_pure (guardX (v:=true) rfl rfl ((decide_eq_true (by omega))) rfl) (.bin rfl rfl rfl) ?_
 refine st_pure rfl (.pickT rfl ((decide_eq_true (by omega)))) ?_
 refine zg1 ?_
 refine st_pure (guardX (v:=true) rfl rfl ((decide_eq_true (by omega))) rfl) faA ?_
 refine st_pure (guardX (v:=true) rfl rfl ((decide_eq_true (by omega))) rfl) ldA ?_
 refine st_pure (guardX (v:=true) rfl rfl ((decide_eq_true (by omega))) rfl) (.bin rfl rfl rfl) ?_
 refine st_pure rfl (.pickT rfl ((decide_eq_true (by omega)))) ?_
 refine zg1 ?_
 refine st_pure (guardX (v:=true) rfl rfl ((decide_eq_true (by omega))) rfl) faA ?_
 refine st_pure (guardX (v:=true) rfl rfl ((decide_eq_true (by omega))) rfl) ldA ?_
 refine st_callP (guardX (v:=true) rfl rfl ((decide_eq_true (by omega))) rfl) (.cons im0 .nil) (hVa) ?_
 refine st_pure rfl (.pickT rfl ((decide_eq_true (by omega)))) ?_
 refine zg1 ?_
 refine st_pure (guardX (v:=true) rfl rfl ((rfl)) rfl) faA ?_
 refine st_pure (guardX (v:=true) rfl rfl ((rfl)) rfl) ldA ?_
 refine st_callP (guardX (v:=true) rfl rfl ((rfl)) rfl) (.cons im0 .nil) (hSg) ?_
 refine st_pure (guardX (v:=true) rfl rfl ((rfl)) rfl) (.bin rfl rfl rfl) ?_
 refine st_pure rfl (.pickT rfl ((rfl))) ?_
 refine zg4 ?_
 refine ret1 (x:=bL (decide (sgnR 0≥0))) rfl ?_
 rw [show decide (sgnR 0≥0)=true from by decide +kernel]
 exact .pure rfl
namespace H_c_sPat
theorem zSm {p q:Prop} (k:q) (e:p=q:=by simp only [e1,e2,e3,e4,p1,p2,p3,q1,q2,q3,l1,t0,t1,r1,r2,r3,r4,Nat.zero_add,Nat.reduceMul,Nat.reduceAdd,b1,b2,b3,b4,b5,b6,i1,i2,i3,i4,i5,i6,Nat.reduceBEq,fz0,frz_c,hda,hdb,List.getD_cons_zero,List.getD_cons_succ,List.length_map,Nat.reduceSub,take_map_len,map_snoc,len_snoc,List.length_cons,List.length_nil,List.nil_append,List.map_nil,List.take_nil,List.append_nil,prL_kill,kills_map prE,dfr,dfq,take_map_len,map_snoc,len_snoc,List.length_cons,List.length_nil,List.nil_append,List.map_nil,List.take_nil,List.append_nil,List.set_cons_zero,List.set_cons_succ,Nat.reduceEqDiff,reduceIte,if_true,if_false,ptL_kill,poL_kill,kills_map ptE,kills_map poE,kills_map ratE,ratL_kill,spL_kill,LV.kill,kills];exact rfl):p:=e.mpr k
end H_c_sPat
open H_c_sPat in
theorem c_sPat (R U V:Nat) (ua ub va vb:Rat) (rows:List (List PoR)) (h:pf R U V rows) (hR:R≤64) (hu:ua<ub) (hv:va<vb) (h1:rl ua≤64) (h2:rl ub≤64) (h3:rl va≤64) (h4:rl vb≤64):CallP Tryz.prog 33 [.agg [nI64 U,nI64 V,.list 3 ((kn2 U ua ub).map ratL),.list 3 ((kn2 V va vb).map ratL),.list 1 (rows.map prL)]] (.list 5 [.agg [nI64 U,nI64 V,.list 3 ((kn2 U ua ub).map ratL),.list 3 ((kn2 V va vb).map ratL),.list 1 (rows.map prL)]]):=by
 have hsp:LV.pure (.agg [nI64 U,nI64 V,.list 3 ((kn2 U ua ub).map ratL),.list 3 ((kn2 V va vb).map ratL),.list 1 (rows.map prL)])=true:=by simp [LV.pure,pures,pures_map ratE,pures_map prE]
 have hpn:pures [.agg [nI64 U,nI64 V,.list 3 ((kn2 U ua ub).map ratL),.list 3 ((kn2 V va vb).map ratL),.list 1 (rows.map prL)]]=true:=by simp [pures,LV.pure,pures_map ratE,pures_map prE]
 have hu1:=h.u1
 have hu3:=h.u3
 have hv1:=h.v1
 have hv3:=h.v3
 have hku:=kn2_len U ua ub
 have hkv:=kn2_len V va vb
 have hrn:=h.n
 have hSd:=c_Ssnd U V (kn2 U ua ub) (kn2 V va vb) rows (kn2_ok hu1 (by omega) hu h1 h2) (kn2_ok hv1 (by omega) hv h3 h4) (by omega) (fun r hr=>by rw [h.m r hr,hkv];omega) (fun r hr q hq=>(h.ok r hr q hq).le hR)
 have hC:=c_sCut R U V ua ub va vb rows h hR hu hv h1 h2 h3 h4
 have hda:dsN (kn2 U ua ub) (kn2 U ua ub).length=[ua,ub]:=ds_kn2 hu
 have hdb:dsN (kn2 V va vb) (kn2 V va vb).length=[va,vb]:=ds_kn2 hv
 have hDa:=c_Distinct (kn2 U ua ub) (by omega) (by omega) (fun x hx=>Nat.le_trans (kn2_rl h1 h2 x hx) (by decide))
 have hDb:=c_Distinct (kn2 V va vb) (by omega) (by omega) (fun x hx=>Nat.le_trans (kn2_rl h3 h4 x hx) (by decide))
 have hS1:=c_SOf ua ub (by omega)
 rw [mn_lt2 hu,mx_lt2 hu] at hS1
 have hS2:=c_SOf va vb (by omega)
 rw [mn_lt2 hv,mx_lt2 hv] at hS2
 refine fnP Tryz.func33 (ht:=(fun g=>LV.ren_pure g _ (by simp [LV.pure,pures,pures_map ratE,pures_map prE]))) ?_
 refine zg10 ?_
 refine cp am1 (hSd) ?_
 refine zg3 ?_
 refine wl_condY (b:=_) rfl (rfl) ?_
 refine zg8 ?_
 refine wl_regD 8 (by decide +kernel) ?_
 refine zg2 ?_
 refine cp am1 (hDa) ?_
 refine zg2 ?_
 refine cp am1 (hDb) ?_
 refine zg14 ?_
 refine wl_unroll ?_
 refine zg6 ?_
 refine wl_condX (b:=_) rfl (rfl) ?_
 refine zg19 ?_
 refine wl_unroll ?_
 refine zg6 ?_
 refine wl_condX (b:=_) rfl (rfl) ?_
 refine zg11 ?_
 refine wl_regF 26 [24] (by decide +kernel) ?_
 refine zg10 ?_
 refine zSm ?_
 refine cp am2 (hS1) ?_
 refine zg9 ?_
 refine zSm ?_
 refine cp am2 (hS2) ?_
 refine cp am3 (hC) ?_
 refine zg11 ?_
 refine zSm ?_
 refine st_alloc rfl rfl (lit1V (z:=.agg [.v (.int .i64 0),.v (.int .i64 0),.v (.slice none 0 0),.v (.slice none 0 0),.v (.slice none 0 0)]) (v:=.agg [nI64 U,nI64 V,.list 3 ((kn2 U ua ub).map ratL),.list 3 ((kn2 V va vb).map ratL),.list 1 (rows.map prL)]) Tryz.underlying83 Z29 rfl rfl T29 rfl rfl rfl hsp (by decide) (by decide)) ?_
 refine st_store rfl (.app0X (d:=59) (sz:=5) (news:=[.agg [nI64 U,nI64 V,.list 3 ((kn2 U ua ub).map ratL),.list 3 ((kn2 V va vb).map ratL),.list 1 (rows.map prL)]]) (z:=.agg [.v (.int .i64 0),.v (.int .i64 0),.v (.slice none 0 0),.v (.slice none 0 0),.v (.slice none 0 0)]) rfl rfl Tryz.underlying83 Tryz.underlying83 Z29 T29 rfl B29 (.inl ⟨58,0,_,rfl,rfl,rfl,by simp,rfl,hpn⟩) (by simp) (by simp) (by simp) (by decide)) ?_
 refine zg9 ?_
 refine wl_unroll ?_
 refine zg6 ?_
 refine wl_condY (b:=_) rfl (rfl) ?_
 refine zg11 ?_
 refine wl_unroll ?_
 refine zg6 ?_
 refine wl_condY (b:=_) rfl (rfl) ?_
 refine zg12 ?_
 exact ret1f [59] rfl rfl (imm_ref rfl rfl hpn (by simp))
def celL (A B:List (Rat × Rat)) (k K:Nat):LV:=.agg [.list 6 (A.map spL),.list 6 (B.map spL),nI64 k,nI64 K]
theorem celL_pure (A B:List (Rat × Rat)) (k K:Nat):(celL A B k K).pure=true:=by simp [celL,LV.pure,pures,pures_map spE]
theorem c_SpsCop (l:List (Rat × Rat)) (h0:0<l.length) (hl:l.length≤1000) (hb:∀ s∈l,bdS 1000000 s∧s.1≤s.2):CallP Tryz.prog 78 [.list 6 (l.map spL)] (.list 6 (l.map spL)):=callP_own (c_SpsCopO l h0 hl hb) (pures_map spE _) (by simp)
theorem lit1N {P:Program} {ρ:Operand→LV} {T E:TypeId} {x:Operand} {d sz:Nat} {ag:Bool} {z v:LV} (hT:P.underlying T=some (.slice E)) (hz:ZeroOK P E z) (hzc:z.csize=sz) (hza:z.isAgg=ag) (hE:TyIs P E sz ag)
  (hx:ρ x=v) (hvc:v.csize=sz) (hva:v.isAgg=ag) (h1:v≠.any) (h2:∀ l,v≠.tup l) (hs:0<sz) (h63:sz≤1000):OpA P ρ d (.buildSlice T 1 #[(0,x)]) (.ref d sz 0 1) ⟨sz,[v],true⟩:=by
 have:=OpA.lit (P:=P) (ρ:=ρ) (d:=d) (T:=T) (n:=1) (ps:=#[(0,x)]) hT hz (by rw [hza];exact hE) hzc (by omega) (by omega) (by omega) (by
  intro p hp
  simp only [List.mem_singleton] at hp
  subst hp
  refine⟨by simp,?_,by rw [hx];exact h1,by rw [hx];exact h2⟩
  simp [lay,hx,hvc,hva,hzc,hza])
 simpa [buildL,hx,List.replicate] using this
namespace H_c_PairP
theorem zSm {p q:Prop} (k:q) (e:p=q:=by simp only [e1,e2,e3,e4,p1,p2,p3,q1,q2,q3,l1,t0,t1,r1,r2,r3,r4,Nat.zero_add,Nat.reduceMul,Nat.reduceAdd,b1,b2,b3,b4,b5,b6,i1,i2,i3,i4,i5,i6,Nat.reduceBEq,prcL,htA,hTA,hDB,fz0,frz_c,kills_map spE,kills_map i64E,List.length_map,List.length_append,hAB,take_map_len,map_snoc,len_snoc,List.length_cons,List.length_nil,List.nil_append,List.map_nil,List.take_nil,List.append_nil,List.set_cons_zero,List.set_cons_succ,Nat.reduceEqDiff,reduceIte,if_true,if_false,ptL_kill,poL_kill,kills_map ptE,kills_map poE,kills_map ratE,ratL_kill,spL_kill,LV.kill,kills];exact rfl):p:=e.mpr k
end H_c_PairP
open H_c_PairP in
theorem c_PairP (d w:Nat) (hd:d≤24) (hw:1≤w) (hw2:w≤4096) (A B:List (Rat × Rat)) (hA0:0<A.length) (hB0:0<B.length) (hA:A.length≤10) (hB:B.length≤10) (hAb:∀ s∈A,bdS 1000000 s∧s.1≤s.2) (hBb:∀ s∈B,bdS 1000000 s∧s.1≤s.2) (f:Nat) (cap:List LV) (hcp:pures cap=true) (hcs:∀ x∈cap,x.csize=1∧x.isAgg=false) (K:Nat) (hf:CallP Tryz.prog f ([.list 6 (A.map spL),.list 6 (B.map spL)]++cap) (.agg [.v (.bool false),iL 4,nI64 K])):CallOKM Tryz.prog 35 ⟨7,[.agg [prcL d w,.v (.slice none 0 0),nI64 0]],true⟩ [.eptr 0 7 0 0,.list 6 (A.map spL),.list 6 (B.map spL),.clo f cap] (.tup []) ⟨7,[.agg [prcL d w,.list 4 [celL A B 4 K],nI64 1]],true⟩:=by
 have hfA:=c_SpsCopO A hA0 (by omega) hAb
 have hPA:=c_SpsCop A hA0 (by omega) hAb
 have hPB:=c_SpsCop B hB0 (by omega) hBb
 have hpA:=pure_lst spE 6 A
 have hpB:=pure_lst spE 6 B
 have hpAB:=pure_lst spE 6 (A++B)
 have htA:(A.map spL).take A.length=A.map spL:=List.take_of_length_le (by simp)
 have hAB:A.map spL++B.map spL=(A++B).map spL:=List.map_append.symm
 have hTA:(A++B).take A.length=A:=List.take_left ..
 have hDB:(A++B).drop A.length=B:=List.drop_left ..
 have hSg:CallP Tryz.prog 73 [ratL 0] (iL 0):=by
  have:=c_RSign 0 (by have:rl 0=1:=rfl;omega)
  rwa [show sgnR 0=0 from by decide +kernel] at this
 have hpcl:LV.pure (.clo f cap)=true:=by simpa [LV.pure] using hcp
 have hpc:=celL_pure A B 4 K
 have hpcn:pures [(celL A B 4 K)]=true:=by simp [pures,hpc]
 refine fnM Tryz.func35 ?_
 refine zg3 ?_
 refine st_call1 [] rfl rfl (.cons (.pure hpA) .nil) hfA (pures_map spE _) rfl ?_
 refine zg1 ?_
 refine cp am1 (hPB) ?_
 refine st_store rfl (.appX (d:=20) (news:=B.map spL) rfl rfl rfl rfl (by simp) (.inr rfl) (by decide) Tryz.underlying46 Tryz.underlying46 Z50s (by rw [spE.isAgg];exact T50) cs B50 (.inr (.inl rfl)) (by simp;omega) (by simp;omega) (by decide)) ?_
 refine zg4 ?_
 refine wl_regW ((Weak.hand (t:=8) (b:=20) (l:=A++B) spE rfl rfl (by rw [List.length_append])).trans (Weak.refl _)) ?_
 refine zSm ?_
 refine zg3 ?_
 refine zSm ?_
 refine st_alloc rfl rfl (.makeM (n:=A.length+B.length) (m:=A.length+B.length) i64E Tryz.underlying22 (show ZeroOK _ _ (i64L 0) from Z3) T3 B3 rfl rfl (by omega) (by omega) (by omega)) ?_
 refine zg1 ?_
 refine zSm ?_
 refine st_alloc rfl rfl (lit1N (z:=.agg [.v (.slice none 0 0),.v (.int .i64 0),.v (.slice none 0 0)]) (v:=.agg [.list 6 ((A++B).map spL),iL 0,.ref 24 1 0 (A.length+B.length)]) Tryz.underlying146 Z145 rfl rfl T145 rfl rfl rfl (by simp) (by simp) (by decide) (by decide)) ?_
 refine zg4 ?_
 refine wl_unroll ?_
 refine zg2 ?_
 refine wl_regW (by first | exact(Weak.cellI 0 [144] rfl rfl (.agg (.cons (.pure (by simp [LV.pure,pures,ratE.pure])) (.cons (imm_ref rfl rfl hpcn (by simp)) (.cons (.pure rfl) .nil))))) | exact Weak.refl _) ?_
 try refine zSm ?_
 refine zg5 ?_
 refine wl_condX (b:=_) rfl (rfl) ?_
 refine zg9 ?_
 refine st_pure rfl ixA ?_
 refine zSm ?_
 refine zg11 ?_
 refine st_pure rfl (.sliceRh rfl Tryz.underlying146 T145 rfl om om) ?_
 refine zg4 ?_
 refine wl_regD 14 (by decide +kernel) ?_
 refine zg4 ?_
 refine zSm ?_
 refine st_pure rfl (by first | exact .sliceLh (h:=A.length) spE rfl Tryz.underlying46 T50 rfl om | exact .sliceRh rfl Tryz.underlying46 T50 rfl om om) ?_
 refine zSm ?_
 refine cp am1 (hPA) ?_
 refine zg4 ?_
 refine zSm ?_
 refine st_pure rfl (.sliceLl (a:=A.length) spE rfl Tryz.underlying46 T50 rfl om) ?_
 refine zSm ?_
 refine cp am1 (hPB) ?_
 refine zg7 ?_
 refine wl_regD 10 (by decide +kernel) ?_
 refine zg12 ?_
 refine wl_condY (b:=_) rfl (decide_eq_false (by omega)) ?_
 refine zg21 ?_
 refine zSm ?_
 refine st_opc [] rfl rfl (.clo (f:=f) (cap:=cap) (args:=[.list 6 (A.map spL),.list 6 (B.map spL)]) rfl (.cons (.pure hpA) (.cons (.pure hpB) .nil)) ⟨hcp,hcs⟩ hf.1 (by decide) (fun _ h=>by cases h)) (hf.2 _) ?_
 refine zg11 ?_
 refine wl_condY (b:=_) rfl (rfl) ?_
 refine zg10 ?_
 refine wl_condX (b:=_) rfl (rfl) ?_
 refine wl_regAW (Weak.boxp (t:=12) (b:=12) rfl rfl rfl rfl rfl) ?_
 refine zSm ?_
 refine any_hoistW 0 rfl rfl (by decide +kernel) faA fmV fmA ?_
 refine any_hoistW 1 rfl rfl (by decide +kernel) ldA fmV fmA ?_
 refine any_hoistW 2 rfl rfl (by decide +kernel) faA fmV fmA ?_
 refine any_hoistW 3 rfl rfl (by decide +kernel) ldA fmV fmA ?_
 refine any_1 4 _ (by decide +kernel) rfl ?_
 refine zg1 ?_
 refine st_nil ?_
 refine any_1 5 _ (by decide +kernel) rfl ?_
 refine zg1 ?_
 refine st_nil ?_
 refine any_1 6 _ (by decide +kernel) rfl ?_
 refine zg1 ?_
 refine st_nil ?_
 refine any_1 7 _ (by decide +kernel) rfl ?_
 refine zg1 ?_
 refine st_nil ?_
 refine any_0 (by decide +kernel) ?_
 refine zg7 ?_
 refine st_pure (guardX (v:=false) rfl rfl ((rfl)) rfl) faA ?_
 refine st_pure (guardX (v:=false) rfl rfl ((rfl)) rfl) ldA ?_
 refine st_pure (guardX (v:=false) rfl rfl ((rfl)) rfl) (.bin rfl rfl rfl) ?_
 refine st_pure rfl (.pickF rfl ((rfl))) ?_
 refine zg5 ?_
 refine wl_regD 31 (by decide +kernel) ?_
 refine zg2 ?_
 refine st_pure (guardX (v:=true) rfl rfl ((rfl)) rfl) (.move _) ?_
 refine st_pure (guardX (v:=true) rfl rfl ((rfl)) rfl) (by first | exact .nilChkE rfl | exact .nilChkB rfl) ?_
 refine st_pure (guardX (v:=true) rfl rfl ((rfl)) rfl) faA ?_
 refine st_pure (guardX (v:=true) rfl rfl ((rfl)) rfl) faA ?_
 refine st_pure (guardX (v:=true) rfl rfl ((rfl)) rfl) ldA ?_
 refine st_callP (guardX (v:=true) rfl rfl ((rfl)) rfl) (.cons im0 .nil) (hSg) ?_
 refine st_pure (guardX (v:=true) rfl rfl ((rfl)) rfl) (.bin rfl rfl rfl) ?_
 refine st_pure (guardX (v:=true) rfl rfl ((rfl)) rfl) (.move _) ?_
 refine st_skip (guardX (v:=true) rfl rfl ((rfl)) rfl) ?_
 refine st_skip (guardX (v:=true) rfl rfl ((rfl)) rfl) ?_
 refine st_skip (guardX (v:=true) rfl rfl ((rfl)) rfl) ?_
 refine st_skip (guardX (v:=true) rfl rfl ((rfl)) rfl) ?_
 refine st_skip (guardX (v:=true) rfl rfl ((rfl)) rfl) ?_
 refine st_skip (guardX (v:=true) rfl rfl ((rfl)) rfl) ?_
 refine st_skip (guardX (v:=true) rfl rfl ((rfl)) rfl) ?_
 refine st_skip (guardX (v:=true) rfl rfl ((rfl)) rfl) ?_
 refine st_skip (guardX (v:=true) rfl rfl ((rfl)) rfl) ?_
 refine st_pure (guardX (v:=true) rfl rfl ((rfl)) rfl) (.pickT rfl ((rfl))) ?_
 refine st_pure rfl (.pickT rfl ((rfl))) ?_
 refine zg14 ?_
 refine wl_regF 7 [0] (by decide +kernel) ?_
 refine zg6 ?_
 refine zSm ?_
 refine st_alloc rfl rfl (lit1V (z:=.agg [.v (.slice none 0 0),.v (.slice none 0 0),.v (.int .i64 0),.v (.int .i64 0)]) (v:=(celL A B 4 K)) Tryz.underlying40 Z48 rfl rfl T48 rfl rfl rfl hpc (by decide) (by decide)) ?_
 refine st_store rfl (.app0X (d:=144) (sz:=4) (news:=[(celL A B 4 K)]) (z:=.agg [.v (.slice none 0 0),.v (.slice none 0 0),.v (.int .i64 0),.v (.int .i64 0)]) rfl rfl Tryz.underlying40 Tryz.underlying40 Z48 T48 rfl B48 (.inl ⟨143,0,⟨4,[(celL A B 4 K)],true⟩,rfl,rfl,rfl,by simp,rfl,hpcn⟩) (by simp) (by simp) (by simp) (by decide)) ?_
 refine zg9 ?_
 refine wl_unroll ?_
 refine zg2 ?_
 refine wl_regW (by first | exact(Weak.cellI 0 [144] rfl rfl (.agg (.cons (.pure (by simp [LV.pure,pures,ratE.pure])) (.cons (imm_ref rfl rfl hpcn (by simp)) (.cons (.pure rfl) .nil))))) | exact Weak.refl _) ?_
 try refine zSm ?_
 refine zg5 ?_
 refine wl_condY (b:=_) rfl (rfl) ?_
 refine zg4 ?_
 exact retM0 rfl rfl (by simp [pures,LV.pure,prcL,ratE.pure,celL,pures_map spE])
namespace H_c_PairD
theorem zSm {p q:Prop} (k:q) (e:p=q:=by simp only [e1,e2,e3,e4,p1,p2,p3,q1,q2,q3,l1,t0,t1,r1,r2,r3,r4,Nat.zero_add,Nat.reduceMul,Nat.reduceAdd,b1,b2,b3,b4,b5,b6,i1,i2,i3,i4,i5,i6,Nat.reduceBEq,prcL,htA,hTA,hDB,fz0,frz_c,kills_map spE,kills_map i64E,List.length_map,List.length_append,hAB,take_map_len,map_snoc,len_snoc,List.length_cons,List.length_nil,List.nil_append,List.map_nil,List.take_nil,List.append_nil,List.set_cons_zero,List.set_cons_succ,Nat.reduceEqDiff,reduceIte,if_true,if_false,ptL_kill,poL_kill,kills_map ptE,kills_map poE,kills_map ratE,ratL_kill,spL_kill,LV.kill,kills];exact rfl):p:=e.mpr k
end H_c_PairD
open H_c_PairD in
theorem c_PairD (d w:Nat) (hd:d≤24) (hw:1≤w) (hw2:w≤4096) (A B:List (Rat × Rat)) (hA0:0<A.length) (hB0:0<B.length) (hA:A.length≤10) (hB:B.length≤10) (hAb:∀ s∈A,bdS 1000000 s∧s.1≤s.2) (hBb:∀ s∈B,bdS 1000000 s∧s.1≤s.2) (f:Nat) (cap:List LV) (hcp:pures cap=true) (hcs:∀ x∈cap,x.csize=1∧x.isAgg=false) (hf:CallP Tryz.prog f ([.list 6 (A.map spL),.list 6 (B.map spL)]++cap) (.agg [.v (.bool true),iL 0,iL 0])):CallOKM Tryz.prog 35 ⟨7,[.agg [prcL d w,.v (.slice none 0 0),nI64 0]],true⟩ [.eptr 0 7 0 0,.list 6 (A.map spL),.list 6 (B.map spL),.clo f cap] (.tup []) ⟨7,[.agg [prcL d w,.v (.slice none 0 0),nI64 1]],true⟩:=by
 have hfA:=c_SpsCopO A hA0 (by omega) hAb
 have hPA:=c_SpsCop A hA0 (by omega) hAb
 have hPB:=c_SpsCop B hB0 (by omega) hBb
 have hpA:=pure_lst spE 6 A
 have hpB:=pure_lst spE 6 B
 have hpAB:=pure_lst spE 6 (A++B)
 have htA:(A.map spL).take A.length=A.map spL:=List.take_of_length_le (by simp)
 have hAB:A.map spL++B.map spL=(A++B).map spL:=List.map_append.symm
 have hTA:(A++B).take A.length=A:=List.take_left ..
 have hDB:(A++B).drop A.length=B:=List.drop_left ..
 have hSg:CallP Tryz.prog 73 [ratL 0] (iL 0):=by
  have:=c_RSign 0 (by have:rl 0=1:=rfl;omega)
  rwa [show sgnR 0=0 from by decide +kernel] at this
 have hpcl:LV.pure (.clo f cap)=true:=by simpa [LV.pure] using hcp
 refine fnM Tryz.func35 ?_
 refine zg3 ?_
 refine st_call1 [] rfl rfl (.cons (.pure hpA) .nil) hfA (pures_map spE _) rfl ?_
 refine zg1 ?_
 refine cp am1 (hPB) ?_
 refine st_store rfl (.appX (d:=20) (news:=B.map spL) rfl rfl rfl rfl (by simp) (.inr rfl) (by decide) Tryz.underlying46 Tryz.underlying46 Z50s (by rw [spE.isAgg];exact T50) cs B50 (.inr (.inl rfl)) (by simp;omega) (by simp;omega) (by decide)) ?_
 refine zg4 ?_
 refine wl_regW ((Weak.hand (t:=8) (b:=20) (l:=A++B) spE rfl rfl (by rw [List.length_append])).trans (Weak.refl _)) ?_
 refine zSm ?_
 refine zg3 ?_
 refine zSm ?_
 refine st_alloc rfl rfl (.makeM (n:=A.length+B.length) (m:=A.length+B.length) i64E Tryz.underlying22 (show ZeroOK _ _ (i64L 0) from Z3) T3 B3 rfl rfl (by omega) (by omega) (by omega)) ?_
 refine zg1 ?_
 refine zSm ?_
 refine st_alloc rfl rfl (lit1N (z:=.agg [.v (.slice none 0 0),.v (.int .i64 0),.v (.slice none 0 0)]) (v:=.agg [.list 6 ((A++B).map spL),iL 0,.ref 24 1 0 (A.length+B.length)]) Tryz.underlying146 Z145 rfl rfl T145 rfl rfl rfl (by simp) (by simp) (by decide) (by decide)) ?_
 refine zg4 ?_
 refine wl_unroll ?_
 refine zg8 ?_
 refine wl_condX (b:=_) rfl (rfl) ?_
 refine zg9 ?_
 refine st_pure rfl ixA ?_
 refine zSm ?_
 refine zg11 ?_
 refine st_pure rfl (.sliceRh rfl Tryz.underlying146 T145 rfl om om) ?_
 refine zg4 ?_
 refine wl_regD 14 (by decide +kernel) ?_
 refine zg4 ?_
 refine zSm ?_
 refine st_pure rfl (by first | exact .sliceLh (h:=A.length) spE rfl Tryz.underlying46 T50 rfl om | exact .sliceRh rfl Tryz.underlying46 T50 rfl om om) ?_
 refine zSm ?_
 refine cp am1 (hPA) ?_
 refine zg4 ?_
 refine zSm ?_
 refine st_pure rfl (.sliceLl (a:=A.length) spE rfl Tryz.underlying46 T50 rfl om) ?_
 refine zSm ?_
 refine cp am1 (hPB) ?_
 refine zg7 ?_
 refine wl_regD 10 (by decide +kernel) ?_
 refine zg12 ?_
 refine wl_condY (b:=_) rfl (decide_eq_false (by omega)) ?_
 refine zg21 ?_
 refine zSm ?_
 refine st_opc [] rfl rfl (.clo (f:=f) (cap:=cap) (args:=[.list 6 (A.map spL),.list 6 (B.map spL)]) rfl (.cons (.pure hpA) (.cons (.pure hpB) .nil)) ⟨hcp,hcs⟩ hf.1 (by decide) (fun _ h=>by cases h)) (hf.2 _) ?_
 refine zg11 ?_
 refine wl_condX (b:=_) rfl (rfl) ?_
 refine zg4 ?_
 refine wl_unroll ?_
 refine zg8 ?_
 refine wl_condY (b:=_) rfl (rfl) ?_
 refine zg4 ?_
 exact retM0 rfl rfl (by simp [pures,LV.pure,prcL,ratE.pure,celL,pures_map spE])
namespace H_c_Me1P
theorem zSm {p q:Prop} (k:q) (e:p=q:=by simp only [e1,e2,e3,e4,p1,p2,p3,q1,q2,q3,l1,t0,t1,r1,r2,r3,r4,Nat.zero_add,Nat.reduceMul,Nat.reduceAdd,b1,b2,b3,b4,b5,b6,i1,i2,i3,i4,i5,i6,Nat.reduceBEq,List.getD_cons_zero,List.getD_cons_succ,List.length_map,take_map_len,map_snoc,len_snoc,List.length_cons,List.length_nil,List.nil_append,List.map_nil,List.take_nil,List.append_nil,kills_map spE,prL_kill,kills_map prE,dfr,dfq,take_map_len,map_snoc,len_snoc,List.length_cons,List.length_nil,List.nil_append,List.map_nil,List.take_nil,List.append_nil,List.set_cons_zero,List.set_cons_succ,Nat.reduceEqDiff,reduceIte,if_true,if_false,ptL_kill,poL_kill,kills_map ptE,kills_map poE,kills_map ratE,ratL_kill,spL_kill,LV.kill,kills];exact rfl):p:=e.mpr k
end H_c_Me1P
open H_c_Me1P in
theorem c_Me1P (U V W Y:Nat) (ua ub va vb xa xb ya yb:Rat) (rows rowt:List (List PoR)) (ba bb:Bx3) (hC1:CallP Tryz.prog 37 [.agg [nI64 U,nI64 V,.list 3 ((kn2 U ua ub).map ratL),.list 3 ((kn2 V va vb).map ratL),.list 1 (rows.map prL)],spL (ua,ub),spL (va,vb)] (.tup [.agg [nI64 U,nI64 V,.list 3 ((kn2 U ua ub).map ratL),.list 3 ((kn2 V va vb).map ratL),.list 1 (rows.map prL)],iL 0])) (hC2:CallP Tryz.prog 37 [.agg [nI64 W,nI64 Y,.list 3 ((kn2 W xa xb).map ratL),.list 3 ((kn2 Y ya yb).map ratL),.list 1 (rowt.map prL)],spL (xa,xb),spL (ya,yb)] (.tup [.agg [nI64 W,nI64 Y,.list 3 ((kn2 W xa xb).map ratL),.list 3 ((kn2 Y ya yb).map ratL),.list 1 (rowt.map prL)],iL 0])) (hB1:CallP Tryz.prog 39 [.agg [nI64 U,nI64 V,.list 3 ((kn2 U ua ub).map ratL),.list 3 ((kn2 V va vb).map ratL),.list 1 (rows.map prL)]] (bxL ba)) (hB2:CallP Tryz.prog 39 [.agg [nI64 W,nI64 Y,.list 3 ((kn2 W xa xb).map ratL),.list 3 ((kn2 Y ya yb).map ratL),.list 1 (rowt.map prL)]] (bxL bb)) (hMe:CallP Tryz.prog 38 [bxL ba,bxL bb] (bL true)) (K:Nat) (hTe:CallP Tryz.prog 40 [.agg [nI64 U,nI64 V,.list 3 ((kn2 U ua ub).map ratL),.list 3 ((kn2 V va vb).map ratL),.list 1 (rows.map prL)],.agg [nI64 W,nI64 Y,.list 3 ((kn2 W xa xb).map ratL),.list 3 ((kn2 Y ya yb).map ratL),.list 1 (rowt.map prL)]] (.agg [.v (.bool false),iL 4,nI64 K])):CallP Tryz.prog 36 [.list 6 ([(ua,ub),(va,vb)].map spL),.list 6 ([(xa,xb),(ya,yb)].map spL),.boxp (.agg [nI64 U,nI64 V,.list 3 ((kn2 U ua ub).map ratL),.list 3 ((kn2 V va vb).map ratL),.list 1 (rows.map prL)]),.boxp (.agg [nI64 W,nI64 Y,.list 3 ((kn2 W xa xb).map ratL),.list 3 ((kn2 Y ya yb).map ratL),.list 1 (rowt.map prL)])] (.agg [.v (.bool false),iL 4,nI64 K]):=by
 have hsp:LV.pure (.agg [nI64 U,nI64 V,.list 3 ((kn2 U ua ub).map ratL),.list 3 ((kn2 V va vb).map ratL),.list 1 (rows.map prL)])=true:=by simp [LV.pure,pures,pures_map ratE,pures_map prE]
 have htp:LV.pure (.agg [nI64 W,nI64 Y,.list 3 ((kn2 W xa xb).map ratL),.list 3 ((kn2 Y ya yb).map ratL),.list 1 (rowt.map prL)])=true:=by simp [LV.pure,pures,pures_map ratE,pures_map prE]
 have hpA:=pure_lst spE 6 [(ua,ub),(va,vb)]
 have hpB:=pure_lst spE 6 [(xa,xb),(ya,yb)]
 refine fnP Tryz.func36 (ht:=(fun g=>LV.ren_pure g _ rfl)) ?_
 refine zg6 ?_
 refine wl_regF 12 [10] (by decide +kernel) ?_
 refine st_pure rfl (.ldbx rfl hsp rfl rfl) ?_
 refine zg6 ?_
 refine zSm ?_
 refine cp am3 (hC1) ?_
 refine zg9 ?_
 refine wl_regF 12 [10] (by decide +kernel) ?_
 refine st_pure rfl (.ldbx rfl htp rfl rfl) ?_
 refine zg6 ?_
 refine zSm ?_
 refine cp am3 (hC2) ?_
 refine zg10 ?_
 refine wl_regD 6 (by decide +kernel) ?_
 refine zg1 ?_
 refine cp am1 (hB1) ?_
 refine zg1 ?_
 refine cp am1 (hB2) ?_
 refine st_callP rfl (.cons (.pure (bxE.pure _)) (.cons (.pure (bxE.pure _)) .nil)) (hMe) ?_
 refine zg3 ?_
 refine wl_condY (b:=_) rfl (rfl) ?_
 refine zg6 ?_
 refine cp am2 (hTe) ?_
 refine zg4 ?_
 exact retC [] rfl rfl rfl rfl (at_all rfl rfl) T87 (.pure rfl)
namespace H_c_Me1D
theorem zSm {p q:Prop} (k:q) (e:p=q:=by simp only [e1,e2,e3,e4,p1,p2,p3,q1,q2,q3,l1,t0,t1,r1,r2,r3,r4,Nat.zero_add,Nat.reduceMul,Nat.reduceAdd,b1,b2,b3,b4,b5,b6,i1,i2,i3,i4,i5,i6,Nat.reduceBEq,List.getD_cons_zero,List.getD_cons_succ,List.length_map,take_map_len,map_snoc,len_snoc,List.length_cons,List.length_nil,List.nil_append,List.map_nil,List.take_nil,List.append_nil,kills_map spE,prL_kill,kills_map prE,dfr,dfq,take_map_len,map_snoc,len_snoc,List.length_cons,List.length_nil,List.nil_append,List.map_nil,List.take_nil,List.append_nil,List.set_cons_zero,List.set_cons_succ,Nat.reduceEqDiff,reduceIte,if_true,if_false,ptL_kill,poL_kill,kills_map ptE,kills_map poE,kills_map ratE,ratL_kill,spL_kill,LV.kill,kills];exact rfl):p:=e.mpr k
end H_c_Me1D
open H_c_Me1D in
theorem c_Me1D (U V W Y:Nat) (ua ub va vb xa xb ya yb:Rat) (rows rowt:List (List PoR)) (ba bb:Bx3) (hC1:CallP Tryz.prog 37 [.agg [nI64 U,nI64 V,.list 3 ((kn2 U ua ub).map ratL),.list 3 ((kn2 V va vb).map ratL),.list 1 (rows.map prL)],spL (ua,ub),spL (va,vb)] (.tup [.agg [nI64 U,nI64 V,.list 3 ((kn2 U ua ub).map ratL),.list 3 ((kn2 V va vb).map ratL),.list 1 (rows.map prL)],iL 0])) (hC2:CallP Tryz.prog 37 [.agg [nI64 W,nI64 Y,.list 3 ((kn2 W xa xb).map ratL),.list 3 ((kn2 Y ya yb).map ratL),.list 1 (rowt.map prL)],spL (xa,xb),spL (ya,yb)] (.tup [.agg [nI64 W,nI64 Y,.list 3 ((kn2 W xa xb).map ratL),.list 3 ((kn2 Y ya yb).map ratL),.list 1 (rowt.map prL)],iL 0])) (hB1:CallP Tryz.prog 39 [.agg [nI64 U,nI64 V,.list 3 ((kn2 U ua ub).map ratL),.list 3 ((kn2 V va vb).map ratL),.list 1 (rows.map prL)]] (bxL ba)) (hB2:CallP Tryz.prog 39 [.agg [nI64 W,nI64 Y,.list 3 ((kn2 W xa xb).map ratL),.list 3 ((kn2 Y ya yb).map ratL),.list 1 (rowt.map prL)]] (bxL bb)) (hMe:CallP Tryz.prog 38 [bxL ba,bxL bb] (bL false)):CallP Tryz.prog 36 [.list 6 ([(ua,ub),(va,vb)].map spL),.list 6 ([(xa,xb),(ya,yb)].map spL),.boxp (.agg [nI64 U,nI64 V,.list 3 ((kn2 U ua ub).map ratL),.list 3 ((kn2 V va vb).map ratL),.list 1 (rows.map prL)]),.boxp (.agg [nI64 W,nI64 Y,.list 3 ((kn2 W xa xb).map ratL),.list 3 ((kn2 Y ya yb).map ratL),.list 1 (rowt.map prL)])] (.agg [.v (.bool true),iL 0,iL 0]):=by
 have hsp:LV.pure (.agg [nI64 U,nI64 V,.list 3 ((kn2 U ua ub).map ratL),.list 3 ((kn2 V va vb).map ratL),.list 1 (rows.map prL)])=true:=by simp [LV.pure,pures,pures_map ratE,pures_map prE]
 have htp:LV.pure (.agg [nI64 W,nI64 Y,.list 3 ((kn2 W xa xb).map ratL),.list 3 ((kn2 Y ya yb).map ratL),.list 1 (rowt.map prL)])=true:=by simp [LV.pure,pures,pures_map ratE,pures_map prE]
 have hpA:=pure_lst spE 6 [(ua,ub),(va,vb)]
 have hpB:=pure_lst spE 6 [(xa,xb),(ya,yb)]
 refine fnP Tryz.func36 (ht:=(fun g=>LV.ren_pure g _ rfl)) ?_
 refine zg6 ?_
 refine wl_regF 12 [10] (by decide +kernel) ?_
 refine st_pure rfl (.ldbx rfl hsp rfl rfl) ?_
 refine zg6 ?_
 refine zSm ?_
 refine cp am3 (hC1) ?_
 refine zg9 ?_
 refine wl_regF 12 [10] (by decide +kernel) ?_
 refine st_pure rfl (.ldbx rfl htp rfl rfl) ?_
 refine zg6 ?_
 refine zSm ?_
 refine cp am3 (hC2) ?_
 refine zg10 ?_
 refine wl_regD 6 (by decide +kernel) ?_
 refine zg1 ?_
 refine cp am1 (hB1) ?_
 refine zg1 ?_
 refine cp am1 (hB2) ?_
 refine st_callP rfl (.cons (.pure (bxE.pure _)) (.cons (.pure (bxE.pure _)) .nil)) (hMe) ?_
 refine zg3 ?_
 refine wl_condX (b:=_) rfl (rfl) ?_
 refine zg8 ?_
 exact retC [] rfl rfl rfl rfl (at_all rfl rfl) T87 (.pure rfl)
end Go.Proofs.YthpfpgfehmhpdaaGreat
end
