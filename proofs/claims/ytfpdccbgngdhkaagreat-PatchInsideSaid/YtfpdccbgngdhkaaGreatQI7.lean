/- Texts Y6, Y7, Y8, Y9, Y10, LgU, Y11, Y12, Y13 of this proof, joined. -/
import Derived.Test.YtfpdccbgngdhkaaGreatQI6
set_option linter.unusedVariables false
set_option linter.unusedSimpArgs false
section
set_option linter.unusedVariables false
set_option linter.unusedSimpArgs false
set_option maxHeartbeats 8000000
set_option maxRecDepth 100000
attribute [local irreducible] Go.Lg.opsL Go.Lg.wpL Go.Lg.thenL Go.Lg.blockL
namespace Go.Proofs.YtfpdccbgngdhkaaGreat
open Go.Lg
def eqV (p q:V3):Bool:=decide (p.x=q.x) && (decide (p.y=q.y) && decide (p.z=q.z))
theorem eqV_iff {p q:V3}:eqV p q=true↔p=q:=by
 obtain⟨a,b,c⟩:=p
 obtain⟨d,e,f⟩:=q
 simp [eqV]
theorem eqV_no {p q:V3} (h:eqV p q=false):p≠q:=fun e=>by
 rw [eqV_iff.2 e] at h;cases h
def pzV:PoR:=⟨⟨0,0,0⟩,0⟩
def thN (a b c:V3):V3:=v3x (v3s b a) (v3s c a)
theorem thN_bd {R:Nat} {a b c:V3} (ha:bd3 R a) (hb:bd3 R b) (hc:bd3 R c):bd3 (8*R+9) (thN a b c):=(v3x_bd (v3s_rl hb ha) (v3s_rl hc ha)).le (by omega)
def flT (n:V3) (d:Rat) (l:List V3):Rat:=l.foldl (fun o p=>mxR o ((v3d n p-d)*(v3d n p-d))) 0
theorem fl_nil (n:V3) (d:Rat):flT n d []=0:=rfl
theorem fl_snoc (n:V3) (d:Rat) (l:List V3) {i:Nat} (h:i<l.length):mxR (flT n d (l.take i)) ((v3d n (l.getD i default)-d)*(v3d n (l.getD i default)-d))=flT n d (l.take (i+1)):=by
 rw [List.take_succ_eq_append_getElem h,flT,flT,List.foldl_append,List.getD_eq_getElem?_getD,List.getElem?_eq_getElem h];rfl
theorem fl_rl {n:V3} {d:Rat} {B:Nat}:∀ (l:List V3) (o:Rat),(∀ p∈l,rl ((v3d n p-d)*(v3d n p-d))≤B)→rl o≤B→rl (l.foldl (fun o p=>mxR o ((v3d n p-d)*(v3d n p-d))) o)≤B
 | [],o,_,h=>h
 | p :: l,o,hl,h=>fl_rl l _ (fun q hq=>hl q (List.mem_cons_of_mem _ hq)) (mx_rl3 h (hl p (List.mem_cons_self ..)))
theorem nn_pos {n:V3} (h:eqV n ⟨0,0,0⟩=false):0<v3d n n:=by
 have h1:=eqV_no h
 obtain⟨x,y,z⟩:=n
 have sq:∀ a:Rat,0≤a*a:=fun a=>by
  rcases Rat.le_total (a:=0) (b:=a) with g | g
  ·exact Rat.mul_nonneg g g
  ·have:=Rat.mul_nonneg (show 0≤-a by grind) (show 0≤-a by grind)
   grind
 have sp:∀ a:Rat,a≠0→0<a*a:=fun a ha=>by
  rcases Rat.le_total (a:=0) (b:=a) with g | g
  ·exact Rat.mul_pos (by grind) (by grind)
  ·have:=Rat.mul_pos (show 0 < -a by grind) (show 0 < -a by grind)
   grind
 have s1:=sq x
 have s2:=sq y
 have s3:=sq z
 unfold v3d
 simp only
 by_cases hx:x=0
 ·by_cases hy:y=0
  ·by_cases hz:z=0
   ·subst hx hy hz;exact absurd rfl h1
   ·have:=sp z hz;grind
  ·have:=sp y hy;grind
 ·have:=sp x hx;grind
section
variable {R U V:Nat} {rows:List (List PoR)} (h:pf R U V rows)
include h
theorem pf.r0 {i:Nat} (hi:i≤U):(rows.getD i []).length=V+1:=h.m _ (getR_mem (by rw [h.n];omega))
theorem pf.pt {i j:Nat} (hi:i≤U) (hj:j≤V):bd3 R ((rows.getD i []).getD j default).p:=(h.ok _ (getR_mem (by rw [h.n];omega)) _ (getD_memP (by rw [h.r0 hi];omega))).1
theorem pf.fp {i:Nat} (hi:i<(rows.flatten.map (·.p)).length):bd3 R ((rows.flatten.map (·.p)).getD i default):=by
 rw [ps_get]
 exact(h.fok _ (getD_memP (by rw [List.length_map] at hi;exact hi))).1
theorem pf.fa:∀ p∈rows.flatten.map (·.p),bd3 R p:=fun p hp=>by
 obtain⟨q,hq,rfl⟩:=List.mem_map.1 hp
 exact(h.fok q hq).1
theorem pf.thb:bd3 (8*R+9) (thN ((rows.getD 0 []).getD 0 default).p ((rows.getD U []).getD 0 default).p ((rows.getD 0 []).getD V default).p):=thN_bd (h.pt (Nat.zero_le _) (Nat.zero_le _)) (h.pt (Nat.le_refl _) (Nat.zero_le _)) (h.pt (Nat.zero_le _) (Nat.le_refl _))
end
theorem fl_sz {R:Nat} {n p:V3} {d:Rat} (hn:bd3 (8*R+9) n) (hd:rl d≤27*R+31) (hp:bd3 R p):rl (v3d n p)≤27*R+31∧rl (v3d n p-d)≤54*R+63∧rl ((v3d n p-d)*(v3d n p-d))≤108*R+126:=by
 have h1:=v3d_rl hn hp
 have h2:=rl_sub (v3d n p) d
 have h3:=rl_mul (v3d n p-d) (v3d n p-d)
 omega
theorem fl_all {R:Nat} {n:V3} {d:Rat} {l:List V3} (hn:bd3 (8*R+9) n) (hd:rl d≤27*R+31) (hl:∀ p∈l,bd3 R p) (i:Nat):rl (flT n d (l.take i))≤108*R+126 :=
 fl_rl _ _ (fun p hp=>(fl_sz hn hd (hl p (List.mem_of_mem_take hp))).2.2) (by show rl 0≤_;rw [show rl 0=1 from rfl];omega)
theorem bdZ {P:Program} {H:Heap} {ρ:Operand→LV} {T:TypeId} [z:ZI P T (.agg [.agg [ratL 0,ratL 0,ratL 0],ratL 0])] [s:SI P T [(9,true),(3,true)]]:OpP P H ρ (.build T #[]) (poL pzV):=by
 have:=OpP.bd (H:=H) (ρ:=ρ) (ps:=#[]) (z:=z) (s:=s) (by simp [lay,LV.csize,csizes,ratE.csize,ratE.isAgg,isAgg_agg]) (by intro q hq;simp at hq)
 simp only [buildL,List.map,List.foldl] at this
 exact this
theorem zdiv (c:Rat):0/c=0:=by rw [Rat.div_def,Rat.zero_mul]
theorem plcs:(LV.agg [LV.agg [ratL 0,ratL 0,ratL 0],ratL 0]).csize=12:=by simp [LV.csize,csizes,ratE.csize]
theorem plcs2:(LV.agg [LV.agg [LV.agg [.v (.bool false),.list 1 [],.list 1 []],LV.agg [.v (.bool false),.list 1 [],.list 1 []],LV.agg [.v (.bool false),.list 1 [],.list 1 []]],LV.agg [.v (.bool false),.list 1 [],.list 1 []]]).csize=12:=by simp [LV.csize,csizes]
namespace H_c_VPtEq
theorem zSm {p q:Prop} (k:q) (e:p=q:=by simp only [e1,e2,e3,e4,p1,p2,p3,q1,q2,q3,l1,t0,t1,r1,r2,r3,r4,Nat.zero_add,Nat.reduceMul,Nat.reduceAdd,b1,b2,b3,b4,b5,b6,i1,i2,i3,i4,i5,i6,Nat.reduceBEq,List.set_cons_zero,List.set_cons_succ,Nat.reduceEqDiff,reduceIte,if_true,if_false,ptL_kill,poL_kill,kills_map ptE,kills_map poE,kills_map ratE,ratL_kill,spL_kill,LV.kill,kills];exact rfl):p:=e.mpr k
end H_c_VPtEq
open H_c_VPtEq in
theorem c_VPtEq (p q:V3) (hp:bd3 100000000000 p) (hq:bd3 100000000000 q):CallP Tryz.prog 95 [ptL p,ptL q] (bL (eqV p q)):=by
 obtain⟨a1,a2,a3⟩:=hp
 obtain⟨y1,y2,y3⟩:=hq
 refine fnP Tryz.func95 ?_
 refine zg14 ?_
 refine wl_unroll ?_
 refine zg6 ?_
 refine wl_condX (b:=_) rfl (by decide) ?_
 refine zg11 ?_
 refine wl_regD 8 (by decide +kernel) ?_
 refine zg6 ?_
 refine cp am2 (c_RSame p.x q.x (by omega)) ?_
 refine zg3 ?_
 refine wl_if rfl (fun h16r h16=>?_) (fun h16r h16=>?_)
 ·refine zg11 ?_
  rw [show eqV p q=false from by unfold eqV;simp [h16]]
  exact ret1 rfl (.pure rfl)
 ·have g00:p.x=q.x:=by simpa using h16
  refine zg8 ?_
  refine wl_unroll ?_
  refine zg6 ?_
  refine wl_condX (b:=_) rfl (by decide) ?_
  refine zg11 ?_
  refine wl_regD 8 (by decide +kernel) ?_
  refine zg6 ?_
  refine cp am2 (c_RSame p.y q.y (by omega)) ?_
  refine zg3 ?_
  refine wl_if rfl (fun h16r h16=>?_) (fun h16r h16=>?_)
  ·refine zg11 ?_
   rw [show eqV p q=false from by unfold eqV;simp [h16]]
   exact ret1 rfl (.pure rfl)
  ·have g10:p.y=q.y:=by simpa using h16
   refine zg8 ?_
   refine wl_unroll ?_
   refine zg6 ?_
   refine wl_condX (b:=_) rfl (by decide) ?_
   refine zg11 ?_
   refine wl_regD 8 (by decide +kernel) ?_
   refine zg6 ?_
   refine cp am2 (c_RSame p.z q.z (by omega)) ?_
   refine zg3 ?_
   refine wl_if rfl (fun h16r h16=>?_) (fun h16r h16=>?_)
   ·refine zg11 ?_
    rw [show eqV p q=false from by unfold eqV;simp [h16]]
    exact ret1 rfl (.pure rfl)
   ·have g20:p.z=q.z:=by simpa using h16
    refine zg8 ?_
    refine wl_unroll ?_
    refine zg6 ?_
    refine wl_condY (b:=_) rfl (by decide) ?_
    refine zg11 ?_
    rw [show eqV p q=true from by unfold eqV;simp [g00,g10,g20]]
    exact ret1 rfl (.pure rfl)
namespace H_c_FPtEq
theorem zSm {p q:Prop} (k:q) (e:p=q:=by simp only [e1,e2,e3,e4,p1,p2,p3,q1,q2,q3,l1,t0,t1,r1,r2,r3,r4,Nat.zero_add,Nat.reduceMul,Nat.reduceAdd,b1,b2,b3,b4,b5,b6,i1,i2,i3,i4,i5,i6,Nat.reduceBEq,List.set_cons_zero,List.set_cons_succ,Nat.reduceEqDiff,reduceIte,if_true,if_false,ptL_kill,poL_kill,kills_map ptE,kills_map poE,kills_map ratE,ratL_kill,spL_kill,LV.kill,kills];exact rfl):p:=e.mpr k
end H_c_FPtEq
open H_c_FPtEq in
theorem c_FPtEq (p q:V3) (hp:bd3 100000000000 p) (hq:bd3 100000000000 q):CallP Tryz.prog 20 [ptL p,ptL q] (bL (eqV p q)):=by
 obtain⟨a1,a2,a3⟩:=hp
 obtain⟨y1,y2,y3⟩:=hq
 refine fnP Tryz.func20 ?_
 refine zg13 ?_
 refine cp am2 (c_FSame p.x q.x (by omega)) ?_
 refine zg1 ?_
 refine op_if 10 rfl (fun h10r h10=>?_) (fun h10r h10=>?_)
 ·refine zg4 ?_
  refine cp am2 (c_FSame p.y q.y (by omega)) ?_
  refine zg2 ?_
  refine op_if 17 rfl (fun h17r h17=>?_) (fun h17r h17=>?_)
  ·refine zg4 ?_
   refine cp am2 (c_FSame p.z q.z (by omega)) ?_
   refine zg5 ?_
   rw [show eqV p q=decide (p.z=q.z) from by unfold eqV;simp [show p.x=q.x by simpa using h10,show p.y=q.y by simpa using h17]]
   exact ret1 rfl (.pure rfl)
  ·refine zg10 ?_
   rw [show eqV p q=false from by unfold eqV;simp [show ¬p.y=q.y by simpa using h17]]
   exact ret1 rfl (.pure rfl)
 ·refine zg17 ?_
  rw [show eqV p q=false from by unfold eqV;simp [show ¬p.x=q.x by simpa using h10]]
  exact ret1 rfl (.pure rfl)
namespace H_c_VZero
theorem zSm {p q:Prop} (k:q) (e:p=q:=by simp only [e1,e2,e3,e4,p1,p2,p3,q1,q2,q3,l1,t0,t1,r1,r2,r3,r4,Nat.zero_add,Nat.reduceMul,Nat.reduceAdd,b1,b2,b3,b4,b5,b6,i1,i2,i3,i4,i5,i6,Nat.reduceBEq,List.set_cons_zero,List.set_cons_succ,Nat.reduceEqDiff,reduceIte,if_true,if_false,ptL_kill,poL_kill,kills_map ptE,kills_map poE,kills_map ratE,ratL_kill,spL_kill,LV.kill,kills];exact rfl):p:=e.mpr k
end H_c_VZero
open H_c_VZero in
theorem c_VZero (p:V3) (hp:bd3 100000000000 p):CallP Tryz.prog 150 [ptL p] (bL (eqV p ⟨0,0,0⟩)):=by
 refine fnP Tryz.func150 ?_
 refine zg9 ?_
 refine s0bd bdP0 ?_
 refine cp am2 (c_VPtEq p ⟨0,0,0⟩ hp ⟨by decide +kernel,by decide +kernel,by decide +kernel⟩) ?_
 refine zg4 ?_
 exact ret1 rfl (.pure rfl)
namespace H_c_FVZero
theorem zSm {p q:Prop} (k:q) (e:p=q:=by simp only [e1,e2,e3,e4,p1,p2,p3,q1,q2,q3,l1,t0,t1,r1,r2,r3,r4,Nat.zero_add,Nat.reduceMul,Nat.reduceAdd,b1,b2,b3,b4,b5,b6,i1,i2,i3,i4,i5,i6,Nat.reduceBEq,List.set_cons_zero,List.set_cons_succ,Nat.reduceEqDiff,reduceIte,if_true,if_false,ptL_kill,poL_kill,kills_map ptE,kills_map poE,kills_map ratE,ratL_kill,spL_kill,LV.kill,kills];exact rfl):p:=e.mpr k
end H_c_FVZero
open H_c_FVZero in
theorem c_FVZero (p:V3) (hp:bd3 100000000000 p):CallP Tryz.prog 18 [ptL p] (bL (eqV p ⟨0,0,0⟩)):=by
 refine fnP Tryz.func18 ?_
 refine zg9 ?_
 refine s0bd bdP0 ?_
 refine cp am2 (c_FPtEq p ⟨0,0,0⟩ hp ⟨by decide +kernel,by decide +kernel,by decide +kernel⟩) ?_
 refine zg4 ?_
 exact ret1 rfl (.pure rfl)
namespace H_c_VThN
theorem zSm {p q:Prop} (k:q) (e:p=q:=by simp only [e1,e2,e3,e4,p1,p2,p3,q1,q2,q3,l1,t0,t1,r1,r2,r3,r4,Nat.zero_add,Nat.reduceMul,Nat.reduceAdd,b1,b2,b3,b4,b5,b6,i1,i2,i3,i4,i5,i6,Nat.reduceBEq,List.set_cons_zero,List.set_cons_succ,Nat.reduceEqDiff,reduceIte,if_true,if_false,ptL_kill,poL_kill,kills_map ptE,kills_map poE,kills_map ratE,ratL_kill,spL_kill,LV.kill,kills];exact rfl):p:=e.mpr k
end H_c_VThN
open H_c_VThN in
theorem c_VThN (a b c:V3) (R:Nat) (hR:R≤10000000) (ha:bd3 R a) (hb:bd3 R b) (hc:bd3 R c) (hz:eqV (thN a b c) ⟨0,0,0⟩=true):CallP Tryz.prog 80 [ptL a,ptL b,ptL c] (.tup [poL pzV,iL 9]):=by
 have hn:=thN_bd ha hb hc
 have hs1:=v3s_rl hb ha
 have hs2:=v3s_rl hc ha
 have hZ:CallP Tryz.prog 150 [ptL (thN a b c)] (bL true):=by
  have:=c_VZero (thN a b c) (hn.le (by omega))
  rwa [hz] at this
 refine fnP Tryz.func80 (ht:=(tame2 (poE.pure _) rfl)) ?_
 refine zg10 ?_
 refine wl_regD 8 (by decide +kernel) ?_
 refine zg2 ?_
 refine cp am2 (c_VSub b a R (by omega) hb ha) ?_
 refine zg2 ?_
 refine cp am2 (c_VSub c a R (by omega) hc ha) ?_
 refine cp am2 (c_VCross (v3s b a) (v3s c a) (2*R+1) (by omega) hs1 hs2) ?_
 refine zg8 ?_
 refine cp am1 (hZ) ?_
 refine zg2 ?_
 refine wl_if rfl (fun h17r h17=>?_) (fun h17r h17=>?_)
 ·refine zg2 ?_
  refine s0bd bdZ ?_
  refine zg6 ?_
  exact retCT [] rfl rfl rfl cs (at_all cs rfl) T86 (.pure pu) rfl (.pure rfl)
 ·first | exact absurd rfl h17 | cases h17r
namespace H_c_VTh
theorem zSm {p q:Prop} (k:q) (e:p=q:=by simp only [e1,e2,e3,e4,p1,p2,p3,q1,q2,q3,l1,t0,t1,r1,r2,r3,r4,Nat.zero_add,Nat.reduceMul,Nat.reduceAdd,b1,b2,b3,b4,b5,b6,i1,i2,i3,i4,i5,i6,Nat.reduceBEq,List.set_cons_zero,List.set_cons_succ,Nat.reduceEqDiff,reduceIte,if_true,if_false,ptL_kill,poL_kill,kills_map ptE,kills_map poE,kills_map ratE,ratL_kill,spL_kill,LV.kill,kills];exact rfl):p:=e.mpr k
end H_c_VTh
open H_c_VTh in
theorem c_VTh (a b c:V3) (R:Nat) (hR:R≤10000000) (ha:bd3 R a) (hb:bd3 R b) (hc:bd3 R c) (hz:eqV (thN a b c) ⟨0,0,0⟩=false):CallP Tryz.prog 80 [ptL a,ptL b,ptL c] (.tup [poL ⟨(thN a b c),v3d (thN a b c) a⟩,iL 0]):=by
 have hn:=thN_bd ha hb hc
 have hs1:=v3s_rl hb ha
 have hs2:=v3s_rl hc ha
 have hZ:CallP Tryz.prog 150 [ptL (thN a b c)] (bL false):=by
  have:=c_VZero (thN a b c) (hn.le (by omega))
  rwa [hz] at this
 refine fnP Tryz.func80 (ht:=(tame2 (poE.pure _) rfl)) ?_
 refine zg10 ?_
 refine wl_regD 8 (by decide +kernel) ?_
 refine zg2 ?_
 refine cp am2 (c_VSub b a R (by omega) hb ha) ?_
 refine zg2 ?_
 refine cp am2 (c_VSub c a R (by omega) hc ha) ?_
 refine cp am2 (c_VCross (v3s b a) (v3s c a) (2*R+1) (by omega) hs1 hs2) ?_
 refine zg8 ?_
 refine cp am1 (hZ) ?_
 refine zg2 ?_
 refine wl_if rfl (fun h17r h17=>?_) (fun h17r h17=>?_)
 ·first | exact h17.elim | cases h17r
 ·refine zg3 ?_
  refine wl_regD 5 (by decide +kernel) ?_
  refine zg3 ?_
  refine cp am2 (c_VDot (thN a b c) a (8*R+9) (by omega) hn (ha.le (by omega))) ?_
  refine s0bd (bdPo (p:=(thN a b c)) (r:=v3d (thN a b c) a) rfl rfl) ?_
  refine zg5 ?_
  exact retCT [] rfl rfl rfl cs (at_all cs rfl) T86 (.pure pu) rfl (.pure rfl)
namespace H_c_FVThN
theorem zSm {p q:Prop} (k:q) (e:p=q:=by simp only [e1,e2,e3,e4,p1,p2,p3,q1,q2,q3,l1,t0,t1,r1,r2,r3,r4,Nat.zero_add,Nat.reduceMul,Nat.reduceAdd,b1,b2,b3,b4,b5,b6,i1,i2,i3,i4,i5,i6,Nat.reduceBEq,List.set_cons_zero,List.set_cons_succ,Nat.reduceEqDiff,reduceIte,if_true,if_false,ptL_kill,poL_kill,kills_map ptE,kills_map poE,kills_map ratE,ratL_kill,spL_kill,LV.kill,kills];exact rfl):p:=e.mpr k
end H_c_FVThN
open H_c_FVThN in
theorem c_FVThN (a b c:V3) (R:Nat) (hR:R≤10000000) (ha:bd3 R a) (hb:bd3 R b) (hc:bd3 R c) (hz:eqV (thN a b c) ⟨0,0,0⟩=true):CallP Tryz.prog 48 [ptL a,ptL b,ptL c] (.tup [poL pzV,iL 9]):=by
 have hn:=thN_bd ha hb hc
 have hs1:=v3s_rl hb ha
 have hs2:=v3s_rl hc ha
 have hZ:CallP Tryz.prog 18 [ptL (thN a b c)] (bL true):=by
  have:=c_FVZero (thN a b c) (hn.le (by omega))
  rwa [hz] at this
 refine fnP Tryz.func48 (ht:=(tame2 (poE.pure _) rfl)) ?_
 refine zg10 ?_
 refine wl_regD 8 (by decide +kernel) ?_
 refine zg2 ?_
 refine cp am2 (c_FVSub b a R (by omega) hb ha) ?_
 refine zg2 ?_
 refine cp am2 (c_FVSub c a R (by omega) hc ha) ?_
 refine cp am2 (c_FVCross (v3s b a) (v3s c a) (2*R+1) (by omega) hs1 hs2) ?_
 refine zg8 ?_
 refine cp am1 (hZ) ?_
 refine zg2 ?_
 refine wl_if rfl (fun h17r h17=>?_) (fun h17r h17=>?_)
 ·refine zg2 ?_
  refine s0bd bdZ ?_
  refine zg6 ?_
  exact retCT [] rfl rfl rfl cs (at_all cs rfl) T86 (.pure pu) rfl (.pure rfl)
 ·first | exact absurd rfl h17 | cases h17r
namespace H_c_FVTh
theorem zSm {p q:Prop} (k:q) (e:p=q:=by simp only [e1,e2,e3,e4,p1,p2,p3,q1,q2,q3,l1,t0,t1,r1,r2,r3,r4,Nat.zero_add,Nat.reduceMul,Nat.reduceAdd,b1,b2,b3,b4,b5,b6,i1,i2,i3,i4,i5,i6,Nat.reduceBEq,List.set_cons_zero,List.set_cons_succ,Nat.reduceEqDiff,reduceIte,if_true,if_false,ptL_kill,poL_kill,kills_map ptE,kills_map poE,kills_map ratE,ratL_kill,spL_kill,LV.kill,kills];exact rfl):p:=e.mpr k
end H_c_FVTh
open H_c_FVTh in
theorem c_FVTh (a b c:V3) (R:Nat) (hR:R≤10000000) (ha:bd3 R a) (hb:bd3 R b) (hc:bd3 R c) (hz:eqV (thN a b c) ⟨0,0,0⟩=false):CallP Tryz.prog 48 [ptL a,ptL b,ptL c] (.tup [poL ⟨(thN a b c),v3d (thN a b c) a⟩,iL 0]):=by
 have hn:=thN_bd ha hb hc
 have hs1:=v3s_rl hb ha
 have hs2:=v3s_rl hc ha
 have hZ:CallP Tryz.prog 18 [ptL (thN a b c)] (bL false):=by
  have:=c_FVZero (thN a b c) (hn.le (by omega))
  rwa [hz] at this
 refine fnP Tryz.func48 (ht:=(tame2 (poE.pure _) rfl)) ?_
 refine zg10 ?_
 refine wl_regD 8 (by decide +kernel) ?_
 refine zg2 ?_
 refine cp am2 (c_FVSub b a R (by omega) hb ha) ?_
 refine zg2 ?_
 refine cp am2 (c_FVSub c a R (by omega) hc ha) ?_
 refine cp am2 (c_FVCross (v3s b a) (v3s c a) (2*R+1) (by omega) hs1 hs2) ?_
 refine zg8 ?_
 refine cp am1 (hZ) ?_
 refine zg2 ?_
 refine wl_if rfl (fun h17r h17=>?_) (fun h17r h17=>?_)
 ·first | exact h17.elim | cases h17r
 ·refine zg3 ?_
  refine wl_regD 5 (by decide +kernel) ?_
  refine zg3 ?_
  refine cp am2 (c_FDot (thN a b c) a (8*R+9) (by omega) hn (ha.le (by omega))) ?_
  refine s0bd (bdPo (p:=(thN a b c)) (r:=v3d (thN a b c) a) rfl rfl) ?_
  refine zg5 ?_
  exact retCT [] rfl rfl rfl cs (at_all cs rfl) T86 (.pure pu) rfl (.pure rfl)
namespace H_c_ppts
theorem zSm {p q:Prop} (k:q) (e:p=q:=by simp only [e1,e2,e3,e4,p1,p2,p3,q1,q2,q3,l1,t0,t1,r1,r2,r3,r4,Nat.zero_add,Nat.reduceMul,Nat.reduceAdd,b1,b2,b3,b4,b5,b6,i1,i2,i3,i4,i5,i6,Nat.reduceBEq,prL,etk,ers,ehpm,len_snoc,prL_kill,kills_map prE,dfr,dfq,take_map_len,map_snoc,len_snoc,List.length_cons,List.length_nil,List.nil_append,List.map_nil,List.take_nil,List.append_nil,List.set_cons_zero,List.set_cons_succ,Nat.reduceEqDiff,reduceIte,if_true,if_false,ptL_kill,poL_kill,kills_map ptE,kills_map poE,kills_map ratE,ratL_kill,spL_kill,LV.kill,kills];exact rfl):p:=e.mpr k
end H_c_ppts
open H_c_ppts in
theorem c_ppts (U V:Nat) (kU kV:List Rat) (rows:List (List PoR)) (R:Nat) (hw:rwOK rows R):CallP Tryz.prog 81 [.agg [nI64 U,nI64 V,.list 3 (kU.map ratL),.list 3 (kV.map ratL),.list 1 (rows.map prL)]] (.list 9 ((rows.flatten.map (·.p)).map ptL)):=by
 have hsp:LV.pure (.agg [nI64 U,nI64 V,.list 3 (kU.map ratL),.list 3 (kV.map ratL),.list 1 (rows.map prL)])=true:=by simp [LV.pure,pures,pures_map ratE,pures_map prE]
 have hwn:=hw.n
 have hwf:=hw.f
 refine fnP Tryz.func81 (ht:=(fun g=>LV.ren_pure g _ (pure_lst ptE 9 _))) ?_
 have etk:True:=trivial
 have ers:True:=trivial
 have ehpm:True:=trivial
 refine zg21 ?_
 refine wl_weak ((Weak.kill _ 1).trans (Weak.own (t:=3) 25 9 rfl rfl)) ?_
 refine lp2 (fun(i:Nat) (ps:List PoR) L=>(((((St.mk L.slot (hp [(25,⟨9,(ps.map (·.p)).map ptL,true⟩)])).put (some 3) (.ref 25 9 0 ps.length)).put (some 9) (.list 1 (rows.map prL))).put (some 10) (nI64 rows.length)).put (some 11) (nI64 i))) (fun i ps=>rwI rows i ps) (fun i ps=>rows.length-i) 0 ([]) (rwI.zero rows) ?_
 rintro i ps L1 hI
 refine zg6 ?_
 refine wl_if rfl (fun h12r h12=>?_) (fun h12r h12=>?_)
 ·have hi2:i<rows.length:=by omega
  refine zg19 ?_
  refine lp2 (fun(j:Nat) (qs:List PoR) L=>((((((((St.mk L.slot (hp [(25,⟨9,(qs.map (·.p)).map ptL,true⟩)])).put (some 3) (.ref 25 9 0 qs.length)).put (some 9) (.list 1 (rows.map prL))).put (some 10) (nI64 rows.length)).put (some 11) (nI64 i)).put (some 15) (.list 12 ((rows.getD i []).map poL))).put (some 16) (nI64 (rows.getD i []).length)).put (some 17) (nI64 j))) (fun j qs=>rwJ rows i j qs) (fun j qs=>(rows.getD i []).length-j) 0 ps (hI.go hi2) ?_
  rintro j qs L2 hJ
  refine zg6 ?_
  refine wl_if rfl (fun h18r h18=>?_) (fun h18r h18=>?_)
  ·have hj2:j<(rows.getD i []).length:=by omega
   have hJe:=hJ.hj
   have hJl:=hJ.le
   have hJi:=hJ.hi
   have hrm:=getR_mem hJi
   have hrl:=hw.m _ hrm
   have ers:(qs.map (·.p))++[((rows.getD i []).getD j default).p]=((qs++[((rows.getD i []).getD j default)]).map (·.p)):=by simp
   have etk:((qs.map (·.p)).map ptL).take qs.length=(qs.map (·.p)).map ptL:=List.take_of_length_le (by simp)
   have ehpm:(qs.map (·.p)).length=qs.length:=List.length_map ..
   have hJ2:=hJ.lt hj2
   refine zg17 ?_
   refine st_store rfl (.appX (d:=25) (news:=[ptL ((rows.getD i []).getD j default).p]) rfl rfl rfl rfl (by simp) (.inl rfl) (by decide) Tryz.underlying122 Tryz.underlying122 Z31 T31 cs B31 (.inl ⟨24,0,_,rfl,by decide,rfl,rfl,by simp,rfl,by simp [pures,ptE.pure]⟩) (by simp;omega) (by simp;omega) (by decide)) ?_
   refine zg4 ?_
   refine wl_regW ((Weak.kill _ 7).trans (Weak.kill _ 24)) ?_
   refine st_pure rfl (.bin rfl rfl (add1N (by omega))) ?_
   refine zg3 ?_
   exact nx2 (j+1) (qs++[((rows.getD i []).getD j default)]) (hJ.next hj2)
  ·have hJe:=hJ.hj
   have hJl:=hJ.le
   have hJi:=hJ.hi
   have hrm:=getR_mem hJi
   have hrl:=hw.m _ hrm
   obtain rfl:j=(rows.getD i []).length:=by omega
   refine zg7 ?_
   refine st_pure rfl (.bin rfl rfl (add1N (by omega))) ?_
   refine zg3 ?_
   exact nx2 (i+1) qs hJ.last (hm:=by have:=hJ.hi;omega)
 ·have hIi:=hI.hi
  obtain rfl:i=rows.length:=by omega
  have hE:=hI.last
  subst hE
  refine zg12 ?_
  exact ret1f [25] rfl rfl (imm_refm ptE rfl rfl (by rw [List.length_map]))
namespace H_c_PBox
theorem zSm {p q:Prop} (k:q) (e:p=q:=by simp only [e1,e2,e3,e4,p1,p2,p3,q1,q2,q3,l1,t0,t1,r1,r2,r3,r4,Nat.zero_add,Nat.reduceMul,Nat.reduceAdd,b1,b2,b3,b4,b5,b6,i1,i2,i3,i4,i5,i6,Nat.reduceBEq,prL_kill,kills_map prE,dfr,dfq,take_map_len,map_snoc,len_snoc,List.length_cons,List.length_nil,List.nil_append,List.map_nil,List.take_nil,List.append_nil,List.set_cons_zero,List.set_cons_succ,Nat.reduceEqDiff,reduceIte,if_true,if_false,ptL_kill,poL_kill,kills_map ptE,kills_map poE,kills_map ratE,ratL_kill,spL_kill,LV.kill,kills];exact rfl):p:=e.mpr k
end H_c_PBox
open H_c_PBox in
theorem c_PBox (R U V:Nat) (kU kV:List Rat) (rows:List (List PoR)) (h:pf R U V rows) (hR:R≤200000):CallP Tryz.prog 33 [.agg [nI64 U,nI64 V,.list 3 (kU.map ratL),.list 3 (kV.map ratL),.list 1 (rows.map prL)]] (bxL (bxP (rows.flatten.map (·.p)))):=by
 have hsp:LV.pure (.agg [nI64 U,nI64 V,.list 3 (kU.map ratL),.list 3 (kV.map ratL),.list 1 (rows.map prL)])=true:=by simp [LV.pure,pures,pures_map ratE,pures_map prE]
 have h16:=h.l16
 have h0:=h.pos
 have hpl:(rows.flatten.map (·.p)).length=rows.flatten.length:=List.length_map ..
 refine fnP Tryz.func33 (ht:=(fun r=>LV.ren_pure r _ (bxE.pure _))) ?_
 refine zg9 ?_
 refine cp am1 (c_ppts U V kU kV rows R h.rw) ?_
 refine cp am1 (c_VBoxOf (rows.flatten.map (·.p)) (by omega) (by omega) R (by omega) (fun i hi=>h.fp hi)) ?_
 refine zg15 ?_
 exact retC [] rfl rfl rfl cs (at_all cs rfl) T74 (.pure pu)
namespace H_c_PFlatN
theorem zSm {p q:Prop} (k:q) (e:p=q:=by simp only [e1,e2,e3,e4,p1,p2,p3,q1,q2,q3,l1,t0,t1,r1,r2,r3,r4,Nat.zero_add,Nat.reduceMul,Nat.reduceAdd,b1,b2,b3,b4,b5,b6,i1,i2,i3,i4,i5,i6,Nat.reduceBEq,hT,hT2,plcs,plcs2,Nat.add_sub_cancel,dfr,dfq,prL,hrn,hr0,hrU,hixU,hixV,hpl,List.length_map,List.take_zero,fl_nil,zdiv,List.set_cons_zero,List.set_cons_succ,Nat.reduceEqDiff,reduceIte,if_true,if_false,ptL_kill,poL_kill,kills_map ptE,kills_map poE,kills_map ratE,ratL_kill,spL_kill,LV.kill,kills];exact rfl):p:=e.mpr k
end H_c_PFlatN
open H_c_PFlatN in
theorem c_PFlatN (R U V:Nat) (kU kV:List Rat) (rows:List (List PoR)) (h:pf R U V rows) (hR:R≤200000) (hz:eqV (thN ((rows.getD 0 []).getD 0 default).p ((rows.getD U []).getD 0 default).p ((rows.getD 0 []).getD V default).p) ⟨0,0,0⟩=true):CallP Tryz.prog 27 [.agg [nI64 U,nI64 V,.list 3 (kU.map ratL),.list 3 (kV.map ratL),.list 1 (rows.map prL)]] (.tup [ratL 0,iL 9]):=by
 have hsp:LV.pure (.agg [nI64 U,nI64 V,.list 3 (kU.map ratL),.list 3 (kV.map ratL),.list 1 (rows.map prL)])=true:=by simp [LV.pure,pures,pures_map ratE,pures_map prE]
 have h16:=h.l16
 have h0:=h.pos
 have hpl:(rows.flatten.map (·.p)).length=rows.flatten.length:=List.length_map ..
 have hu3:=h.u3
 have hv3:=h.v3
 have hrn:=h.n
 have hr0:=h.r0 (Nat.zero_le U)
 have hrU:=h.r0 (Nat.le_refl U)
 have hixU:(((U+1:Nat):Int)-1).toNat=U:=by omega
 have hixV:(((V+1:Nat):Int)-1).toNat=V:=by omega
 have hA:=h.pt (i:=0) (j:=0) (by omega) (by omega)
 have hB:=h.pt (i:=U) (j:=0) (by omega) (by omega)
 have hC:=h.pt (i:=0) (j:=V) (by omega) (by omega)
 have hT:(rows.flatten.map (·.p)).take (rows.flatten.map (·.p)).length=(rows.flatten.map (·.p)):=List.take_of_length_le (Nat.le_refl _)
 have hT2:(rows.flatten.map (·.p)).take rows.flatten.length=(rows.flatten.map (·.p)):=by rw [←hpl];exact hT
 refine fnP Tryz.func27 (ht:=(tame2 (ratE.pure _) rfl)) ?_
 refine zg15 ?_
 refine st_pure (guardX (v:=false) rfl rfl ((beq_eq_false_iff_ne.2 (by first | omega | (simp only [List.length_map,prL,hrn,dfr,t0,t1,Nat.add_sub_cancel,hr0,hixU,hrU];omega)))) rfl) faA ?_
 refine st_pure (guardX (v:=false) rfl rfl ((beq_eq_false_iff_ne.2 (by first | omega | (simp only [List.length_map,prL,hrn,dfr,t0,t1,Nat.add_sub_cancel,hr0,hixU,hrU];omega)))) rfl) ldA ?_
 refine st_pure (guardX (v:=false) rfl rfl ((beq_eq_false_iff_ne.2 (by first | omega | (simp only [List.length_map,prL,hrn,dfr,t0,t1,Nat.add_sub_cancel,hr0,hixU,hrU];omega)))) rfl) ixA ?_
 refine st_pure (guardX (v:=false) rfl rfl ((beq_eq_false_iff_ne.2 (by first | omega | (simp only [List.length_map,prL,hrn,dfr,t0,t1,Nat.add_sub_cancel,hr0,hixU,hrU];omega)))) rfl) ldA ?_
 refine st_pure (guardX (v:=false) rfl rfl ((beq_eq_false_iff_ne.2 (by first | omega | (simp only [List.length_map,prL,hrn,dfr,t0,t1,Nat.add_sub_cancel,hr0,hixU,hrU];omega)))) rfl) lnA ?_
 refine st_pure (guardX (v:=false) rfl rfl ((beq_eq_false_iff_ne.2 (by first | omega | (simp only [List.length_map,prL,hrn,dfr,t0,t1,Nat.add_sub_cancel,hr0,hixU,hrU];omega)))) rfl) (.bin rfl rfl rfl) ?_
 refine st_pure rfl (.pickF rfl ((beq_eq_false_iff_ne.2 (by first | omega | (simp only [List.length_map,prL,hrn,dfr,t0,t1,Nat.add_sub_cancel,hr0,hixU,hrU];omega))))) ?_
 refine zg1 ?_
 refine st_pure (guardX (v:=false) rfl rfl ((beq_eq_false_iff_ne.2 (by first | omega | (simp only [List.length_map,prL,hrn,dfr,t0,t1,Nat.add_sub_cancel,hr0,hixU,hrU];omega)))) rfl) faA ?_
 refine st_pure (guardX (v:=false) rfl rfl ((beq_eq_false_iff_ne.2 (by first | omega | (simp only [List.length_map,prL,hrn,dfr,t0,t1,Nat.add_sub_cancel,hr0,hixU,hrU];omega)))) rfl) ldA ?_
 refine st_pure (guardX (v:=false) rfl rfl ((beq_eq_false_iff_ne.2 (by first | omega | (simp only [List.length_map,prL,hrn,dfr,t0,t1,Nat.add_sub_cancel,hr0,hixU,hrU];omega)))) rfl) faA ?_
 refine st_pure (guardX (v:=false) rfl rfl ((beq_eq_false_iff_ne.2 (by first | omega | (simp only [List.length_map,prL,hrn,dfr,t0,t1,Nat.add_sub_cancel,hr0,hixU,hrU];omega)))) rfl) ldA ?_
 refine st_pure (guardX (v:=false) rfl rfl ((beq_eq_false_iff_ne.2 (by first | omega | (simp only [List.length_map,prL,hrn,dfr,t0,t1,Nat.add_sub_cancel,hr0,hixU,hrU];omega)))) rfl) lnA ?_
 refine st_pure (guardX (v:=false) rfl rfl ((beq_eq_false_iff_ne.2 (by first | omega | (simp only [List.length_map,prL,hrn,dfr,t0,t1,Nat.add_sub_cancel,hr0,hixU,hrU];omega)))) rfl) (.bin rfl rfl (sub1N (by first | omega | (simp only [List.length_map,prL,hrn,dfr,t0,t1,Nat.add_sub_cancel,hr0,hixU,hrU];omega)) (by first | omega | (simp only [List.length_map,prL,hrn,dfr,t0,t1,Nat.add_sub_cancel,hr0,hixU,hrU];omega)))) ?_
 refine st_pure (guardX (v:=false) rfl rfl ((beq_eq_false_iff_ne.2 (by first | omega | (simp only [List.length_map,prL,hrn,dfr,t0,t1,Nat.add_sub_cancel,hr0,hixU,hrU];omega)))) rfl) ixA ?_
 try simp only [t1,dfr,prL,List.length_map,hrn,hixU,Nat.add_sub_cancel]
 refine st_pure (guardX (v:=false) rfl rfl ((beq_eq_false_iff_ne.2 (by first | omega | (simp only [List.length_map,prL,hrn,dfr,t0,t1,Nat.add_sub_cancel,hr0,hixU,hrU];omega)))) rfl) ldA ?_
 refine st_pure (guardX (v:=false) rfl rfl ((beq_eq_false_iff_ne.2 (by first | omega | (simp only [List.length_map,prL,hrn,dfr,t0,t1,Nat.add_sub_cancel,hr0,hixU,hrU];omega)))) rfl) lnA ?_
 refine st_pure (guardX (v:=false) rfl rfl ((beq_eq_false_iff_ne.2 (by first | omega | (simp only [List.length_map,prL,hrn,dfr,t0,t1,Nat.add_sub_cancel,hr0,hixU,hrU];omega)))) rfl) (.bin rfl rfl rfl) ?_
 refine st_pure rfl (.pickF rfl ((beq_eq_false_iff_ne.2 (by first | omega | (simp only [List.length_map,prL,hrn,dfr,t0,t1,Nat.add_sub_cancel,hr0,hixU,hrU];omega))))) ?_
 refine zg2 ?_
 refine wl_condY (b:=_) rfl (beq_eq_false_iff_ne.2 (by first | omega | (simp only [List.length_map,prL,hrn,dfr,t0,t1,Nat.add_sub_cancel,hr0,hixU,hrU];omega))) ?_
 refine zg12 ?_
 refine wl_regF 27 [25] (by decide +kernel) ?_
 refine zg9 ?_
 refine st_pure rfl (.bin rfl rfl (sub1N (by first | omega | (simp only [List.length_map,prL,hrn,dfr,t0,t1,Nat.add_sub_cancel,hr0,hixU,hrU];omega)) (by first | omega | (simp only [List.length_map,prL,hrn,dfr,t0,t1,Nat.add_sub_cancel,hr0,hixU,hrU];omega)))) ?_
 refine zg8 ?_
 refine st_pure rfl (.bin rfl rfl (sub1N (by first | omega | (simp only [List.length_map,prL,hrn,dfr,t0,t1,Nat.add_sub_cancel,hr0,hixU,hrU];omega)) (by first | omega | (simp only [List.length_map,prL,hrn,dfr,t0,t1,Nat.add_sub_cancel,hr0,hixU,hrU];omega)))) ?_
 refine zg3 ?_
 try simp only [t1,dfr,dfq,prL,List.length_map,hrn,hr0,hrU,hixU,hixV,Nat.add_sub_cancel]
 refine cp am3 (c_VThN ((rows.getD 0 []).getD 0 default).p ((rows.getD U []).getD 0 default).p ((rows.getD 0 []).getD V default).p R (by omega) hA hB hC hz) ?_
 refine zg15 ?_
 refine wl_condX (b:=_) rfl (rfl) ?_
 refine zg2 ?_
 refine st_pure rfl (.build0 SL29 Z29a) ?_
 refine zg7 ?_
 exact retCT [] rfl rfl rfl (ratE.csize _) (ratL_all _) T29 (.pure (ratE.pure _)) rfl (.pure rfl)
namespace H_c_PFlat
theorem zSm {p q:Prop} (k:q) (e:p=q:=by simp only [e1,e2,e3,e4,p1,p2,p3,q1,q2,q3,l1,t0,t1,r1,r2,r3,r4,Nat.zero_add,Nat.reduceMul,Nat.reduceAdd,b1,b2,b3,b4,b5,b6,i1,i2,i3,i4,i5,i6,Nat.reduceBEq,hT,hT2,ratL_zero,plcs,plcs2,Nat.add_sub_cancel,dfr,dfq,prL,hrn,hr0,hrU,hixU,hixV,hpl,List.length_map,List.take_zero,fl_nil,zdiv,List.set_cons_zero,List.set_cons_succ,Nat.reduceEqDiff,reduceIte,if_true,if_false,ptL_kill,poL_kill,kills_map ptE,kills_map poE,kills_map ratE,ratL_kill,spL_kill,LV.kill,kills];exact rfl):p:=e.mpr k
end H_c_PFlat
open H_c_PFlat in
theorem c_PFlat (R U V:Nat) (kU kV:List Rat) (rows:List (List PoR)) (h:pf R U V rows) (hR:R≤200000) (hz:eqV (thN ((rows.getD 0 []).getD 0 default).p ((rows.getD U []).getD 0 default).p ((rows.getD 0 []).getD V default).p) ⟨0,0,0⟩=false):CallP Tryz.prog 27 [.agg [nI64 U,nI64 V,.list 3 (kU.map ratL),.list 3 (kV.map ratL),.list 1 (rows.map prL)]] (.tup [ratL ((flT (thN ((rows.getD 0 []).getD 0 default).p ((rows.getD U []).getD 0 default).p ((rows.getD 0 []).getD V default).p) (v3d (thN ((rows.getD 0 []).getD 0 default).p ((rows.getD U []).getD 0 default).p ((rows.getD 0 []).getD V default).p) ((rows.getD 0 []).getD 0 default).p) (rows.flatten.map (·.p)))/(v3d (thN ((rows.getD 0 []).getD 0 default).p ((rows.getD U []).getD 0 default).p ((rows.getD 0 []).getD V default).p) (thN ((rows.getD 0 []).getD 0 default).p ((rows.getD U []).getD 0 default).p ((rows.getD 0 []).getD V default).p))),iL 0]):=by
 have hsp:LV.pure (.agg [nI64 U,nI64 V,.list 3 (kU.map ratL),.list 3 (kV.map ratL),.list 1 (rows.map prL)])=true:=by simp [LV.pure,pures,pures_map ratE,pures_map prE]
 have h16:=h.l16
 have h0:=h.pos
 have hpl:(rows.flatten.map (·.p)).length=rows.flatten.length:=List.length_map ..
 have hu3:=h.u3
 have hv3:=h.v3
 have hrn:=h.n
 have hr0:=h.r0 (Nat.zero_le U)
 have hrU:=h.r0 (Nat.le_refl U)
 have hixU:(((U+1:Nat):Int)-1).toNat=U:=by omega
 have hixV:(((V+1:Nat):Int)-1).toNat=V:=by omega
 have hA:=h.pt (i:=0) (j:=0) (by omega) (by omega)
 have hB:=h.pt (i:=U) (j:=0) (by omega) (by omega)
 have hC:=h.pt (i:=0) (j:=V) (by omega) (by omega)
 have hT:(rows.flatten.map (·.p)).take (rows.flatten.map (·.p)).length=(rows.flatten.map (·.p)):=List.take_of_length_le (Nat.le_refl _)
 have hT2:(rows.flatten.map (·.p)).take rows.flatten.length=(rows.flatten.map (·.p)):=by rw [←hpl];exact hT
 have hnb:bd3 (8*R+9) (thN ((rows.getD 0 []).getD 0 default).p ((rows.getD U []).getD 0 default).p ((rows.getD 0 []).getD V default).p):=h.thb
 have hdr:rl (v3d (thN ((rows.getD 0 []).getD 0 default).p ((rows.getD U []).getD 0 default).p ((rows.getD 0 []).getD V default).p) ((rows.getD 0 []).getD 0 default).p)≤27*R+31:=by have:=v3d_rl hnb hA;omega
 have hdd:rl (v3d (thN ((rows.getD 0 []).getD 0 default).p ((rows.getD U []).getD 0 default).p ((rows.getD 0 []).getD V default).p) (thN ((rows.getD 0 []).getD 0 default).p ((rows.getD U []).getD 0 default).p ((rows.getD 0 []).getD V default).p))≤48*R+58:=by have:=v3d_rl hnb hnb;omega
 have hfa:=fun i=>fl_all hnb hdr h.fa i
 have hdp:0<(v3d (thN ((rows.getD 0 []).getD 0 default).p ((rows.getD U []).getD 0 default).p ((rows.getD 0 []).getD V default).p) (thN ((rows.getD 0 []).getD 0 default).p ((rows.getD U []).getD 0 default).p ((rows.getD 0 []).getD V default).p)):=nn_pos hz
 refine fnP Tryz.func27 (ht:=(tame2 (ratE.pure _) rfl)) ?_
 refine zg15 ?_
 refine st_pure (guardX (v:=false) rfl rfl ((beq_eq_false_iff_ne.2 (by first | omega | (simp only [List.length_map,prL,hrn,dfr,t0,t1,Nat.add_sub_cancel,hr0,hixU,hrU];omega)))) rfl) faA ?_
 refine st_pure (guardX (v:=false) rfl rfl ((beq_eq_false_iff_ne.2 (by first | omega | (simp only [List.length_map,prL,hrn,dfr,t0,t1,Nat.add_sub_cancel,hr0,hixU,hrU];omega)))) rfl) ldA ?_
 refine st_pure (guardX (v:=false) rfl rfl ((beq_eq_false_iff_ne.2 (by first | omega | (simp only [List.length_map,prL,hrn,dfr,t0,t1,Nat.add_sub_cancel,hr0,hixU,hrU];omega)))) rfl) ixA ?_
 refine st_pure (guardX (v:=false) rfl rfl ((beq_eq_false_iff_ne.2 (by first | omega | (simp only [List.length_map,prL,hrn,dfr,t0,t1,Nat.add_sub_cancel,hr0,hixU,hrU];omega)))) rfl) ldA ?_
 refine st_pure (guardX (v:=false) rfl rfl ((beq_eq_false_iff_ne.2 (by first | omega | (simp only [List.length_map,prL,hrn,dfr,t0,t1,Nat.add_sub_cancel,hr0,hixU,hrU];omega)))) rfl) lnA ?_
 refine st_pure (guardX (v:=false) rfl rfl ((beq_eq_false_iff_ne.2 (by first | omega | (simp only [List.length_map,prL,hrn,dfr,t0,t1,Nat.add_sub_cancel,hr0,hixU,hrU];omega)))) rfl) (.bin rfl rfl rfl) ?_
 refine st_pure rfl (.pickF rfl ((beq_eq_false_iff_ne.2 (by first | omega | (simp only [List.length_map,prL,hrn,dfr,t0,t1,Nat.add_sub_cancel,hr0,hixU,hrU];omega))))) ?_
 refine zg1 ?_
 refine st_pure (guardX (v:=false) rfl rfl ((beq_eq_false_iff_ne.2 (by first | omega | (simp only [List.length_map,prL,hrn,dfr,t0,t1,Nat.add_sub_cancel,hr0,hixU,hrU];omega)))) rfl) faA ?_
 refine st_pure (guardX (v:=false) rfl rfl ((beq_eq_false_iff_ne.2 (by first | omega | (simp only [List.length_map,prL,hrn,dfr,t0,t1,Nat.add_sub_cancel,hr0,hixU,hrU];omega)))) rfl) ldA ?_
 refine st_pure (guardX (v:=false) rfl rfl ((beq_eq_false_iff_ne.2 (by first | omega | (simp only [List.length_map,prL,hrn,dfr,t0,t1,Nat.add_sub_cancel,hr0,hixU,hrU];omega)))) rfl) faA ?_
 refine st_pure (guardX (v:=false) rfl rfl ((beq_eq_false_iff_ne.2 (by first | omega | (simp only [List.length_map,prL,hrn,dfr,t0,t1,Nat.add_sub_cancel,hr0,hixU,hrU];omega)))) rfl) ldA ?_
 refine st_pure (guardX (v:=false) rfl rfl ((beq_eq_false_iff_ne.2 (by first | omega | (simp only [List.length_map,prL,hrn,dfr,t0,t1,Nat.add_sub_cancel,hr0,hixU,hrU];omega)))) rfl) lnA ?_
 refine st_pure (guardX (v:=false) rfl rfl ((beq_eq_false_iff_ne.2 (by first | omega | (simp only [List.length_map,prL,hrn,dfr,t0,t1,Nat.add_sub_cancel,hr0,hixU,hrU];omega)))) rfl) (.bin rfl rfl (sub1N (by first | omega | (simp only [List.length_map,prL,hrn,dfr,t0,t1,Nat.add_sub_cancel,hr0,hixU,hrU];omega)) (by first | omega | (simp only [List.length_map,prL,hrn,dfr,t0,t1,Nat.add_sub_cancel,hr0,hixU,hrU];omega)))) ?_
 refine st_pure (guardX (v:=false) rfl rfl ((beq_eq_false_iff_ne.2 (by first | omega | (simp only [List.length_map,prL,hrn,dfr,t0,t1,Nat.add_sub_cancel,hr0,hixU,hrU];omega)))) rfl) ixA ?_
 try simp only [t1,dfr,prL,List.length_map,hrn,hixU,Nat.add_sub_cancel]
 refine st_pure (guardX (v:=false) rfl rfl ((beq_eq_false_iff_ne.2 (by first | omega | (simp only [List.length_map,prL,hrn,dfr,t0,t1,Nat.add_sub_cancel,hr0,hixU,hrU];omega)))) rfl) ldA ?_
 refine st_pure (guardX (v:=false) rfl rfl ((beq_eq_false_iff_ne.2 (by first | omega | (simp only [List.length_map,prL,hrn,dfr,t0,t1,Nat.add_sub_cancel,hr0,hixU,hrU];omega)))) rfl) lnA ?_
 refine st_pure (guardX (v:=false) rfl rfl ((beq_eq_false_iff_ne.2 (by first | omega | (simp only [List.length_map,prL,hrn,dfr,t0,t1,Nat.add_sub_cancel,hr0,hixU,hrU];omega)))) rfl) (.bin rfl rfl rfl) ?_
 refine st_pure rfl (.pickF rfl ((beq_eq_false_iff_ne.2 (by first | omega | (simp only [List.length_map,prL,hrn,dfr,t0,t1,Nat.add_sub_cancel,hr0,hixU,hrU];omega))))) ?_
 refine zg2 ?_
 refine wl_condY (b:=_) rfl (beq_eq_false_iff_ne.2 (by first | omega | (simp only [List.length_map,prL,hrn,dfr,t0,t1,Nat.add_sub_cancel,hr0,hixU,hrU];omega))) ?_
 refine zg12 ?_
 refine wl_regF 27 [25] (by decide +kernel) ?_
 refine zg9 ?_
 refine st_pure rfl (.bin rfl rfl (sub1N (by first | omega | (simp only [List.length_map,prL,hrn,dfr,t0,t1,Nat.add_sub_cancel,hr0,hixU,hrU];omega)) (by first | omega | (simp only [List.length_map,prL,hrn,dfr,t0,t1,Nat.add_sub_cancel,hr0,hixU,hrU];omega)))) ?_
 refine zg8 ?_
 refine st_pure rfl (.bin rfl rfl (sub1N (by first | omega | (simp only [List.length_map,prL,hrn,dfr,t0,t1,Nat.add_sub_cancel,hr0,hixU,hrU];omega)) (by first | omega | (simp only [List.length_map,prL,hrn,dfr,t0,t1,Nat.add_sub_cancel,hr0,hixU,hrU];omega)))) ?_
 refine zg3 ?_
 try simp only [t1,dfr,dfq,prL,List.length_map,hrn,hr0,hrU,hixU,hixV,Nat.add_sub_cancel]
 refine cp am3 (c_VTh ((rows.getD 0 []).getD 0 default).p ((rows.getD U []).getD 0 default).p ((rows.getD 0 []).getD V default).p R (by omega) hA hB hC hz) ?_
 refine zg15 ?_
 refine wl_condY (b:=_) rfl (rfl) ?_
 refine zg11 ?_
 refine cp am1 (c_ppts U V kU kV rows R h.rw) ?_
 refine zg5 ?_
 refine lp1 (fun(i:Nat) L=>((((((((St.mk L.slot (hp [(1,⟨5,[.agg [nI64 U,nI64 V,.list 3 (kU.map ratL),.list 3 (kV.map ratL),.list 1 (rows.map prL)]],true⟩),(2,⟨3,[ratL 0],true⟩),(5,⟨12,[poL ⟨(thN ((rows.getD 0 []).getD 0 default).p ((rows.getD U []).getD 0 default).p ((rows.getD 0 []).getD V default).p),(v3d (thN ((rows.getD 0 []).getD 0 default).p ((rows.getD U []).getD 0 default).p ((rows.getD 0 []).getD V default).p) ((rows.getD 0 []).getD 0 default).p)⟩],true⟩),(7,⟨3,[ratL (flT (thN ((rows.getD 0 []).getD 0 default).p ((rows.getD U []).getD 0 default).p ((rows.getD 0 []).getD V default).p) (v3d (thN ((rows.getD 0 []).getD 0 default).p ((rows.getD U []).getD 0 default).p ((rows.getD 0 []).getD V default).p) ((rows.getD 0 []).getD 0 default).p) ((rows.flatten.map (·.p)).take i))],true⟩)])).put (some 1) (.eptr 1 5 0 0)).put (some 2) (.eptr 2 3 0 0)).put (some 5) (.eptr 5 12 0 0)).put (some 7) (.eptr 7 3 0 0)).put (some 73) (.list 9 ((rows.flatten.map (·.p)).map ptL))).put (some 74) (nI64 (rows.flatten.map (·.p)).length)).put (some 75) (nI64 i))) (fun i=>i≤(rows.flatten.map (·.p)).length) (fun i=>(rows.flatten.map (·.p)).length-i) 0 (Nat.zero_le _) ?_
 rintro i L1 hi
 refine zg6 ?_
 refine wl_if rfl (fun h76r h76=>?_) (fun h76r h76=>?_)
 ·have hi2:i<(rows.flatten.map (·.p)).length:=by omega
  have hP:=h.fp hi2
  obtain⟨z1,z2,z3⟩:=fl_sz hnb hdr hP
  have hfi:=hfa i
  have hM:CallP Tryz.prog 84 [ratL (flT (thN ((rows.getD 0 []).getD 0 default).p ((rows.getD U []).getD 0 default).p ((rows.getD 0 []).getD V default).p) (v3d (thN ((rows.getD 0 []).getD 0 default).p ((rows.getD U []).getD 0 default).p ((rows.getD 0 []).getD V default).p) ((rows.getD 0 []).getD 0 default).p) ((rows.flatten.map (·.p)).take i)),ratL ((v3d (thN ((rows.getD 0 []).getD 0 default).p ((rows.getD U []).getD 0 default).p ((rows.getD 0 []).getD V default).p) ((rows.flatten.map (·.p)).getD i default)-(v3d (thN ((rows.getD 0 []).getD 0 default).p ((rows.getD U []).getD 0 default).p ((rows.getD 0 []).getD V default).p) ((rows.getD 0 []).getD 0 default).p))*(v3d (thN ((rows.getD 0 []).getD 0 default).p ((rows.getD U []).getD 0 default).p ((rows.getD 0 []).getD V default).p) ((rows.flatten.map (·.p)).getD i default)-(v3d (thN ((rows.getD 0 []).getD 0 default).p ((rows.getD U []).getD 0 default).p ((rows.getD 0 []).getD V default).p) ((rows.getD 0 []).getD 0 default).p)))] (ratL (flT (thN ((rows.getD 0 []).getD 0 default).p ((rows.getD U []).getD 0 default).p ((rows.getD 0 []).getD V default).p) (v3d (thN ((rows.getD 0 []).getD 0 default).p ((rows.getD U []).getD 0 default).p ((rows.getD 0 []).getD V default).p) ((rows.getD 0 []).getD 0 default).p) ((rows.flatten.map (·.p)).take (i+1)))):=by
   have:CallP Tryz.prog 84 [ratL (flT (thN ((rows.getD 0 []).getD 0 default).p ((rows.getD U []).getD 0 default).p ((rows.getD 0 []).getD V default).p) (v3d (thN ((rows.getD 0 []).getD 0 default).p ((rows.getD U []).getD 0 default).p ((rows.getD 0 []).getD V default).p) ((rows.getD 0 []).getD 0 default).p) ((rows.flatten.map (·.p)).take i)),ratL ((v3d (thN ((rows.getD 0 []).getD 0 default).p ((rows.getD U []).getD 0 default).p ((rows.getD 0 []).getD V default).p) ((rows.flatten.map (·.p)).getD i default)-(v3d (thN ((rows.getD 0 []).getD 0 default).p ((rows.getD U []).getD 0 default).p ((rows.getD 0 []).getD V default).p) ((rows.getD 0 []).getD 0 default).p))*(v3d (thN ((rows.getD 0 []).getD 0 default).p ((rows.getD U []).getD 0 default).p ((rows.getD 0 []).getD V default).p) ((rows.flatten.map (·.p)).getD i default)-(v3d (thN ((rows.getD 0 []).getD 0 default).p ((rows.getD U []).getD 0 default).p ((rows.getD 0 []).getD V default).p) ((rows.getD 0 []).getD 0 default).p)))] (ratL (mxR (flT (thN ((rows.getD 0 []).getD 0 default).p ((rows.getD U []).getD 0 default).p ((rows.getD 0 []).getD V default).p) (v3d (thN ((rows.getD 0 []).getD 0 default).p ((rows.getD U []).getD 0 default).p ((rows.getD 0 []).getD V default).p) ((rows.getD 0 []).getD 0 default).p) ((rows.flatten.map (·.p)).take i)) ((v3d (thN ((rows.getD 0 []).getD 0 default).p ((rows.getD U []).getD 0 default).p ((rows.getD 0 []).getD V default).p) ((rows.flatten.map (·.p)).getD i default)-(v3d (thN ((rows.getD 0 []).getD 0 default).p ((rows.getD U []).getD 0 default).p ((rows.getD 0 []).getD V default).p) ((rows.getD 0 []).getD 0 default).p))*(v3d (thN ((rows.getD 0 []).getD 0 default).p ((rows.getD U []).getD 0 default).p ((rows.getD 0 []).getD V default).p) ((rows.flatten.map (·.p)).getD i default)-(v3d (thN ((rows.getD 0 []).getD 0 default).p ((rows.getD U []).getD 0 default).p ((rows.getD 0 []).getD V default).p) ((rows.getD 0 []).getD 0 default).p))))):=c_RMax (flT (thN ((rows.getD 0 []).getD 0 default).p ((rows.getD U []).getD 0 default).p ((rows.getD 0 []).getD V default).p) (v3d (thN ((rows.getD 0 []).getD 0 default).p ((rows.getD U []).getD 0 default).p ((rows.getD 0 []).getD V default).p) ((rows.getD 0 []).getD 0 default).p) ((rows.flatten.map (·.p)).take i)) ((v3d (thN ((rows.getD 0 []).getD 0 default).p ((rows.getD U []).getD 0 default).p ((rows.getD 0 []).getD V default).p) ((rows.flatten.map (·.p)).getD i default)-(v3d (thN ((rows.getD 0 []).getD 0 default).p ((rows.getD U []).getD 0 default).p ((rows.getD 0 []).getD V default).p) ((rows.getD 0 []).getD 0 default).p))*(v3d (thN ((rows.getD 0 []).getD 0 default).p ((rows.getD U []).getD 0 default).p ((rows.getD 0 []).getD V default).p) ((rows.flatten.map (·.p)).getD i default)-(v3d (thN ((rows.getD 0 []).getD 0 default).p ((rows.getD U []).getD 0 default).p ((rows.getD 0 []).getD V default).p) ((rows.getD 0 []).getD 0 default).p))) (by omega)
   rwa [fl_snoc _ _ _ hi2] at this
  refine zg13 ?_
  refine wl_regD 8 (by decide +kernel) ?_
  refine zg3 ?_
  refine cp am2 (c_VDot (thN ((rows.getD 0 []).getD 0 default).p ((rows.getD U []).getD 0 default).p ((rows.getD 0 []).getD V default).p) ((rows.flatten.map (·.p)).getD i default) (8*R+9) (by omega) hnb (hP.le (by omega))) ?_
  refine zg2 ?_
  refine cp am2 (c_RSub (v3d (thN ((rows.getD 0 []).getD 0 default).p ((rows.getD U []).getD 0 default).p ((rows.getD 0 []).getD V default).p) ((rows.flatten.map (·.p)).getD i default)) (v3d (thN ((rows.getD 0 []).getD 0 default).p ((rows.getD U []).getD 0 default).p ((rows.getD 0 []).getD V default).p) ((rows.getD 0 []).getD 0 default).p) (by omega)) ?_
  refine zg4 ?_
  refine wl_regD 5 (by decide +kernel) ?_
  refine zg3 ?_
  refine cp am2 (c_RMul (v3d (thN ((rows.getD 0 []).getD 0 default).p ((rows.getD U []).getD 0 default).p ((rows.getD 0 []).getD V default).p) ((rows.flatten.map (·.p)).getD i default)-(v3d (thN ((rows.getD 0 []).getD 0 default).p ((rows.getD U []).getD 0 default).p ((rows.getD 0 []).getD V default).p) ((rows.getD 0 []).getD 0 default).p)) (v3d (thN ((rows.getD 0 []).getD 0 default).p ((rows.getD U []).getD 0 default).p ((rows.getD 0 []).getD V default).p) ((rows.flatten.map (·.p)).getD i default)-(v3d (thN ((rows.getD 0 []).getD 0 default).p ((rows.getD U []).getD 0 default).p ((rows.getD 0 []).getD V default).p) ((rows.getD 0 []).getD 0 default).p)) (by omega)) ?_
  refine cp am2 (hM) ?_
  refine zg4 ?_
  refine wl_regW ((Weak.kill _ 10).trans (Weak.kill _ 9)) ?_
  refine st_pure rfl (.bin rfl rfl (add1N (by omega))) ?_
  refine zg3 ?_
  exact nx1 (i+1) (by omega)
 ·obtain rfl:i=(rows.flatten.map (·.p)).length:=by omega
  refine zg6 ?_
  refine wl_regF 11 [9] (by decide +kernel) ?_
  refine zg5 ?_
  refine cp am2 (c_VDot (thN ((rows.getD 0 []).getD 0 default).p ((rows.getD U []).getD 0 default).p ((rows.getD 0 []).getD V default).p) (thN ((rows.getD 0 []).getD 0 default).p ((rows.getD U []).getD 0 default).p ((rows.getD 0 []).getD V default).p) (8*R+9) (by omega) hnb hnb) ?_
  simp only [hT]
  refine cp am2 (c_RQuo (flT (thN ((rows.getD 0 []).getD 0 default).p ((rows.getD U []).getD 0 default).p ((rows.getD 0 []).getD V default).p) (v3d (thN ((rows.getD 0 []).getD 0 default).p ((rows.getD U []).getD 0 default).p ((rows.getD 0 []).getD V default).p) ((rows.getD 0 []).getD 0 default).p) (rows.flatten.map (·.p))) (v3d (thN ((rows.getD 0 []).getD 0 default).p ((rows.getD U []).getD 0 default).p ((rows.getD 0 []).getD V default).p) (thN ((rows.getD 0 []).getD 0 default).p ((rows.getD U []).getD 0 default).p ((rows.getD 0 []).getD V default).p)) (by have:=hfa (rows.flatten.map (·.p)).length;rw [hT] at this;omega)) ?_
  refine zg16 ?_
  exact retCT [] rfl rfl rfl (ratE.csize _) (ratL_all _) T29 (.pure (ratE.pure _)) rfl (.pure rfl)
theorem plZ36:ZeroOK Tryz.prog 36 (plL []):=⟨Tryz.t36,_,by kernel_rfl,rfl,rfl,fun _ _ _=>repNil0 3⟩
instance:EC Tryz.prog 36 plL 1 false []:=⟨plE,plZ36,T36⟩
theorem rep0 (n:Nat):List.replicate n (ratL 0)=(List.replicate n (0:Rat)).map ratL:=by simp
def poN (q:PoR):List Rat:=[q.p.x,q.p.y,q.p.z,q.w]
def sfN (a b:List Rat) (ps:List PoR):List Rat:=a++b++(ps.map poN).flatten
theorem sfN_nil (a b:List Rat):sfN a b []=a++b:=by simp [sfN]
theorem sfN_sn (a b:List Rat) (ps:List PoR) (q:PoR):sfN a b ps++[q.p.x,q.p.y,q.p.z,q.w]=sfN a b (ps++[q]):=by simp [sfN,poN]
theorem sfN_len (a b:List Rat) (ps:List PoR):(sfN a b ps).length=a.length+b.length+4*ps.length:=by
 induction ps with
 | nil=>simp [sfN]
 | cons q ps ih =>
  simp only [sfN,List.map_cons,List.flatten_cons,List.length_append,List.length_cons,poN,List.length_nil] at ih ⊢
  omega
theorem sfN_rl {a b:List Rat} {ps:List PoR} (ha:∀ x∈a,rl x≤64) (hb:∀ x∈b,rl x≤64) (hp:∀ q∈ps,okP 64 q):∀ x∈sfN a b ps,rl x≤64:=fun x hx=>by
 simp only [sfN,List.mem_append,List.mem_flatten,List.mem_map] at hx
 rcases hx with(h | h) | ⟨l,⟨q,hq,rfl⟩,h⟩
 ·exact ha x h
 ·exact hb x h
 ·obtain⟨⟨h1,h2,h3⟩,h4,_⟩:=hp q hq
  simp only [poN,List.mem_cons,List.not_mem_nil,or_false] at h
  rcases h with rfl | rfl | rfl | rfl<;>assumption
theorem neqF {a b:Int} {k:IntKind} (h:a=b):binI .neq k a b=some (.bool false):=by simp [binI,h]
theorem okP.le {R S:Nat} {q:PoR} (h:okP R q) (hRS:R≤S):okP S q:=⟨h.1.le hRS,Nat.le_trans h.2.1 hRS,h.2.2⟩
theorem frz_c (bs:List Nat) (c:Nat) (y:Blk) (l:List (Nat × Blk)):frzH bs ((c,y) :: l)=(c,⟨y.sz,y.vals,y.mt && !bs.contains c⟩) :: frzH bs l:=rfl
theorem tz01:Int.toNat (0+1)=1:=rfl
namespace H_c_Grow0
theorem zSm {p q:Prop} (k:q) (e:p=q:=by simp only [e1,e2,e3,e4,p1,p2,p3,q1,q2,q3,l1,t0,t1,r1,r2,r3,r4,Nat.zero_add,Nat.reduceMul,Nat.reduceAdd,b1,b2,b3,b4,b5,b6,i1,i2,i3,i4,i5,i6,Nat.reduceBEq,rep0,List.set_cons_zero,List.set_cons_succ,Nat.reduceEqDiff,reduceIte,if_true,if_false,ptL_kill,poL_kill,kills_map ptE,kills_map poE,kills_map ratE,ratL_kill,spL_kill,LV.kill,kills];exact rfl):p:=e.mpr k
end H_c_Grow0
open H_c_Grow0 in
theorem c_Grow0 (n:Nat) (h0:0<n) (hl:n≤1048576):CallOK Tryz.prog 267 [.v (.slice none 0 0),nI64 n] (.ref 1 3 0 0) [⟨3,(List.replicate n (0:Rat)).map ratL,true⟩]:=by
 refine fnO Tryz.func267 ?_
 refine zg12 ?_
 refine wl_if rfl (fun h6r h6=>?_) (fun h6r h6=>?_)
 ·omega
 ·refine zg7 ?_
  refine st_pure rfl (.capN rfl rfl Tryz.underlying36) ?_
  refine zg2 ?_
  refine st_pure rfl (.bin rfl rfl (subNN (a:=0) (b:=0) (c:=0) (by omega) (by omega))) ?_
  refine st_pure rfl (.bin rfl rfl (subNN (a:=n) (b:=0) (c:=n) (by omega) (by omega))) ?_
  refine zg9 ?_
  refine wl_if rfl (fun h16r h16=>?_) (fun h16r h16=>?_)
  ·refine zg3 ?_
   refine st_pure rfl (.capN rfl rfl Tryz.underlying36) ?_
   refine st_pure rfl (.sliceN rfl Tryz.underlying36 T29 rfl) ?_
   refine zg1 ?_
   refine st_opm rfl rfl (.appz (d:=22) (z:=ratL 0) (n:=n) Tryz.underlying36 Tryz.underlying3 (ratL_zero ▸ Z29a) (by rw [ratE.isAgg];exact T29) (ratE.csize _) B29 rfl rfl rfl (by omega) (by decide) (by omega) (by omega)) ?_
   refine zg2 ?_
   refine st_pure rfl (by first | exact .sliceLh (h:=_) ratE rfl Tryz.underlying36 T29 rfl om | exact .sliceRh rfl Tryz.underlying36 T29 rfl om om) ?_
   refine zg10 ?_
   refine ret1own (b:=22) (len:=0) (blk:=⟨3,(List.replicate n (0:Rat)).map ratL,true⟩) ?_ ?_ (pures_map ratE _)
   ·exact cl
   ·exact cl
  ·omega
namespace H_c_Concat2
theorem zSm {p q:Prop} (k:q) (e:p=q:=by simp only [e1,e2,e3,e4,p1,p2,p3,q1,q2,q3,l1,t0,t1,r1,r2,r3,r4,Nat.zero_add,Nat.reduceMul,Nat.reduceAdd,b1,b2,b3,b4,b5,b6,i1,i2,i3,i4,i5,i6,Nat.reduceBEq,kills_append,tz01,List.getD_cons_zero,List.getD_cons_succ,List.length_cons,List.length_nil,htk,frz_nil,List.take_zero,List.nil_append,List.map_append,List.length_append,List.length_map,List.set_cons_zero,List.set_cons_succ,Nat.reduceEqDiff,reduceIte,if_true,if_false,ptL_kill,poL_kill,kills_map ptE,kills_map poE,kills_map ratE,ratL_kill,spL_kill,LV.kill,kills];exact rfl):p:=e.mpr k
end H_c_Concat2
open H_c_Concat2 in
theorem c_Concat2 (k m:List Rat) (h0:0<k.length) (hk:k.length≤1000) (hm:m.length≤1000):CallOK Tryz.prog 221 [.list 1 ([k,m].map plL)] (.ref 1 3 0 (k.length+m.length)) [⟨3,(k++m).map ratL,true⟩]:=by
 have hpk:=pure_lst ratE 3 k
 have hpm:=pure_lst ratE 3 m
 have hkl:(k.map ratL).length=k.length:=List.length_map ..
 have htk:(k.map ratL).take k.length=k.map ratL:=List.take_of_length_le (by simp)
 refine fnO Tryz.func221 ?_
 refine zg19 ?_
 refine wl_unroll ?_
 refine zg6 ?_
 refine wl_condX (b:=_) rfl (rfl) ?_
 refine zg16 ?_
 refine st_pure rfl (.bin rfl rfl (add64N (a:=0) (b:=k.length) (by omega))) ?_
 refine zg9 ?_
 refine wl_if rfl (fun h20r h20=>?_) (fun h20r h20=>?_)
 ·omega
 ·refine zg8 ?_
  refine wl_unroll ?_
  refine zg6 ?_
  refine wl_condX (b:=_) rfl (rfl) ?_
  refine zg16 ?_
  refine st_pure rfl (.bin rfl rfl (add64N (a:=k.length) (b:=m.length) (by omega))) ?_
  refine zg9 ?_
  refine wl_if rfl (fun h20r h20=>?_) (fun h20r h20=>?_)
  ·omega
  ·refine zg8 ?_
   refine wl_unroll ?_
   refine zg6 ?_
   refine wl_condY (b:=_) rfl (rfl) ?_
   refine zg8 ?_
   refine st_call1 [] rfl rfl (.cons (.pure rfl) (.cons (.pure rfl) .nil)) (c_Grow0 (k.length+m.length) (by omega) (by omega)) (pures_map ratE _) rfl ?_
   refine zg12 ?_
   refine wl_unroll ?_
   refine zg6 ?_
   refine wl_condX (b:=_) rfl (rfl) ?_
   refine zg14 ?_
   refine st_store rfl (.appX (d:=33) (news:=k.map ratL) rfl rfl rfl rfl (by simp) (.inr rfl) (by decide) Tryz.underlying36 Tryz.underlying36 Z29a T29 rfl B29 (.inr (.inl rfl)) (by rw [List.length_map];omega) (by rw [List.length_map];omega) (by decide)) ?_
   refine zg9 ?_
   refine wl_unroll ?_
   refine zg6 ?_
   refine wl_condX (b:=_) rfl (rfl) ?_
   refine zg14 ?_
   refine st_store rfl (.appX (d:=33) (news:=m.map ratL) rfl rfl rfl rfl (by simp) (.inl rfl) (by decide) Tryz.underlying36 Tryz.underlying36 Z29a T29 rfl B29 (.inr (.inl rfl)) (by rw [List.length_map];omega) (by rw [List.length_map];omega) (by decide)) ?_
   refine zg9 ?_
   refine wl_unroll ?_
   refine zg6 ?_
   refine wl_condY (b:=_) rfl (rfl) ?_
   refine zg12 ?_
   refine ret1own (b:=33) (len:=k.length+m.length) (blk:=⟨3,(k++m).map ratL,true⟩) ?_ ?_ (pures_map ratE _)
   ·exact cl
   ·exact cl
namespace H_c_snums
theorem zSm {p q:Prop} (k:q) (e:p=q:=by simp only [e1,e2,e3,e4,p1,p2,p3,q1,q2,q3,l1,t0,t1,r1,r2,r3,r4,Nat.zero_add,Nat.reduceMul,Nat.reduceAdd,b1,b2,b3,b4,b5,b6,i1,i2,i3,i4,i5,i6,Nat.reduceBEq,frz_c,fz0,prL,ehetk,ehers,hs0,map4,prL_kill,kills_map prE,dfr,dfq,take_map_len,map_snoc,len_snoc,List.length_cons,List.length_nil,List.nil_append,List.map_nil,List.take_nil,List.append_nil,List.set_cons_zero,List.set_cons_succ,Nat.reduceEqDiff,reduceIte,if_true,if_false,ptL_kill,poL_kill,kills_map ptE,kills_map poE,kills_map ratE,ratL_kill,spL_kill,LV.kill,kills];exact rfl):p:=e.mpr k
end H_c_snums
open H_c_snums in
theorem c_snums (U V:Nat) (kU kV:List Rat) (rows:List (List PoR)) (R:Nat) (hw:rwOK rows R) (h0:0<kU.length) (hkU:kU.length≤1000) (hkV:kV.length≤1000):CallP Tryz.prog 155 [.agg [nI64 U,nI64 V,.list 3 (kU.map ratL),.list 3 (kV.map ratL),.list 1 (rows.map prL)]] (.list 3 ((sfN kU kV rows.flatten).map ratL)):=by
 have hsp:LV.pure (.agg [nI64 U,nI64 V,.list 3 (kU.map ratL),.list 3 (kV.map ratL),.list 1 (rows.map prL)])=true:=by simp [LV.pure,pures,pures_map ratE,pures_map prE]
 have hwn:=hw.n
 have hwf:=hw.f
 have hs0:=sfN_nil kU kV
 have hp2:=pure_lst plE 1 [kU,kV]
 refine fnP Tryz.func155 (ht:=(fun g=>LV.ren_pure g _ (pure_lst ratE 3 _))) ?_
 have ehetk:True:=trivial
 have ehers:True:=trivial
 refine zg13 ?_
 refine st_call1 [12] rfl rfl (.cons (imm_refm plE rfl rfl rfl) .nil) (c_Concat2 kU kV h0 hkU hkV) (pures_map ratE _) rfl ?_
 refine zg13 ?_
 refine wl_weak ((Weak.kill _ 1).trans (Weak.kill _ 12)) ?_
 refine lp2 (fun(i:Nat) (ps:List PoR) L=>(((((St.mk L.slot (hp [(1000209,⟨3,(sfN kU kV ps).map ratL,true⟩)])).put (some 3) (.ref 1000209 3 0 (kU.length+kV.length+4*ps.length))).put (some 15) (.list 1 (rows.map prL))).put (some 16) (nI64 rows.length)).put (some 17) (nI64 i))) (fun i ps=>rwI rows i ps) (fun i ps=>rows.length-i) 0 ([]) (rwI.zero rows) ?_
 rintro i ps L1 hI
 refine zg6 ?_
 refine wl_if rfl (fun h18r h18=>?_) (fun h18r h18=>?_)
 ·have hi2:i<rows.length:=by omega
  refine zg19 ?_
  refine lp2 (fun(j:Nat) (qs:List PoR) L=>((((((((St.mk L.slot (hp [(1000209,⟨3,(sfN kU kV qs).map ratL,true⟩)])).put (some 3) (.ref 1000209 3 0 (kU.length+kV.length+4*qs.length))).put (some 15) (.list 1 (rows.map prL))).put (some 16) (nI64 rows.length)).put (some 17) (nI64 i)).put (some 21) (.list 12 ((rows.getD i []).map poL))).put (some 22) (nI64 (rows.getD i []).length)).put (some 23) (nI64 j))) (fun j qs=>rwJ rows i j qs) (fun j qs=>(rows.getD i []).length-j) 0 ps (hI.go hi2) ?_
  rintro j qs L2 hJ
  refine zg6 ?_
  refine wl_if rfl (fun h24r h24=>?_) (fun h24r h24=>?_)
  ·have hj2:j<(rows.getD i []).length:=by omega
   have hJe:=hJ.hj
   have hJl:=hJ.le
   have hJi:=hJ.hi
   have hrm:=getR_mem hJi
   have hrl:=hw.m _ hrm
   have hlc:=sfN_len kU kV qs
   have ehers:(sfN kU kV qs)++[((rows.getD i []).getD j default).p.x,((rows.getD i []).getD j default).p.y,((rows.getD i []).getD j default).p.z,((rows.getD i []).getD j default).w]=(sfN kU kV (qs++[((rows.getD i []).getD j default)])):=sfN_sn _ _ _ _
   have ehetk:((sfN kU kV qs).map ratL).take (kU.length+kV.length+4*qs.length)=(sfN kU kV qs).map ratL:=List.take_of_length_le (by rw [List.length_map];omega)
   have hJ2:=hJ.lt hj2
   refine zg26 ?_
   refine st_store rfl (.appX (d:=1000209) (news:=[ratL ((rows.getD i []).getD j default).p.x,ratL ((rows.getD i []).getD j default).p.y,ratL ((rows.getD i []).getD j default).p.z,ratL ((rows.getD i []).getD j default).w]) rfl rfl rfl rfl (by simp;omega) (.inl rfl) (by decide) Tryz.underlying36 Tryz.underlying36 Z29a T29 rfl B29 (.inl ⟨39,0,_,rfl,by decide,rfl,rfl,by simp,rfl,by simp [pures,ratE.pure]⟩) (by simp;omega) (by simp;omega) (by decide)) ?_
   refine zg4 ?_
   refine wl_regW ((Weak.kill _ 7).trans (Weak.kill _ 39)) ?_
   refine st_pure rfl (.bin rfl rfl (add1N (by omega))) ?_
   refine zg3 ?_
   exact nx2 (j+1) (qs++[((rows.getD i []).getD j default)]) (hJ.next hj2)
  ·have hJe:=hJ.hj
   have hJl:=hJ.le
   have hJi:=hJ.hi
   have hrm:=getR_mem hJi
   have hrl:=hw.m _ hrm
   obtain rfl:j=(rows.getD i []).length:=by omega
   refine zg7 ?_
   refine st_pure rfl (.bin rfl rfl (add1N (by omega))) ?_
   refine zg3 ?_
   exact nx2 (i+1) qs hJ.last (hm:=by have:=hJ.hi;omega)
 ·have hIi:=hI.hi
  obtain rfl:i=rows.length:=by omega
  have hE:=hI.last
  subst hE
  refine zg12 ?_
  exact ret1f [1000209] rfl rfl (imm_refm ratE rfl rfl (by rw [sfN_len]))
namespace H_c_IdxW
theorem zSm {p q:Prop} (k:q) (e:p=q:=by simp only [e1,e2,e3,e4,p1,p2,p3,q1,q2,q3,l1,t0,t1,r1,r2,r3,r4,Nat.zero_add,Nat.reduceMul,Nat.reduceAdd,b1,b2,b3,b4,b5,b6,i1,i2,i3,i4,i5,i6,Nat.reduceBEq,dfr,List.set_cons_zero,List.set_cons_succ,Nat.reduceEqDiff,reduceIte,if_true,if_false,ptL_kill,poL_kill,kills_map ptE,kills_map poE,kills_map ratE,ratL_kill,spL_kill,LV.kill,kills,List.length_map];exact rfl):p:=e.mpr k
end H_c_IdxW
open H_c_IdxW in
theorem c_IdxW (f:Nat) (cap:List LV) (hcp:pures cap=true) (hcs:∀ x∈cap,x.csize=1∧x.isAgg=false) (pr:List PoR→Bool) (l:List (List PoR)) (hl:l.length≤1048576) (hf:∀ x∈l,CallP Tryz.prog f ([prL x]++cap) (bL (pr x))):CallP Tryz.prog 270 [.list 1 (l.map prL),.clo f cap] (iL (fIdx pr l)):=by
 refine fnP Tryz.func270 ?_
 refine zg14 ?_
 refine lp1 (fun(i:Nat) L=>((((((St.mk L.slot (hp [])).put (some 0) (.list 1 (l.map prL))).put (some 1) (.clo f cap)).put (some 6) (.list 1 (l.map prL))).put (some 7) (nI64 l.length)).put (some 8) (nI64 i))) (fun i=>i≤l.length∧∀ j,j<i→pr (l.getD j default)=false) (fun i=>l.length-i) 0 ⟨Nat.zero_le _,fun j hj=>absurd hj (Nat.not_lt_zero j)⟩ ?_
 rintro i L1 ⟨hi,h0⟩
 refine zg6 ?_
 refine wl_if rfl (fun h9r h9=>?_) (fun h9r h9=>?_)
 ·have hi2:i<l.length:=by omega
  have hc:=hf _ (getD_memL hi2)
  have hpp:=prE.pure (l.getD i [])
  refine zg17 ?_
  refine st_opc [] rfl rfl (.clo (f:=f) (cap:=cap) (args:=[prL (l.getD i [])]) rfl (.cons im0 .nil) ⟨hcp,hcs⟩ hc.1 (by decide) (fun _ h=>by cases h)) (hc.2 _) ?_
  refine zg2 ?_
  refine wl_if rfl (fun h16r h16=>?_) (fun h16r h16=>?_)
  ·have hV:fIdx pr l=(i:Int):=fIdx_hit hi2 h0 (by first | exact h16r | exact h16)
   refine zg12 ?_
   rw [hV]
   exact ret1 rfl (.pure rfl)
  ·have hn:∀ j,j<i+1→pr (l.getD j default)=false:=fun j hj=>by
    rcases Nat.lt_succ_iff_lt_or_eq.1 hj with e | rfl
    ·exact h0 j e
    ·first | exact h16r | (simpa using h16)
   refine zg4 ?_
   refine st_pure rfl (.bin rfl rfl (add1N (by omega))) ?_
   refine zg3 ?_
   exact nx1 (i+1) ⟨by omega,hn⟩
 ·obtain rfl:i=l.length:=by omega
  refine zg11 ?_
  rw [fIdx_none h0]
  exact ret1 rfl (.pure rfl)
namespace H_c_HasW
theorem zSm {p q:Prop} (k:q) (e:p=q:=by simp only [e1,e2,e3,e4,p1,p2,p3,q1,q2,q3,l1,t0,t1,r1,r2,r3,r4,Nat.zero_add,Nat.reduceMul,Nat.reduceAdd,b1,b2,b3,b4,b5,b6,i1,i2,i3,i4,i5,i6,Nat.reduceBEq,List.set_cons_zero,List.set_cons_succ,Nat.reduceEqDiff,reduceIte,if_true,if_false,ptL_kill,poL_kill,kills_map ptE,kills_map poE,kills_map ratE,ratL_kill,spL_kill,LV.kill,kills];exact rfl):p:=e.mpr k
end H_c_HasW
open H_c_HasW in
theorem c_HasW (f:Nat) (cap:List LV) (hcp:pures cap=true) (hcs:∀ x∈cap,x.csize=1∧x.isAgg=false) (pr:List PoR→Bool) (l:List (List PoR)) (hl:l.length≤1048576) (hf:∀ x∈l,CallP Tryz.prog f ([prL x]++cap) (bL (pr x))):CallP Tryz.prog 228 [.list 1 (l.map prL),.clo f cap] (bL (l.any pr)):=by
 refine fnP Tryz.func228 ?_
 refine zg9 ?_
 refine st_callP rfl (.cons (.pure (pure_lst prE 1 _)) (.cons (.pure (show LV.pure (.clo f cap)=true by simpa [LV.pure] using hcp)) .nil)) (c_IdxW f cap hcp hcs pr l hl hf) ?_
 refine zg5 ?_
 rw [←fIdx_any]
 exact ret1 rfl (.pure rfl)
open H0 in
theorem c_SChk1 (q:Rat) (h:rl q≤1000):CallP Tryz.prog 157 [ratL q] (bL false):=by
 refine fnP Tryz.func157 ?_
 refine zg9 ?_
 refine cp am1 (c_RValid _ (by omega)) ?_
 refine zg5 ?_
 exact ret1 rfl (.pure rfl)
namespace H_c_SChk2
theorem zSm {p q:Prop} (k:q) (e:p=q:=by simp only [e1,e2,e3,e4,p1,p2,p3,q1,q2,q3,l1,t0,t1,r1,r2,r3,r4,Nat.zero_add,Nat.reduceMul,Nat.reduceAdd,b1,b2,b3,b4,b5,b6,i1,i2,i3,i4,i5,i6,Nat.reduceBEq,hsg];exact rfl):p:=e.mpr k
end H_c_SChk2
open H_c_SChk2 in
theorem c_SChk2 (q:PoR) (h:okP 1000 q):CallP Tryz.prog 162 [poL q] (bL false):=by
 obtain⟨_,hw,hp⟩:=h
 have hsg:sgnR q.w=1:=sgn_pos hp
 refine fnP Tryz.func162 ?_
 refine zg10 ?_
 refine cp am1 (c_RSign q.w (by omega)) ?_
 refine zg5 ?_
 exact ret1 rfl (.pure rfl)
open H0 in
theorem c_SChk3 (q:Rat) (h:rl q≤64):CallP Tryz.prog 163 [ratL q] (bL false):=by
 have hb:=bitR_le h
 refine fnP Tryz.func163 ?_
 refine zg9 ?_
 refine cp am1 (c_RBits q (by omega)) ?_
 refine zg5 ?_
 refine ret1 (x:=bL (decide ((bitR q:Int) > 2048))) rfl ?_
 rw [decide_eq_false (by omega)]
 exact .pure rfl
namespace H_c_SRc1
theorem zSm {p q:Prop} (k:q) (e:p=q:=by simp only [e1,e2,e3,e4,p1,p2,p3,q1,q2,q3,l1,t0,t1,r1,r2,r3,r4,Nat.zero_add,Nat.reduceMul,Nat.reduceAdd,b1,b2,b3,b4,b5,b6,i1,i2,i3,i4,i5,i6,Nat.reduceBEq,prL,List.length_map,prL_kill,kills_map prE,dfr,dfq,take_map_len,map_snoc,len_snoc,List.length_cons,List.length_nil,List.nil_append,List.map_nil,List.take_nil,List.append_nil,List.set_cons_zero,List.set_cons_succ,Nat.reduceEqDiff,reduceIte,if_true,if_false,ptL_kill,poL_kill,kills_map ptE,kills_map poE,kills_map ratE,ratL_kill,spL_kill,LV.kill,kills];exact rfl):p:=e.mpr k
end H_c_SRc1
open H_c_SRc1 in
theorem c_SRc1 (U V:Nat) (kU kV:List Rat) (rows:List (List PoR)) (r:List PoR) (hl:V+1≤kV.length) (hkl:kV.length≤1000) (hr:r.length=kV.length-V-1):CallP Tryz.prog 229 [prL r,.boxp (.agg [nI64 U,nI64 V,.list 3 (kU.map ratL),.list 3 (kV.map ratL),.list 1 (rows.map prL)])] (bL false):=by
 have hsp:LV.pure (.agg [nI64 U,nI64 V,.list 3 (kU.map ratL),.list 3 (kV.map ratL),.list 1 (rows.map prL)])=true:=by simp [LV.pure,pures,pures_map ratE,pures_map prE]
 have hpr:=prE.pure r
 have hpv:=pure_lst ratE 3 kV
 refine fnP Tryz.func229 ?_
 refine zg13 ?_
 refine cp am2 (c_KPoles kV V hl (by omega)) ?_
 refine st_pure rfl (.bin rfl rfl ((neqF (by first | omega | (simp only [List.length_map,prL];omega))))) ?_
 refine zg4 ?_
 exact ret1 rfl (.pure rfl)
namespace H_c_SRct
theorem zSm {p q:Prop} (k:q) (e:p=q:=by simp only [e1,e2,e3,e4,p1,p2,p3,q1,q2,q3,l1,t0,t1,r1,r2,r3,r4,Nat.zero_add,Nat.reduceMul,Nat.reduceAdd,b1,b2,b3,b4,b5,b6,i1,i2,i3,i4,i5,i6,Nat.reduceBEq,prL,any_ff,List.length_map,prL_kill,kills_map prE,dfr,dfq,take_map_len,map_snoc,len_snoc,List.length_cons,List.length_nil,List.nil_append,List.map_nil,List.take_nil,List.append_nil,List.set_cons_zero,List.set_cons_succ,Nat.reduceEqDiff,reduceIte,if_true,if_false,ptL_kill,poL_kill,kills_map ptE,kills_map poE,kills_map ratE,ratL_kill,spL_kill,LV.kill,kills];exact rfl):p:=e.mpr k
end H_c_SRct
open H_c_SRct in
theorem c_SRct (U V:Nat) (kU kV:List Rat) (rows:List (List PoR)) (hkU:kOK kU U) (hkV:kOK kV V) (hn:rows.length=kU.length-U-1) (hm:∀ r∈rows,r.length=kV.length-V-1) (hq:∀ r∈rows,∀ q∈r,okP 64 q):CallP Tryz.prog 160 [.agg [nI64 U,nI64 V,.list 3 (kU.map ratL),.list 3 (kV.map ratL),.list 1 (rows.map prL)]] (bL true):=by
 have hsp:LV.pure (.agg [nI64 U,nI64 V,.list 3 (kU.map ratL),.list 3 (kV.map ratL),.list 1 (rows.map prL)])=true:=by simp [LV.pure,pures,pures_map ratE,pures_map prE]
 have hU1:=hkU.d1
 have hU6:=hkU.d6
 have hUl:=hkU.len
 have hUm:=hkU.max
 have hV1:=hkV.d1
 have hV6:=hkV.d6
 have hVl:=hkV.len
 have hVm:=hkV.max
 have hbp:pures [.boxp (.agg [nI64 U,nI64 V,.list 3 (kU.map ratL),.list 3 (kV.map ratL),.list 1 (rows.map prL)])]=true:=by simp [pures,LV.pure,pures_map ratE,pures_map prE]
 refine fnP Tryz.func160 ?_
 refine zg7 ?_
 refine wl_regD 17 (by decide +kernel) ?_
 refine zg7 ?_
 refine cp am2 (c_KPoles kU U (by omega) (by omega)) ?_
 refine zg2 ?_
 refine st_pure (guardX (v:=true) rfl rfl ((beq_iff_eq.2 (by first | omega | (simp only [List.length_map];omega)))) rfl) faA ?_
 refine st_pure (guardX (v:=true) rfl rfl ((beq_iff_eq.2 (by first | omega | (simp only [List.length_map];omega)))) rfl) ldA ?_
 refine st_opc [1] (guardX (v:=true) rfl rfl ((beq_iff_eq.2 (by first | omega | (simp only [List.length_map];omega)))) rfl) rfl (.mk (caps:=[.boxp (.agg [nI64 U,nI64 V,.list 3 (kU.map ratL),.list 3 (kV.map ratL),.list 1 (rows.map prL)])]) (.cons (.eptr rfl rfl rfl cs (at_all cs rfl) hsp rfl) .nil) (fun x hx=>by rw [List.mem_singleton.1 hx];exact⟨rfl,rfl⟩)) rfl ?_
 refine st_callP (guardX (v:=true) rfl rfl ((beq_iff_eq.2 (by first | omega | (simp only [List.length_map];omega)))) rfl) (.cons (.pure (pure_lst prE 1 _)) (.cons (.pure (show LV.pure (.clo 229 [.boxp (.agg [nI64 U,nI64 V,.list 3 (kU.map ratL),.list 3 (kV.map ratL),.list 1 (rows.map prL)])])=true by simpa [LV.pure] using hbp)) .nil)) (c_HasW 229 [.boxp (.agg [nI64 U,nI64 V,.list 3 (kU.map ratL),.list 3 (kV.map ratL),.list 1 (rows.map prL)])] hbp (fun x hx=>by rw [List.mem_singleton.1 hx];exact⟨rfl,rfl⟩) (fun _=>false) rows (by omega) (fun x hx=>c_SRc1 U V kU kV rows x (by omega) (by omega) (hm x hx))) ?_
 refine st_pure (guardX (v:=true) rfl rfl ((beq_iff_eq.2 (by first | omega | (simp only [List.length_map];omega)))) rfl) (.not rfl) ?_
 refine st_pure rfl (.pickT rfl ((beq_iff_eq.2 (by first | omega | (simp only [List.length_map];omega))))) ?_
 refine zg4 ?_
 refine ret1 ?_ (.pure rfl)
 first | rfl | (simp only [any_ff];rfl)
namespace H_c_SCheck
theorem zSm {p q:Prop} (k:q) (e:p=q:=by simp only [e1,e2,e3,e4,p1,p2,p3,q1,q2,q3,l1,t0,t1,r1,r2,r3,r4,Nat.zero_add,Nat.reduceMul,Nat.reduceAdd,b1,b2,b3,b4,b5,b6,i1,i2,i3,i4,i5,i6,Nat.reduceBEq,prL,any_ff,dfr,List.length_map,prL_kill,kills_map prE,dfr,dfq,take_map_len,map_snoc,len_snoc,List.length_cons,List.length_nil,List.nil_append,List.map_nil,List.take_nil,List.append_nil,List.set_cons_zero,List.set_cons_succ,Nat.reduceEqDiff,reduceIte,if_true,if_false,ptL_kill,poL_kill,kills_map ptE,kills_map poE,kills_map ratE,ratL_kill,spL_kill,LV.kill,kills];exact rfl):p:=e.mpr k
end H_c_SCheck
open H_c_SCheck in
theorem c_SCheck (U V:Nat) (kU kV:List Rat) (rows:List (List PoR)) (hkU:kOK kU U) (hkV:kOK kV V) (hn:rows.length=kU.length-U-1) (hm:∀ r∈rows,r.length=kV.length-V-1) (hq:∀ r∈rows,∀ q∈r,okP 64 q):CallP Tryz.prog 88 [.agg [nI64 U,nI64 V,.list 3 (kU.map ratL),.list 3 (kV.map ratL),.list 1 (rows.map prL)]] (iL 0):=by
 have hsp:LV.pure (.agg [nI64 U,nI64 V,.list 3 (kU.map ratL),.list 3 (kV.map ratL),.list 1 (rows.map prL)])=true:=by simp [LV.pure,pures,pures_map ratE,pures_map prE]
 have hU1:=hkU.d1
 have hU6:=hkU.d6
 have hUl:=hkU.len
 have hUm:=hkU.max
 have hV1:=hkV.d1
 have hV6:=hkV.d6
 have hVl:=hkV.len
 have hVm:=hkV.max
 have hrw:rwOK rows 64:=by
  refine⟨hq,by omega,fun r hr=>by have:=hm r hr;omega,?_⟩
  rw [flat_len hm]
  exact Nat.le_trans (Nat.mul_le_mul (show rows.length≤100 by omega) (show kV.length-V-1≤100 by omega)) (by decide)
 have hfl:=hrw.f
 have hN:=sfN_len kU kV rows.flatten
 have hR:=sfN_rl (ps:=rows.flatten) hkU.sz hkV.sz (fun q hx=>by
  obtain⟨r,g1,g2⟩:=List.mem_flatten.1 hx
  exact hq r g1 q g2)
 refine fnP Tryz.func88 ?_
 refine zg9 ?_
 refine cp am1 (c_snums U V kU kV rows 64 hrw (by omega) (by omega) (by omega)) ?_
 refine zg7 ?_
 refine cp am2 (c_HasR 157 (fun _=>false) (sfN kU kV rows.flatten) (by omega) (fun x hx=>c_SChk1 x (Nat.le_trans (hR x hx) (by decide)))) ?_
 refine zg2 ?_
 refine wl_condY (b:=_) rfl (by first | rfl | exact any_ff _) ?_
 refine zg9 ?_
 refine cp am2 (c_KCheck kU U hkU) ?_
 refine zg9 ?_
 refine wl_condY (b:=_) rfl (rfl) ?_
 refine zg9 ?_
 refine cp am2 (c_KCheck kV V hkV) ?_
 refine zg9 ?_
 refine wl_condY (b:=_) rfl (rfl) ?_
 refine zg6 ?_
 refine cp am1 (c_SRct U V kU kV rows hkU hkV hn hm hq) ?_
 refine zg3 ?_
 refine wl_condY (b:=_) rfl (rfl) ?_
 refine zg12 ?_
 refine lp1 (fun(i:Nat) L=>((((((St.mk L.slot (hp [(1,⟨5,[.agg [nI64 U,nI64 V,.list 3 (kU.map ratL),.list 3 (kV.map ratL),.list 1 (rows.map prL)]],true⟩)])).put (some 1) (.eptr 1 5 0 0)).put (some 3) (.list 3 ((sfN kU kV rows.flatten).map ratL))).put (some 32) (.list 1 (rows.map prL))).put (some 33) (nI64 rows.length)).put (some 34) (nI64 i))) (fun i=>i≤rows.length) (fun i=>rows.length-i) 0 (Nat.zero_le _) ?_
 rintro i L1 hi
 refine zg6 ?_
 refine wl_if rfl (fun h35r h35=>?_) (fun h35r h35=>?_)
 ·have hi2:i<rows.length:=by omega
  have hrm:=getR_mem hi2
  have hrl:=hm _ hrm
  refine zg14 ?_
  refine cp am2 (c_HasP 162 (fun _=>false) (rows.getD i []) (by omega) (fun x hx=>c_SChk2 x ((hq _ hrm x hx).le (by decide)))) ?_
  refine zg2 ?_
  refine wl_condY (b:=_) rfl (by first | rfl | exact any_ff _) ?_
  refine zg4 ?_
  refine st_pure rfl (.bin rfl rfl (add1N (by omega))) ?_
  refine zg3 ?_
  exact nx1 (i+1) (by omega)
 ·obtain rfl:i=rows.length:=by omega
  refine zg9 ?_
  refine cp am2 (c_HasR 163 (fun _=>false) (sfN kU kV rows.flatten) (by omega) (fun x hx=>c_SChk3 x (hR x hx))) ?_
  refine zg2 ?_
  refine wl_condY (b:=_) rfl (by first | rfl | exact any_ff _) ?_
  refine zg8 ?_
  exact ret1 rfl (.pure rfl)
namespace H_c_PChk
theorem zSm {p q:Prop} (k:q) (e:p=q:=by simp only [e1,e2,e3,e4,p1,p2,p3,q1,q2,q3,l1,t0,t1,r1,r2,r3,r4,Nat.zero_add,Nat.reduceMul,Nat.reduceAdd,b1,b2,b3,b4,b5,b6,i1,i2,i3,i4,i5,i6,Nat.reduceBEq,prL,dfr,List.length_map,prL_kill,kills_map prE,dfr,dfq,take_map_len,map_snoc,len_snoc,List.length_cons,List.length_nil,List.nil_append,List.map_nil,List.take_nil,List.append_nil,List.set_cons_zero,List.set_cons_succ,Nat.reduceEqDiff,reduceIte,if_true,if_false,ptL_kill,poL_kill,kills_map ptE,kills_map poE,kills_map ratE,ratL_kill,spL_kill,LV.kill,kills];exact rfl):p:=e.mpr k
end H_c_PChk
open H_c_PChk in
theorem c_PChk (U V:Nat) (kU kV:List Rat) (rows:List (List PoR)) (hkU:kOK kU U) (hkV:kOK kV V) (hn:rows.length=kU.length-U-1) (hm:∀ r∈rows,r.length=kV.length-V-1) (hq:∀ r∈rows,∀ q∈r,okP 64 q) (hpn:rows.length=U+1) (hpm:(rows.getD 0 []).length=V+1):CallP Tryz.prog 29 [.agg [nI64 U,nI64 V,.list 3 (kU.map ratL),.list 3 (kV.map ratL),.list 1 (rows.map prL)]] (iL 0):=by
 have hsp:LV.pure (.agg [nI64 U,nI64 V,.list 3 (kU.map ratL),.list 3 (kV.map ratL),.list 1 (rows.map prL)])=true:=by simp [LV.pure,pures,pures_map ratE,pures_map prE]
 have hU1:=hkU.d1
 have hU6:=hkU.d6
 have hUl:=hkU.len
 have hUm:=hkU.max
 have hV1:=hkV.d1
 have hV6:=hkV.d6
 have hVl:=hkV.len
 have hVm:=hkV.max
 refine fnP Tryz.func29 ?_
 refine zg10 ?_
 refine cp am1 (c_SCheck U V kU kV rows hkU hkV hn hm hq) ?_
 refine zg9 ?_
 refine wl_condY (b:=_) rfl (rfl) ?_
 refine zg4 ?_
 refine wl_regD 18 (by decide +kernel) ?_
 refine zg5 ?_
 refine st_pure rfl (.bin rfl rfl (add1N (by omega))) ?_
 refine zg2 ?_
 refine st_pure (guardX (v:=false) rfl rfl ((bne_eq_false_iff_eq.2 (by first | omega | (simp only [List.length_map];omega)))) rfl) faA ?_
 refine st_pure (guardX (v:=false) rfl rfl ((bne_eq_false_iff_eq.2 (by first | omega | (simp only [List.length_map];omega)))) rfl) ldA ?_
 refine st_pure (guardX (v:=false) rfl rfl ((bne_eq_false_iff_eq.2 (by first | omega | (simp only [List.length_map];omega)))) rfl) ixA ?_
 refine st_pure (guardX (v:=false) rfl rfl ((bne_eq_false_iff_eq.2 (by first | omega | (simp only [List.length_map];omega)))) rfl) ldA ?_
 refine st_pure (guardX (v:=false) rfl rfl ((bne_eq_false_iff_eq.2 (by first | omega | (simp only [List.length_map];omega)))) rfl) lnA ?_
 refine st_pure (guardX (v:=false) rfl rfl ((bne_eq_false_iff_eq.2 (by first | omega | (simp only [List.length_map];omega)))) rfl) faA ?_
 refine st_pure (guardX (v:=false) rfl rfl ((bne_eq_false_iff_eq.2 (by first | omega | (simp only [List.length_map];omega)))) rfl) ldA ?_
 refine st_pure (guardX (v:=false) rfl rfl ((bne_eq_false_iff_eq.2 (by first | omega | (simp only [List.length_map];omega)))) rfl) (.bin rfl rfl (add1N (by omega))) ?_
 refine st_pure (guardX (v:=false) rfl rfl ((bne_eq_false_iff_eq.2 (by first | omega | (simp only [List.length_map];omega)))) rfl) (.bin rfl rfl rfl) ?_
 refine st_pure rfl (.pickF rfl ((bne_eq_false_iff_eq.2 (by first | omega | (simp only [List.length_map];omega))))) ?_
 refine zg2 ?_
 refine wl_condY (b:=_) rfl (bne_eq_false_iff_eq.2 (by first | omega | (simp only [List.length_map,prL,dfr,t0,hpm];omega))) ?_
 refine zg8 ?_
 exact ret1 rfl (.pure rfl)
def twK:List Rat:=[0,0,1,1]
def twA:List PoR:=[⟨⟨0,0,0⟩,1⟩,⟨⟨0,1,0⟩,1⟩]
def twB:List PoR:=[⟨⟨1,0,0⟩,1⟩,⟨⟨1,1,1⟩,1⟩]
def twR:List (List PoR):=[twA,twB]
theorem twK_eq:kn2 1 0 1=twK:=by decide +kernel
theorem tw_okP:∀ r∈twR,∀ q∈r,okP 1 q:=fun r hr q hq=>by
 simp only [twR,List.mem_cons,List.not_mem_nil,or_false] at hr
 rcases hr with rfl | rfl<;>simp only [twA,twB,List.mem_cons,List.not_mem_nil,or_false] at hq<;>rcases hq with rfl | rfl<;>exact⟨⟨by decide +kernel,by decide +kernel,by decide +kernel⟩,by decide +kernel,by decide +kernel⟩
theorem tw_len:∀ r∈twR,r.length=2:=fun r hr=>by
 simp only [twR,List.mem_cons,List.not_mem_nil,or_false] at hr
 rcases hr with rfl | rfl<;>rfl
theorem tw_pf:pf 1 1 1 twR:=⟨by decide,by decide,by decide,by decide,by decide,by decide,rfl,tw_len,tw_okP⟩
theorem tw_kn:kOK twK 1:=by
 have:=kn0_ok (d:=1) (T:=0) (by decide) (by decide) (by decide +kernel) (by decide +kernel)
 rwa [show kn0 1 0=twK from by decide +kernel] at this
theorem v3_ext {p q:V3} (h1:p.x=q.x) (h2:p.y=q.y) (h3:p.z=q.z):p=q:=by
 obtain⟨a,b,c⟩:=p
 obtain⟨d,e,f⟩:=q
 simp only at h1 h2 h3
 rw [h1,h2,h3]
theorem tw_nor:v3x (pdv 1 1 (1-1) 1 (dfU 1 1) twR.flatten (1-0) 0 0) (pdv 1 1 1 (1-1) (dfV 1 1) twR.flatten (1-0) 0 0)=⟨0,0,1⟩ :=
 v3_ext (by decide +kernel) (by decide +kernel) (by decide +kernel)
theorem tw_zero:eqV (thN ((twR.getD 0 []).getD 0 default).p ((twR.getD 1 []).getD 0 default).p ((twR.getD 0 []).getD 1 default).p) ⟨0,0,0⟩=false:=by decide +kernel
theorem tw_flat:flT (thN ((twR.getD 0 []).getD 0 default).p ((twR.getD 1 []).getD 0 default).p ((twR.getD 0 []).getD 1 default).p) (v3d (thN ((twR.getD 0 []).getD 0 default).p ((twR.getD 1 []).getD 0 default).p ((twR.getD 0 []).getD 1 default).p) ((twR.getD 0 []).getD 0 default).p) (twR.flatten.map (·.p)) /
  v3d (thN ((twR.getD 0 []).getD 0 default).p ((twR.getD 1 []).getD 0 default).p ((twR.getD 0 []).getD 1 default).p) (thN ((twR.getD 0 []).getD 0 default).p ((twR.getD 1 []).getD 0 default).p ((twR.getD 0 []).getD 1 default).p)=1:=by decide +kernel
namespace H_c_Unit2
theorem zSm {p q:Prop} (k:q) (e:p=q:=by simp only [e1,e2,e3,e4,p1,p2,p3,q1,q2,q3,l1,t0,t1,r1,r2,r3,r4,Nat.zero_add,Nat.reduceMul,Nat.reduceAdd,b1,b2,b3,b4,b5,b6,i1,i2,i3,i4,i5,i6,Nat.reduceBEq,List.set_cons_zero,List.set_cons_succ,Nat.reduceEqDiff,reduceIte,if_true,if_false,ptL_kill,poL_kill,kills_map ptE,kills_map poE,kills_map ratE,ratL_kill,spL_kill,LV.kill,kills];exact rfl):p:=e.mpr k
end H_c_Unit2
open H_c_Unit2 in
theorem c_Unit2 :CallP Tryz.prog 53 [iL 2] (ptL ⟨0,0,1⟩):=by
 have hI1:CallP Tryz.prog 60 [iL 1] (ratL 1):=c_FInt 1 (by decide) (by decide)
 refine fnP Tryz.func53 (ht:=(fun r=>LV.ren_pure r _ (ptE.pure _))) ?_
 refine zg13 ?_
 refine cp am1 (hI1) ?_
 refine zg11 ?_
 exact retC [] rfl rfl rfl cs (at_all cs rfl) T31 (.pure pu)
namespace H_c_twist
theorem zSm {p q:Prop} (k:q) (e:p=q:=by simp only [e1,e2,e3,e4,p1,p2,p3,q1,q2,q3,l1,t0,t1,r1,r2,r3,r4,Nat.zero_add,Nat.reduceMul,Nat.reduceAdd,b1,b2,b3,b4,b5,b6,i1,i2,i3,i4,i5,i6,Nat.reduceBEq,List.set_cons_zero,List.set_cons_succ,Nat.reduceEqDiff,reduceIte,if_true,if_false,ptL_kill,poL_kill,kills_map ptE,kills_map poE,kills_map ratE,ratL_kill,spL_kill,LV.kill,kills];exact rfl):p:=e.mpr k
end H_c_twist
open H_c_twist in
theorem c_twist :CallP Tryz.prog 52 [] (.agg [nI64 1,nI64 1,.list 3 (twK.map ratL),.list 3 (twK.map ratL),.list 1 (twR.map prL)]):=by
 have hI1:CallP Tryz.prog 60 [iL 1] (ratL 1):=c_FInt 1 (by decide) (by decide)
 refine fnP Tryz.func52 (ht:=(fun g=>LV.ren_pure g _ (by simp [LV.pure,pures,pures_map ratE,pures_map prE]))) ?_
 refine zg7 ?_
 refine cp am1 (c_Unit0) ?_
 refine cp am1 (c_Unit1) ?_
 refine zg8 ?_
 refine cp am1 (hI1) ?_
 refine zg6 ?_
 refine st_pure rfl (.build0 SL29 Z29a) ?_
 refine st_pure rfl (.build0 SL29 Z29a) ?_
 refine zg2 ?_
 refine st_alloc rfl rfl (.lit4 (a:=0) (b:=0) (c:=1) (f:=1) ratE Tryz.underlying36 (ratL_zero ▸ Z29a) T29 rfl rfl rfl rfl (by decide) (by decide)) ?_
 refine zg8 ?_
 refine s0bd (bdW rfl) ?_
 refine zg2 ?_
 refine s0bd (bdPo (p:=⟨0,1,0⟩) (r:=1) rfl rfl) ?_
 refine st_alloc rfl rfl (.lit2 (a:=⟨⟨0,0,0⟩,1⟩) (b:=⟨⟨0,1,0⟩,1⟩) (z:=⟨⟨0,0,0⟩,0⟩) poE Tryz.underlying60 (show ZeroOK _ _ (poL ⟨⟨0,0,0⟩,0⟩) from Z62) T62 rfl rfl (by decide) (by decide)) ?_
 refine zg2 ?_
 refine s0bd (bdPo (p:=⟨1,0,0⟩) (r:=1) rfl rfl) ?_
 refine zg5 ?_
 refine s0bd (bdPo (p:=⟨1,1,1⟩) (r:=1) rfl rfl) ?_
 refine st_alloc rfl rfl (.lit2 (a:=⟨⟨1,0,0⟩,1⟩) (b:=⟨⟨1,1,1⟩,1⟩) (z:=⟨⟨0,0,0⟩,0⟩) poE Tryz.underlying60 (show ZeroOK _ _ (poL ⟨⟨0,0,0⟩,0⟩) from Z62) T62 rfl rfl (by decide) (by decide)) ?_
 refine st_alloc rfl rfl (.lit (z:=prL []) (sz:=1) Tryz.underlying37 prZ T60 rfl (by decide) (by decide) (by decide) (by intro p hp;simp only [List.mem_cons,List.not_mem_nil,or_false] at hp;rcases hp with rfl | rfl<;>exact⟨by decide,rfl,(fun h=>by cases h),(fun _ h=>by cases h)⟩)) ?_
 refine st_pure rfl (.build (zs:=[.v (.int .i64 0),.v (.int .i64 0),.v (.slice none 0 0),.v (.slice none 0 0),.v (.slice none 0 0)]) SL39 Z39 (by simp only [List.forall_mem_cons];exact⟨⟨_,rfl,rfl,ne0⟩,⟨_,rfl,rfl,ne0⟩,⟨_,rfl,rfl,ne0⟩,⟨_,rfl,rfl,ne0⟩,⟨_,rfl,rfl,ne0⟩,fun _ h=>by cases h⟩)) ?_
 refine zg4 ?_
 exact retC [12,20,30,31] rfl rfl rfl cs (at_all cs rfl) T39 (.agg (.cons (.pure rfl) (.cons (.pure rfl) (.cons (imm_refm (l:=twK) ratE rfl rfl rfl) (.cons (imm_refm (l:=twK) ratE rfl rfl rfl) (.cons (.refI (blk:=⟨1,_,false⟩) rfl rfl (by decide) rfl (.cons (imm_refm (l:=twA) poE rfl rfl rfl) (.cons (imm_refm (l:=twB) poE rfl rfl rfl) .nil))) .nil))))))
namespace H_c_awake13
theorem zSm {p q:Prop} (k:q) (e:p=q:=by simp only [e1,e2,e3,e4,p1,p2,p3,q1,q2,q3,l1,t0,t1,r1,r2,r3,r4,Nat.zero_add,Nat.reduceMul,Nat.reduceAdd,b1,b2,b3,b4,b5,b6,i1,i2,i3,i4,i5,i6,Nat.reduceBEq,List.set_cons_zero,List.set_cons_succ,Nat.reduceEqDiff,reduceIte,if_true,if_false,ptL_kill,poL_kill,kills_map ptE,kills_map poE,kills_map ratE,ratL_kill,spL_kill,LV.kill,kills];exact rfl):p:=e.mpr k
end H_c_awake13
open H_c_awake13 in
theorem c_awake13 :CallP Tryz.prog 8 [] (bL true):=by
 have hsp:LV.pure (.agg [nI64 1,nI64 1,.list 3 (twK.map ratL),.list 3 (twK.map ratL),.list 1 (twR.map prL)])=true:=by simp [LV.pure,pures,pures_map ratE,pures_map prE]
 have hb1:bd3 100000000 (pdv 1 1 (1-1) 1 (dfU 1 1) twR.flatten (1-0) 0 0):=(pdv_bd tw_pf (dfS_U (U:=1) (V:=1) (by decide) (by decide)) (by decide) (wd:=1-0) (by decide +kernel) (shX_of (by decide +kernel)) (shX_of (by decide +kernel))).2.2
 have hb2:bd3 100000000 (pdv 1 1 1 (1-1) (dfV 1 1) twR.flatten (1-0) 0 0):=(pdv_bd tw_pf (dfS_V (U:=1) (V:=1) (by decide) (by decide)) (by decide) (wd:=1-0) (by decide +kernel) (shX_of (by decide +kernel)) (shX_of (by decide +kernel))).2.2
 have hD:=c_PDer 1 1 1 0 1 0 1 twR tw_pf (by decide +kernel) (by decide +kernel) (by decide +kernel) (by decide +kernel) (by decide +kernel) (by decide +kernel) 0 0 0 0 (by decide +kernel) (by decide +kernel) (shX_of (by decide +kernel)) (shX_of (by decide +kernel)) (by decide +kernel) (by decide +kernel) (by decide) (by decide +kernel) (by decide +kernel)
 rw [twK_eq] at hD
 have hN:=c_PNor 1 1 twK twK twR 0 0 _ _ 0 hb1 hb2 hD
 rw [tw_nor] at hN
 have hF:=c_PFlat 1 1 1 twK twK twR tw_pf (by decide) tw_zero
 rw [tw_flat] at hF
 have hC:CallP Tryz.prog 29 [.agg [nI64 1,nI64 1,.list 3 (twK.map ratL),.list 3 (twK.map ratL),.list 1 (twR.map prL)]] (iL 0):=c_PChk 1 1 twK twK twR tw_kn tw_kn rfl tw_len (fun r hr q hq=>(tw_okP r hr q hq).le (by decide)) rfl rfl
 have hS:CallP Tryz.prog 20 [ptL ⟨0,0,1⟩,ptL ⟨0,0,1⟩] (bL true):=c_FPtSame ⟨0,0,1⟩ ⟨by decide +kernel,by decide +kernel,by decide +kernel⟩
 refine fnP Tryz.func8 ?_
 refine zg7 ?_
 refine cp am0 (c_twist) ?_
 refine zg7 ?_
 refine st_pure rfl (.build0 SL29 Z29a) ?_
 refine st_pure rfl (.build0 SL29 Z29a) ?_
 refine cp am3 (hN) ?_
 refine zg11 ?_
 refine cp am1 (hF) ?_
 refine zg9 ?_
 refine wl_regD 22 (by decide +kernel) ?_
 refine zg1 ?_
 refine cp am1 (hC) ?_
 refine zg2 ?_
 refine st_pure (guardX (v:=true) rfl rfl ((by decide +kernel)) rfl) (.move _) ?_
 refine st_pure (guardX (v:=true) rfl rfl ((by decide +kernel)) rfl) (.bin rfl rfl rfl) ?_
 refine st_pure rfl (.pickT rfl ((by decide +kernel))) ?_
 refine zg1 ?_
 refine st_pure (guardX (v:=true) rfl rfl ((by decide +kernel)) rfl) ldA ?_
 refine st_callP (guardX (v:=true) rfl rfl ((by decide +kernel)) rfl) (.cons im0 .nil) (c_Unit2) ?_
 refine st_callP (guardX (v:=true) rfl rfl ((by decide +kernel)) rfl) (.cons im0 (.cons im0 .nil)) (hS) ?_
 refine st_pure rfl (.pickT rfl ((by decide +kernel))) ?_
 refine zg1 ?_
 refine st_pure (guardX (v:=true) rfl rfl ((by decide +kernel)) rfl) (.move _) ?_
 refine st_pure (guardX (v:=true) rfl rfl ((by decide +kernel)) rfl) (.bin rfl rfl rfl) ?_
 refine st_pure rfl (.pickT rfl ((by decide +kernel))) ?_
 refine zg1 ?_
 refine st_pure (guardX (v:=true) rfl rfl ((by decide +kernel)) rfl) ldA ?_
 refine st_callP (guardX (v:=true) rfl rfl ((by decide +kernel)) rfl) (.cons im0 .nil) (c_tx1) ?_
 refine st_pure (guardX (v:=true) rfl rfl ((by decide +kernel)) rfl) (.eqS rfl rfl) ?_
 refine st_pure rfl (.pickT rfl ((by decide +kernel))) ?_
 refine zg4 ?_
 refine ret1 (x:=bL ((⟨#[49]⟩:ByteArray).toList==(⟨#[49]⟩:ByteArray).toList)) rfl ?_
 have hbb:((⟨#[49]⟩:ByteArray).toList==(⟨#[49]⟩:ByteArray).toList)=true:=beq_self_eq_true _
 rw [hbb]
 exact .pure rfl
def pTU (l:List Int) (k n:Nat):Rat:=dtV l (sJ2 l k)
def pTV (l:List Int) (k n:Nat):Rat:=dtV l (sJ3 l k n 0)
theorem kiN_0 (l:List Int) (k:Nat):kiN l k 0=0:=Nat.le_zero.1 (kiN_in l k 0).2
theorem knX_0 (l:List Int) (d k:Nat):knX l d k 0=kn2 d (dtV l k) (dtV l k+1):=by
 unfold knX kiR
 rw [kiN_0];rfl
theorem pKU_eq (l:List Int) (k n:Nat):sKU l k n 0=kn2 (sU l k n) (pTU l k n) (pTU l k n+1):=knX_0 ..
theorem pKV_eq (l:List Int) (k n:Nat):sKV l k n 0=kn2 (sV l k n) (pTV l k n) (pTV l k n+1):=knX_0 ..
theorem sR_pf {l:List Int} {k n:Nat} (hl:l.length≤500) (hk:k≤500) (hn:0<n) (hn3:n≤3):pf 4 (sU l k n) (sV l k n) (sR l k n 0):=by
 have h:=s_in l hl hk hn (show n≤6 by omega) (show 0≤2 by omega)
 have h1:=h.un
 have h2:=h.vn
 have ha:sA l k n 0=sU l k n+1:=by unfold sA;rw [kiN_0]
 have hb:sB l k n 0=sV l k n+1:=by unfold sB;rw [kiN_0]
 exact⟨by decide,by decide,h.u1,by omega,h.v1,by omega,by rw [h.rl,ha],fun r hr=>by rw [(h.rk r hr).1,hb],fun r hr=>(h.rk r hr).2⟩
theorem par_one (T x:Rat):(T+x-T)/(T+1-T)=x:=by rw [wid1,div1];grind
theorem lt_one (T:Rat):T<T+1:=by grind
theorem bdB.le {R S:Nat} {b:Bx3} (h:bdB R b) (k:R≤S):bdB S b:=⟨h.1.le k,h.2.1.le k,h.2.2.le k⟩
namespace H_c_made13
theorem zSm {p q:Prop} (k:q) (e:p=q:=by simp only [e1,e2,e3,e4,p1,p2,p3,q1,q2,q3,l1,t0,t1,r1,r2,r3,r4,Nat.zero_add,Nat.reduceMul,Nat.reduceAdd,b1,b2,b3,b4,b5,b6,i1,i2,i3,i4,i5,i6,Nat.reduceBEq,prL_kill,kills_map prE,dfr,dfq,take_map_len,map_snoc,len_snoc,List.length_cons,List.length_nil,List.nil_append,List.map_nil,List.take_nil,List.append_nil,List.set_cons_zero,List.set_cons_succ,Nat.reduceEqDiff,reduceIte,if_true,if_false,ptL_kill,poL_kill,kills_map ptE,kills_map poE,kills_map ratE,ratL_kill,spL_kill,LV.kill,kills,dice_kill];exact rfl):p:=e.mpr k
end H_c_made13
open H_c_made13 in
theorem c_made13 (l:List Int) (hl5:l.length≤500):CallP Tryz.prog 22 [.list 1 (l.map i64L)] (.agg [nI64 (sU l 0 3),nI64 (sV l 0 3),.list 3 ((kn2 (sU l 0 3) (pTU l 0 3) ((pTU l 0 3)+1)).map ratL),.list 3 ((kn2 (sV l 0 3) (pTV l 0 3) ((pTV l 0 3)+1)).map ratL),.list 1 ((sR l 0 3 0).map prL)]):=by
 have hcp:LV.pure (.agg [nI64 (sU l 0 3),nI64 (sV l 0 3),.list 3 ((kn2 (sU l 0 3) (pTU l 0 3) ((pTU l 0 3)+1)).map ratL),.list 3 ((kn2 (sV l 0 3) (pTV l 0 3) ((pTV l 0 3)+1)).map ratL),.list 1 ((sR l 0 3 0).map prL)])=true:=by simp [LV.pure,pures,pures_map ratE,pures_map prE]
 have hS:=c_DSurface l 0 hl5 3 (by decide) (by decide) 0 (by decide) (Nat.zero_le _)
 rw [pKU_eq l 0 3,pKV_eq l 0 3] at hS
 refine fnP Tryz.func22 (ht:=(fun g=>LV.ren_pure g _ (by simp [LV.pure,pures,pures_map ratE,pures_map prE]))) ?_
 refine zg8 ?_
 refine st_call1 [] rfl rfl (.cons im0 .nil) (c_Roll l) (dice_pure l 0) rfl ?_
 refine st_callMp 1000065 rfl rfl rfl (dice_pure l _) (.cons .ptr (.cons (.imm (.pure rfl)) (.cons (.imm (.pure rfl)) .nil))) .ptr hS rfl (dice_pure l _) hcp ?_
 refine zg4 ?_
 exact retC [] rfl rfl rfl cs (at_all cs rfl) T39 (.pure hcp)
def evF (U V:Nat) (f:Nat→Nat→Rat) (u v:Rat):Rat:=fE (1-v) v V (fun j=>fE (1-u) u U (fun i=>f i j))
theorem evT_F {U V:Nat} (c:List Rat) (u v:Rat):evT U V c u v=evF U V (fun i j=>c.getD (i*(V+1)+j) 0) u v:=by
 rw [evT,ev_fE (by rw [rowT_len];omega),rowT_len,Nat.add_sub_cancel]
 exact fE_congr _ _ _ _ _ fun j hj=>row_get hj u
theorem fE_lin4 (a b p q r s:Rat) (n:Nat) (f g h k:Nat→Rat):fE a b n (fun i=>p*f i+q*g i+r*h i+s*k i)=p*fE a b n f+q*fE a b n g+r*fE a b n h+s*fE a b n k:=by
 have e:(fun i=>p*f i+q*g i+r*h i+s*k i)=fun i=>1*(p*f i+q*g i)+1*(r*h i+s*k i):=by funext i;grind
 rw [e,fE_lin,fE_lin,fE_lin];grind
theorem evF_lin4 {U V:Nat} (p q r s:Rat) (f g h k:Nat→Nat→Rat) (u v:Rat):evF U V (fun i j=>p*f i j+q*g i j+r*h i j+s*k i j) u v=p*evF U V f u v+q*evF U V g u v+r*evF U V h u v+s*evF U V k u v:=by
 unfold evF
 rw [←fE_lin4]
 exact fE_congr _ _ _ _ _ fun j _=>fE_lin4 ..
theorem evF_nn {U V:Nat} {f:Nat→Nat→Rat} {u v:Rat} (hu0:0≤u) (hu1:u≤1) (hv0:0≤v) (hv1:v≤1) (h:∀ i j,i≤U→j≤V→0≤f i j):0≤evF U V f u v :=
 fE_nn (by grind) hv0 _ _ fun j hj=>fE_nn (by grind) hu0 _ _ fun i hi=>h i j hi hj
def peV (U V:Nat) (F:List PoR) (x y:Rat):V3:=v3m (1/evT U V (wtP F) x y) ⟨evT U V (nmP F 0) x y,evT U V (nmP F 1) x y,evT U V (nmP F 2) x y⟩
section
variable {R U V:Nat} {rows:List (List PoR)} (h:pf R U V rows) {x y:Rat} (x0:0≤x) (x1:x≤1) (y0:0≤y) (y1:y≤1)
include h x0 x1 y0 y1
theorem pf.win:(bndP (wtP rows.flatten)).1≤evT U V (wtP rows.flatten) x y∧evT U V (wtP rows.flatten) x y≤(bndP (wtP rows.flatten)).2 :=
 evT_in h.wl x0 x1 y0 y1 fun z hz=>by
  obtain⟨i,hi,rfl⟩:=List.getElem_of_mem hz
  have:=(bk_spec (wtP rows.flatten) (wtP rows.flatten).length).1 i hi
  rwa [List.getD_eq_getElem?_getD,List.getElem?_eq_getElem hi] at this
theorem pf.wpos:0<evT U V (wtP rows.flatten) x y:=lt_le_trans h.wlo (pf.win h x0 x1 y0 y1).1
theorem pf.nn {p q r s:Rat} (hq:∀ o∈rows.flatten,0≤p*o.w+q*(o.w*o.p.x)+r*(o.w*o.p.y)+s*(o.w*o.p.z)) :
  0≤p*evT U V (wtP rows.flatten) x y+q*evT U V (nmP rows.flatten 0) x y+r*evT U V (nmP rows.flatten 1) x y+s*evT U V (nmP rows.flatten 2) x y:=by
 rw [evT_F,evT_F,evT_F,evT_F,←evF_lin4]
 refine evF_nn x0 x1 y0 y1 fun i j hi hj=>?_
 have hx:i*(V+1)+j<rows.flatten.length:=by rw [h.len];exact ix_lt hi hj
 have:=hq _ (getD_memP hx)
 rw [wt_get hx,nm_get hx,nm_get hx,nm_get hx]
 exact this
theorem pe_lin {lo hi a b c d:Rat} (hq:∀ o∈rows.flatten,lo≤a*o.p.x+b*o.p.y+c*o.p.z-d∧a*o.p.x+b*o.p.y+c*o.p.z-d≤hi) :
  lo≤a*(peV U V rows.flatten x y).x+b*(peV U V rows.flatten x y).y+c*(peV U V rows.flatten x y).z-d∧a*(peV U V rows.flatten x y).x+b*(peV U V rows.flatten x y).y+c*(peV U V rows.flatten x y).z-d≤hi:=by
 have hw:=pf.wpos h x0 x1 y0 y1
 have hi1:=(inv_mono hw Rat.le_refl).1
 have hr:1/evT U V (wtP rows.flatten) x y*evT U V (wtP rows.flatten) x y=1:=Rat.div_mul_cancel (by grind)
 have k1:=pf.nn h x0 x1 y0 y1 (p:=hi+d) (q:=-a) (r:=-b) (s:=-c) fun o ho=>by
  have:=Rat.mul_nonneg (Rat.le_of_lt (h.fok o ho).2.2) (show 0≤hi-(a*o.p.x+b*o.p.y+c*o.p.z-d) by have:=(hq o ho).2;grind)
  grind
 have k2:=pf.nn h x0 x1 y0 y1 (p:=-lo-d) (q:=a) (r:=b) (s:=c) fun o ho=>by
  have:=Rat.mul_nonneg (Rat.le_of_lt (h.fok o ho).2.2) (show 0≤(a*o.p.x+b*o.p.y+c*o.p.z-d)-lo by have:=(hq o ho).1;grind)
  grind
 have m1:=Rat.mul_nonneg (Rat.le_of_lt hi1) k1
 have m2:=Rat.mul_nonneg (Rat.le_of_lt hi1) k2
 unfold peV v3m
 simp only
 clear hq k1 k2
 generalize 1/evT U V (wtP rows.flatten) x y=r at *
 generalize evT U V (wtP rows.flatten) x y=w at *
 generalize evT U V (nmP rows.flatten 0) x y=n0 at *
 generalize evT U V (nmP rows.flatten 1) x y=n1 at *
 generalize evT U V (nmP rows.flatten 2) x y=n2 at *
 have e1:r*((hi+d)*w+-a*n0+-b*n1+-c*n2)=(hi+d)*(r*w)-(a*(r*n0)+b*(r*n1)+c*(r*n2)):=by grind
 have e2:r*((-lo-d)*w+a*n0+b*n1+c*n2)=(a*(r*n0)+b*(r*n1)+c*(r*n2))-(lo+d)*(r*w):=by grind
 rw [e1,hr] at m1
 rw [e2,hr] at m2
 constructor<;>grind
theorem pe_box (k:Nat) (hk:k<3):hasR (bxN (rows.flatten.map (·.p)) k ((rows.flatten.map (·.p)).length-1)) ((peV U V rows.flatten x y).at k)=true:=by
 have hb:∀ o∈rows.flatten,(bxN (rows.flatten.map (·.p)) k ((rows.flatten.map (·.p)).length-1)).1≤o.p.at k∧o.p.at k≤(bxN (rows.flatten.map (·.p)) k ((rows.flatten.map (·.p)).length-1)).2:=fun q hq=>by
  obtain⟨i,hi,rfl⟩:=List.mem_iff_getElem.1 hq
  have:=bxN_in (rows.flatten.map (·.p)) k ((rows.flatten.map (·.p)).length-1) i (by rw [List.length_map];omega)
  rw [ps_get,List.getD_eq_getElem?_getD,List.getElem?_eq_getElem hi] at this
  exact this
 generalize bxN (rows.flatten.map (·.p)) k ((rows.flatten.map (·.p)).length-1)=B at *
 have:B.1≤(peV U V rows.flatten x y).at k∧(peV U V rows.flatten x y).at k≤B.2:=by
  rcases(show k=0∨k=1∨k=2 by omega) with rfl | rfl | rfl
  ·have:=pe_lin h x0 x1 y0 y1 (lo:=B.1) (hi:=B.2) (a:=1) (b:=0) (c:=0) (d:=0) fun o ho=>by
    obtain⟨g1,g2⟩:=hb o ho
    have g1:B.1≤o.p.x:=g1
    have g2:o.p.x≤B.2:=g2
    constructor<;>grind
   show B.1≤(peV U V rows.flatten x y).x∧(peV U V rows.flatten x y).x≤B.2
   constructor<;>grind
  ·have:=pe_lin h x0 x1 y0 y1 (lo:=B.1) (hi:=B.2) (a:=0) (b:=1) (c:=0) (d:=0) fun o ho=>by
    obtain⟨g1,g2⟩:=hb o ho
    have g1:B.1≤o.p.y:=g1
    have g2:o.p.y≤B.2:=g2
    constructor<;>grind
   show B.1≤(peV U V rows.flatten x y).y∧(peV U V rows.flatten x y).y≤B.2
   constructor<;>grind
  ·have:=pe_lin h x0 x1 y0 y1 (lo:=B.1) (hi:=B.2) (a:=0) (b:=0) (c:=1) (d:=0) fun o ho=>by
    obtain⟨g1,g2⟩:=hb o ho
    have g1:B.1≤o.p.z:=g1
    have g2:o.p.z≤B.2:=g2
    constructor<;>grind
   show B.1≤(peV U V rows.flatten x y).z∧(peV U V rows.flatten x y).z≤B.2
   constructor<;>grind
 unfold hasR
 rw [decide_eq_true this.1,decide_eq_true this.2];rfl
theorem ps_in {Ud Vd:Nat} {D:List Rat→List Rat} (hd:dfS U V Ud Vd D) (wd:Rat) (k:Nat) :
  (psK U V Ud Vd D rows.flatten wd k).1≤1/(wd*(evT U V (wtP rows.flatten) x y*evT U V (wtP rows.flatten) x y))*evT (Ud+U) (Vd+V) (sgN U V Ud Vd D rows.flatten k) x y ∧
  1/(wd*(evT U V (wtP rows.flatten) x y*evT U V (wtP rows.flatten) x y))*evT (Ud+U) (Vd+V) (sgN U V Ud Vd D rows.flatten k) x y≤(psK U V Ud Vd D rows.flatten wd k).2:=by
 obtain⟨t1,t2⟩:(bndP (sgN U V Ud Vd D rows.flatten k)).1≤evT (Ud+U) (Vd+V) (sgN U V Ud Vd D rows.flatten k) x y∧evT (Ud+U) (Vd+V) (sgN U V Ud Vd D rows.flatten k) x y≤(bndP (sgN U V Ud Vd D rows.flatten k)).2 :=
  evT_in (sg_len h hd k) x0 x1 y0 y1 fun z hz=>by
   obtain⟨i,hi,rfl⟩:=List.getElem_of_mem hz
   have:=(bk_spec (sgN U V Ud Vd D rows.flatten k) (sgN U V Ud Vd D rows.flatten k).length).1 i hi
   rwa [List.getD_eq_getElem?_getD,List.getElem?_eq_getElem hi] at this
 obtain⟨w1,w2⟩:=pf.win h x0 x1 y0 y1
 have hlo:=h.wlo
 have hl0:0<(wtP rows.flatten).length:=by rw [wtP_len];exact h.pos
 have e:=(sq_pos hlo (bnd_le12 hl0)).1
 have hw:=lt_le_trans hlo w1
 have q1:=Rat.mul_le_mul_of_nonneg_left w1 (Rat.le_of_lt hlo)
 have q2:=Rat.mul_le_mul_of_nonneg_right w1 (Rat.le_of_lt hw)
 have q3:evT U V (wtP rows.flatten) x y*evT U V (wtP rows.flatten) x y≤(bndP (wtP rows.flatten)).2*(bndP (wtP rows.flatten)).2 :=
  Rat.le_trans (Rat.mul_le_mul_of_nonneg_left w2 (Rat.le_of_lt hw)) (Rat.mul_le_mul_of_nonneg_right w2 (Rat.le_trans (Rat.le_of_lt hw) w2))
 have r:=rc_in (B:=sqS (bndP (wtP rows.flatten))) (b:=evT U V (wtP rows.flatten) x y*evT U V (wtP rows.flatten) x y) (by rw [e];exact Rat.mul_pos hlo hlo) (by rw [e];exact Rat.le_trans q1 q2) (by rw [e];exact q3)
 have m:=mu_in t1 t2 r.1 r.2
 have m2:=mu_in (A:=muS (bndP (sgN U V Ud Vd D rows.flatten k)) (rcS (sqS (bndP (wtP rows.flatten))))) (B:=(1/wd,1/wd)) (b:=1/wd) m.1 m.2 Rat.le_refl Rat.le_refl
 have e2:∀ t W:Rat,t*(1/W)*(1/wd)=1/(wd*W)*t:=fun t W=>by
  rw [Rat.div_def,Rat.div_def,Rat.div_def,Rat.one_mul,Rat.one_mul,Rat.one_mul,Rat.inv_mul_rev]
  grind
 rw [e2] at m2
 unfold psK quS
 exact m2
end
theorem x_perp (a b:V3):v3d (v3x a b) a=0∧v3d (v3x a b) b=0:=by
 unfold v3d v3x
 simp only
 constructor<;>grind
theorem bx_in {A B:Bx3} {a b:V3} (a1:A.x.1≤a.x∧a.x≤A.x.2) (a2:A.y.1≤a.y∧a.y≤A.y.2) (a3:A.z.1≤a.z∧a.z≤A.z.2) (b1:B.x.1≤b.x∧b.x≤B.x.2) (b2:B.y.1≤b.y∧b.y≤B.y.2) (b3:B.z.1≤b.z∧b.z≤B.z.2) :
  ((bxX A B).x.1≤(v3x a b).x∧(v3x a b).x≤(bxX A B).x.2)∧((bxX A B).y.1≤(v3x a b).y∧(v3x a b).y≤(bxX A B).y.2)∧((bxX A B).z.1≤(v3x a b).z∧(v3x a b).z≤(bxX A B).z.2):=by
 have m:∀ {P Q:Rat × Rat} {p q:Rat},P.1≤p∧p≤P.2→Q.1≤q∧q≤Q.2→(muS P Q).1≤p*q∧p*q≤(muS P Q).2:=fun h k=>mu_in h.1 h.2 k.1 k.2
 have s:∀ {P Q:Rat × Rat} {p q:Rat},P.1≤p∧p≤P.2→Q.1≤q∧q≤Q.2→(sbS P Q).1≤p-q∧p-q≤(sbS P Q).2:=fun h k=>sb_in h.1 h.2 k.1 k.2
 exact⟨s (m a2 b3) (m a3 b2),s (m a3 b1) (m a1 b3),s (m a1 b2) (m a2 b1)⟩
theorem has_of {s:Rat × Rat} {x:Rat} (h:s.1≤x∧x≤s.2):hasR s x=true:=by
 unfold hasR
 rw [decide_eq_true h.1,decide_eq_true h.2];rfl
theorem fl_ub (n:V3) (d:Rat):∀ (l:List V3) (o:Rat),o≤l.foldl (fun o p=>mxR o ((v3d n p-d)*(v3d n p-d))) o
 | [],o=>Rat.le_refl
 | p :: l,o=>Rat.le_trans (by unfold mxR;split<;>grind) (fl_ub n d l (mxR o ((v3d n p-d)*(v3d n p-d))))
theorem fl_root (n:V3) (d:Rat):∀ (l:List V3) (o:Rat),0≤o→∃ r:Rat,0≤r∧(∀ p∈l,-r≤v3d n p-d∧v3d n p-d≤r)∧r*r≤l.foldl (fun o p=>mxR o ((v3d n p-d)*(v3d n p-d))) o
 | [],o,ho=>⟨0,Rat.le_refl,fun p hp=>by simp at hp,by rw [Rat.zero_mul];exact ho⟩
 | p :: l,o,ho=>by
  have hmx:o≤mxR o ((v3d n p-d)*(v3d n p-d))∧(v3d n p-d)*(v3d n p-d)≤mxR o ((v3d n p-d)*(v3d n p-d)):=by unfold mxR;split<;>constructor<;>grind
  obtain⟨r,r0,r1,r2⟩:=fl_root n d l (mxR o ((v3d n p-d)*(v3d n p-d))) (Rat.le_trans ho hmx.1)
  have hu:=fl_ub n d l (mxR o ((v3d n p-d)*(v3d n p-d)))
  rw [List.foldl_cons]
  generalize l.foldl (fun o p=>mxR o ((v3d n p-d)*(v3d n p-d))) (mxR o ((v3d n p-d)*(v3d n p-d)))=M at *
  generalize he:v3d n p-d=e at *
  have hem:e*e≤M:=Rat.le_trans hmx.2 hu
  by_cases h1:e≤r
  ·by_cases h2:-r≤e
   ·refine⟨r,r0,fun q hq=>?_,r2⟩
    rcases List.mem_cons.1 hq with rfl | hq
    ·rw [he];exact⟨h2,h1⟩
    ·exact r1 q hq
   ·refine⟨-e,by grind,fun q hq=>?_,by grind⟩
    rcases List.mem_cons.1 hq with rfl | hq
    ·rw [he];constructor<;>grind
    ·have:=r1 q hq;constructor<;>grind
  ·refine⟨e,by grind,fun q hq=>?_,hem⟩
   rcases List.mem_cons.1 hq with rfl | hq
   ·rw [he];constructor<;>grind
   ·have:=r1 q hq;constructor<;>grind
theorem sq_le2 {e r:Rat} (r0:0≤r) (h1:-r≤e) (h2:e≤r):e*e≤r*r:=by
 have:=Rat.mul_nonneg (show 0≤r-e by grind) (show 0≤r+e by grind)
 grind
theorem fl_in {R U V:Nat} {rows:List (List PoR)} (h:pf R U V rows) {x y:Rat} (x0:0≤x) (x1:x≤1) (y0:0≤y) (y1:y≤1) (n:V3) (d:Rat) :
  (v3d n (peV U V rows.flatten x y)-d)*(v3d n (peV U V rows.flatten x y)-d)≤flT n d (rows.flatten.map (·.p)):=by
 obtain⟨r,r0,r1,r2⟩:=fl_root n d (rows.flatten.map (·.p)) 0 Rat.le_refl
 refine Rat.le_trans (sq_le2 r0 ?_ ?_) r2
 all_goals
  have:=pe_lin h x0 x1 y0 y1 (lo:=-r) (hi:=r) (a:=n.x) (b:=n.y) (c:=n.z) (d:=d) fun o ho=>by
   have:=r1 o.p (List.mem_map.2 ⟨o,ho,rfl⟩)
   unfold v3d at this
   constructor<;>grind
  unfold v3d
  grind
end Go.Proofs.YtfpdccbgngdhkaaGreat
end
section
set_option linter.unusedVariables false
set_option linter.unusedSimpArgs false
namespace Go.Lg
theorem Weak.boxp {L:St} {t b sz:Nat} {y:LV} {m:Bool} (h:L.slot t=.eptr b sz 0 0) (hb:L.heap b=some ⟨sz,[y],m⟩) (hs:y.csize=sz) (ha:y.isAgg=true) (hp:y.pure=true) (h0:b≠0:=by decide):Weak L ((L.put (some t) (.boxp y)).kill b):=by
 have h0':([b]:List Nat).contains 0=false:=by simp;omega
 have e1:=(Weak.frz [b] h0' h (.eptr (blk:=⟨sz,[y],m && !([b]:List Nat).contains b⟩) (x:=y) (n:=sz) (ag:=true) (by simp only [St.frz,hb,Option.map_some]) rfl rfl hs (at_all hs ha) hp (by simp))).trans (Weak.kill _ b h0)
 have e2:((L.frz [b]).put (some t) (.boxp y)).kill b=(L.put (some t) (.boxp y)).kill b:=by
  unfold St.kill
  congr 1
  funext c
  rw [put_heap,put_heap]
  by_cases hcb:c=b
  ·simp [hcb]
  ·simp only [St.frz,if_neg hcb]
   cases L.heap c with
   | none=>rfl
   | some blk=>simp [hcb]
 rw [←e2]
 exact e1
theorem wl_regAW {P:Program} {L L0:St} {Q:LEx→St→Prop} {ops:Array Oper} {id:Nat} (hw:Weak L L0) (h:anyL P ops ops.size (Array.replicate ops.size false) L0 (Q .normal)):wpL P (.region id ops true) Q L:=⟨L0,hw,.inr (.inl ⟨rfl,h⟩)⟩
def hpSub:List (Nat × Blk)→List (Nat × Blk)→Prop
 | [],_=>True
 | (b,x) :: t,l=>hp l b=some x∧hpSub t l
theorem hp_sub {l':List (Nat × Blk)}:∀ {l:List (Nat × Blk)},hpSub l l'→∀ c x,hp l c=some x→hp l' c=some x
 | [],_,c,x,h=>by cases h
 | (b,y) :: t,h,c,x,hc=>by
  simp only [hp] at hc
  by_cases hb:c=b
  ·subst hb
   simp only [Nat.beq_refl,cond_true,Option.some.injEq] at hc
   subst hc
   exact h.1
  ·have:Nat.beq c b=false:=by rw [←Bool.not_eq_true,Nat.beq_eq];exact hb
   rw [this] at hc
   exact hp_sub h.2 c x hc
theorem hp_ext {l l':List (Nat × Blk)} (h:hpSub l l') (h':hpSub l' l):hp l=hp l':=by
 funext c
 cases hc:hp l c with
 | some x=>exact(hp_sub h c x hc).symm
 | none =>
  cases hc':hp l' c with
  | none=>rfl
  | some x=>rw [hp_sub h' c x hc'] at hc;cases hc
def wideOp:Op→Bool
 | .store ..=>true
 | .build ..=>true
 | .box ..=>true
 | .alloc ..=>true
 | .buildSlice ..=>true
 | .makeSlice ..=>true
 | .call ⟨.value (.func _),_,_⟩=>true
 | .call ⟨.builtin .append,_,_⟩=>true
 | op=>plainOp op
section
variable {P:Program} {H:Heap} {ρ ρ':Operand→LV}
theorem psmap {ps:Array (Nat × Operand)} (hr:∀ p∈ps.toList,ρ' p.2=ρ p.2):(ps.toList.map fun p=>(p.1,ρ p.2))=ps.toList.map fun p=>(p.1,ρ' p.2) :=
 List.map_congr_left fun p hp=>by rw [hr p hp]
theorem OpA.cong {d:Nat} {op:Op} {r:LV} {blk:Blk} (h:OpA P ρ d op r blk) (hr:∀ x∈op.operands,ρ' x=ρ x):OpA P ρ' d op r blk:=by
 cases h with
 | make hT hz hE hzs hb hl hc hnm hm hm2=>exact .make hT hz hE hzs hb ((hr _ (by simp [Op.operands])).trans hl) ((hr _ (by simp [Op.operands])).trans hc) hnm hm hm2
 | @lit T E n ps z sz hT hz hE hzs hn h0 hs0 hp =>
  have hq:∀ p∈ps.toList,ρ' p.2=ρ p.2:=fun p hp=>hr _ (by simp only [Op.operands,List.mem_toArray];exact List.mem_map.2 ⟨p,hp,rfl⟩)
  rw [psmap hq]
  exact .lit hT hz hE hzs hn h0 hs0 fun p hp'=>by rw [hq p hp'];exact hp p hp'
 | lit0 hT hE=>exact .lit0 hT hE
 | @box T x hne =>
  have e:=hr x (by simp [Op.operands])
  rw [←e]
  rw [←e] at hne
  exact .box hne
 | alloc hz=>exact .alloc hz
theorem OpP.congB {T:TypeId} {ps:Array (Nat × Operand)} {r:LV} (h:OpP P H ρ (.build T ps) r) (hr:∀ x∈(Op.build T ps).operands,ρ' x=ρ x):OpP P H ρ' (.build T ps) r:=by
 have hq:∀ p∈ps.toList,ρ' p.2=ρ p.2:=fun p hp=>hr _ (by simp only [Op.operands,List.mem_toArray];exact List.mem_map.2 ⟨p,hp,rfl⟩)
 cases h with
 | buildA hT hE hf hz hp =>
  rw [psmap hq]
  exact .buildA hT hE hf hz fun p hp'=>by rw [hq p hp'];exact hp p hp'
 | build hT hz hp =>
  rw [psmap hq]
  exact .build hT hz fun p hp'=>by rw [hq p hp'];exact hp p hp'
end
theorem kill_put (L:St) {d:Nat} {v:LV} (hv:∀ b,v.kill b=v) (b:Nat):(L.put (some d) v).kill b=(L.kill b).put (some d) v:=by
 have h1:∀ t,((L.put (some d) v).kill b).slot t=((L.kill b).put (some d) v).slot t:=fun t=>by
  rw [put_slot]
  show (((L.put (some d) v).slot t).kill b)=_
  rw [put_slot]
  split
  ·exact hv b
  ·rfl
 exact congrArg (fun f=>St.mk f (L.kill b).heap) (funext h1)
section
variable {P:Program} {ops:Array Oper}
theorem step_commW {L L2:St} {d:Nat} {v:LV} {o:Oper} (hv:∀ b,v.kill b=v) (hk:wideOp o.op=true) (hl:d∉o.looksAt ops) (hd:o.dst≠some d) (h:Step P false ops o (L.put (some d) v) L2) :
  ∃ L1,Step P false ops o L L1∧L2=L1.put (some d) v∧∀ t,o.dst≠some t→(∀ b,(L.slot t).kill b=L.slot t)→L1.slot t=L.slot t:=by
 have hev:=ev_put (L:=L) (v:=v) hl
 have hsl:∀ (M:St) (r:LV) t,M.slot t=L.slot t→o.dst≠some t→(M.put o.dst r).slot t=L.slot t:=fun M r t hM hne=>by
  cases hh:o.dst with
  | none=>exact hM
  | some e=>rw [put_slot,if_neg (fun q=>hne (by rw [hh,q]))];exact hM
 cases h with
 | skip hg hL=>exact⟨L.put o.dst (.tup []),.skip (guard_put hl hg) rfl,by rw [hL,put_commO L hd],fun t ht _=>hsl L _ t rfl ht⟩
 | @val r fr H1 hg hle hfr hov hL =>
  obtain⟨dst,op,ty,pos,after,gd⟩:=o
  have hev':∀ x∈op.operands,L.ev x=(L.put (some d) v).ev x:=fun x hx=>(hev x hx).symm
  have hov2:OpV P H1 L.ev (dst.getD 0) op r fr:=by
   cases hov with
   | pure hp =>
    by_cases hpl:plainOp op=true
    ·exact .pure (hp.cong hpl hev')
    ·by_cases hbq:∃ T ps,op=.build T ps
     ·obtain⟨T,ps,rfl⟩:=hbq
      exact .pure (hp.congB hev')
     ·cases hp with
      | ext2 hf hname hb hn he hx hr h1 h2 =>
       refine .pure (.ext2 hf hname hb hn he ?_ hr h1 h2)
       rw [←hx]
       exact List.map_congr_left fun x hxm=>hev' x (mem_args hxm)
      | build=>exact absurd ⟨_,_,rfl⟩ hbq
      | buildA=>exact absurd ⟨_,_,rfl⟩ hbq
      | _=>first | (exfalso;exact hpl rfl) | (exfalso;revert hk hpl;simp [wideOp,plainOp])
   | alloc ha=>exact .alloc (ha.cong hev')
   | call hc =>
    cases hc with
    | func ha hkk hlen hpu =>
     refine .call (.func ?_ hkk hlen hpu)
     rw [show (_:Array Operand).toList.map L.ev=_ from List.map_congr_left fun x hxm=>hev' x (mem_args hxm)]
     exact ha
    | clo=>exfalso;revert hk;simp [wideOp,plainOp]
    | mk=>exfalso;revert hk;simp [wideOp,plainOp]
  refine⟨⟨(L.put dst r).slot,H1⟩,.val (guard_put hl hg) hle hfr hov2 rfl,?_,fun t ht _=>hsl L r t rfl ht⟩
  rw [hL]
  have:=put_commO L hd v r
  exact congrArg (fun M=>St.mk (St.slot M) H1) this
 | st hg hot =>
  obtain⟨dst,op,ty,pos,after,gd⟩:=o
  cases hot with
  | store hp hb hs hm hi hy hput hT hne =>
   rename_i T p x b sz i o' blk y y'
   have e1:=hev p (by simp [Op.operands])
   have e2:=hev x (by simp [Op.operands])
   rw [e1] at hp
   rw [e2] at hput hT hne
   refine⟨_,.st (guard_put hl hg) (.store hp hb hs hm hi hy hput hT hne),?_,fun t ht _=>?_⟩
   ·exact put_commO (L.setB b _) hd v .any
   ·exact hsl (L.setB b _) .any t rfl ht
  | appX hx hb hs hm hlen hbd hb0 hT hU hz hE hzs hby hy hsz h63 hs0 =>
   rename_i T U E E' d' b sz len blk x y news z by_
   have e1:=hev x (by simp [Op.operands,Call.operands])
   have e2:=hev y (by simp [Op.operands,Call.operands])
   rw [e1] at hx
   rw [e2] at hy
   refine⟨_,.st (guard_put hl hg) (.appX hx hb hs hm hlen hbd hb0 hT hU hz hE hzs hby hy hsz h63 hs0),?_,fun t ht hf=>?_⟩
   ·rw [kill_put L hv]
    exact put_commO ((L.kill b).setB d' _) hd v _
   ·exact hsl ((L.kill b).setB d' _) _ t (hf b) ht
  | app0X hx hbd hT hU hz hE hzs hby hy hn hsz h63 hs0 =>
   rename_i T U E E' d' sz x y news z by_
   have e1:=hev x (by simp [Op.operands,Call.operands])
   have e2:=hev y (by simp [Op.operands,Call.operands])
   rw [e1] at hx
   rw [e2] at hy
   refine⟨_,.st (guard_put hl hg) (.app0X hx hbd hT hU hz hE hzs hby hy hn hsz h63 hs0),?_,fun t ht hf=>?_⟩
   ·exact put_commO (L.setB d' _) hd v _
   ·exact hsl (L.setB d' _) _ t rfl ht
  | _=>exfalso;revert hk;simp [wideOp,plainOp]
 | stM hdr hg hom =>
  obtain⟨dst,op,ty,pos,after,gd⟩:=o
  cases hom with
  | call hb hm hp ha hn hkk hm' hp' =>
   rename_i f xs ats args r b blk blk'
   have em:xs.toList.map (L.put (some d) v).ev=xs.toList.map L.ev:=List.map_congr_left fun x hxm=>hev x (mem_args hxm)
   rw [em] at ha hn
   refine⟨_,.stM hdr (guard_put hl hg) (.call hb hm hp ha hn hkk hm' hp'),?_,fun t ht _=>?_⟩
   ·exact put_commO (L.setB b _) hd v _
   ·exact hsl (L.setB b _) _ t rfl ht
  | appz hT hU hz hE hzs hb hx hy hbd h0 hs0 hm h63 =>
   rename_i T U E x y z k kl sz by_ n d'
   have e1:=hev x (by simp [Op.operands,Call.operands])
   have e2:=hev y (by simp [Op.operands,Call.operands])
   rw [e1] at hx
   rw [e2] at hy
   refine⟨_,.stM hdr (guard_put hl hg) (.appz hT hU hz hE hzs hb hx hy hbd h0 hs0 hm h63),?_,fun t ht _=>?_⟩
   ·exact put_commO (L.setB d' _) hd v _
   ·exact hsl (L.setB d' _) _ t rfl ht
def hoistOkW (ops:Array Oper) (i:Nat) (D:Array Bool):Bool :=
 D.size==ops.size && !D.getD i true && (dirs (ops.getD i default)).all (fun j=>D.getD j false) && (ops.getD i default).guard.isNone && plainOp (ops.getD i default).op &&
 (List.range ops.size).all fun j=>j==i || D.getD j true || (wideOp (ops.getD j default).op && ((ops.getD j default).dst != (ops.getD i default).dst) &&
  (match (ops.getD i default).dst with | some d=>!((ops.getD j default).looksAt ops).contains d || (dirs (ops.getD j default)).contains i | none=>false) &&
  (match (ops.getD j default).dst with | some e=>!((ops.getD i default).looksAt ops).contains e | none=>true))
def firmAll (L:St):List Operand→Prop
 | []=>True
 | x :: xs=>(∀ b,(L.ev x).kill b=L.ev x)∧firmAll L xs
theorem firmAll_mem {L:St}:∀ {l:List Operand},firmAll L l→∀ x∈l,∀ b,(L.ev x).kill b=L.ev x
 | _ :: _,h,_,.head _=>h.1
 | _ :: _,h,_,.tail _ hx=>firmAll_mem h.2 _ hx
theorem fmA {p:Prop} (h:p:=by first | exact And.intro (fun _=>rfl) trivial | exact And.intro (fun _=>rfl) (And.intro (fun _=>rfl) trivial) | exact And.intro (fun b=>LV.kill_pure b _ pu) trivial):p:=h
theorem fmV {p:Prop} (h:p:=by first | exact(fun _=>rfl) | exact(fun b=>LV.kill_pure b _ pu) | exact(fun b=>LV.kill_pure b _ (by assumption))):p:=h
theorem any_hoistW {m:Nat} {K:St→Prop} {L:St} {D:Array Bool} {d:Nat} {v:LV} (i:Nat) {o:Oper} (ho:ops[i]?=some o) (hdst:o.dst=some d) (hok:hoistOkW ops i D=true) (hv:OpP P (fun _=>none) L.ev o.op v)
  (hfv:∀ b,v.kill b=v) (hfo:firmAll L o.op.operands.toList)
  (h:anyL P ops m (D.setIfInBounds i true) (L.put (some d) v) K):anyL P ops (m+1) D L K:=by
 have getD_of:∀ i o,ops[i]?=some o→ops.getD i default=o:=fun i o h=>by rw [Array.getD_eq_getD_getElem?,h];rfl
 have hin:i<ops.size:=(Array.getElem?_eq_some_iff.1 ho).1
 let C:Array Bool→Prop:=fun D=>D.size=ops.size∧D.getD i false=false∧(∀ j∈dirs o,D.getD j false=true)∧∀ j oj,ops[j]?=some oj→j≠i→D.getD j false=false →
  wideOp oj.op=true∧oj.dst≠some d∧(d∈oj.looksAt ops→i∈dirs oj)∧∀ e,oj.dst=some e→e∉o.looksAt ops
 unfold hoistOkW at hok
 rw [getD_of i o ho,hdst] at hok
 simp only [Bool.and_eq_true,List.all_eq_true,List.mem_range,Bool.or_eq_true,beq_iff_eq,Bool.not_eq_true',Option.isNone_iff_eq_none,bne_iff_ne,ne_eq] at hok
 obtain⟨⟨⟨⟨⟨hsz,hni⟩,hrd⟩,hgd⟩,hslim⟩,hall⟩:=hok
 have hC:C D:=by
  refine⟨hsz,by rw [getD_sz (by omega) false true];exact hni,hrd,fun j oj hj hne hDj=>?_⟩
  have hjl:j<ops.size:=(Array.getElem?_eq_some_iff.1 hj).1
  have:=hall j hjl
  rw [getD_of j oj hj] at this
  rcases this with(q | q) | q
  ·exact absurd q hne
  ·rw [getD_sz (by omega) true false,hDj] at q;cases q
  ·obtain⟨⟨⟨q1,q2⟩,q3⟩,q4⟩:=q
   refine⟨q1,q2,fun hm=>?_,fun e he hm=>?_⟩
   ·rcases q3 with q | q
    ·rw [List.contains_iff_mem.2 hm] at q;cases q
    ·exact List.contains_iff_mem.1 q
   ·rw [he] at q4
    simp only [Bool.not_eq_true'] at q4
    rw [List.contains_iff_mem.2 hm] at q4;cases q4
 have hstepi:∀ L:St,OpP P (fun _=>none) L.ev o.op v→Step P false ops o L (L.put (some d) v):=fun L hv=>by
  refine .val (fr:=[]) (H1:=L.heap) (r:=v) (by unfold GuardIs;rw [hgd]) (Heap.le_refl _) (fun _ _ hh=>by cases hh) (.pure (hv.le fun b blk h=>by cases h)) ?_
  rw [hdst];rfl
 clear hsz hni hrd hall
 have hfo':∀ x∈o.op.operands,∀ b,(L.ev x).kill b=L.ev x:=fun x hx=>firmAll_mem hfo x (Array.mem_toList_iff.2 hx)
 clear hfo
 have main:∀ (n:Nat) (D:Array Bool) (L:St),C D→OpP P (fun _=>none) L.ev o.op v→(∀ x∈o.op.operands,∀ b,(L.ev x).kill b=L.ev x)→anyL P ops n (D.setIfInBounds i true) (L.put (some d) v) K→anyL P ops (n+1) D L K:=by
  intro n
  induction n with
  | zero =>
   intro D L ⟨c1,c2,c3,c4⟩ hv _ hh
   have hri:i∈Region.ready .any ops D:=(ready_spec c1).2 ⟨o,ho,by rw [getD_sz (by omega) true false];exact c2,c3⟩
   refine⟨fun hr=>(by rw [hr] at hri;cases hri),fun j hj=>?_⟩
   by_cases hji:j=i
   ·subst hji
    exact⟨o,_,ho,hstepi L hv,hh⟩
   ·exfalso
    obtain⟨oj,h1,h2,h3⟩:=(ready_spec c1).1 hj
    have:j∈Region.ready .any ops (D.setIfInBounds i true):=(ready_spec (by simpa using c1)).2 ⟨oj,h1,by
     rw [Array.getD_eq_getD_getElem?,Array.getElem?_setIfInBounds_ne (Ne.symm hji),←Array.getD_eq_getD_getElem?];exact h2,fun k hk=>by
     by_cases hki:i=k
     ·subst hki
      rw [Array.getD_eq_getD_getElem?,Array.getElem?_setIfInBounds_self_of_lt (by omega)];rfl
     ·rw [Array.getD_eq_getD_getElem?,Array.getElem?_setIfInBounds_ne hki,←Array.getD_eq_getD_getElem?];exact h3 k hk⟩
    rw [hh.1] at this;cases this
  | succ n ih =>
   intro D L ⟨c1,c2,c3,c4⟩ hv hfo hh
   have hri:i∈Region.ready .any ops D:=(ready_spec c1).2 ⟨o,ho,by rw [getD_sz (by omega) true false];exact c2,c3⟩
   refine⟨fun hr=>(by rw [hr] at hri;cases hri),fun j hj=>?_⟩
   by_cases hji:j=i
   ·subst hji
    exact⟨o,_,ho,hstepi L hv,hh⟩
   ·obtain⟨oj,h1,h2,h3⟩:=(ready_spec c1).1 hj
    have hjl:j<ops.size:=(Array.getElem?_eq_some_iff.1 h1).1
    have hDj:D.getD j false=false:=by rw [getD_sz (by omega) false true];exact h2
    have hji2:j∈Region.ready .any ops (D.setIfInBounds i true):=(ready_spec (by simpa using c1)).2 ⟨oj,h1,by
     rw [Array.getD_eq_getD_getElem?,Array.getElem?_setIfInBounds_ne (Ne.symm hji),←Array.getD_eq_getD_getElem?];exact h2,fun k hk=>by
     by_cases hki:i=k
     ·subst hki
      rw [Array.getD_eq_getD_getElem?,Array.getElem?_setIfInBounds_self_of_lt (by omega)];rfl
     ·rw [Array.getD_eq_getD_getElem?,Array.getElem?_setIfInBounds_ne hki,←Array.getD_eq_getD_getElem?];exact h3 k hk⟩
    obtain⟨oj',L2,g1,g2,g3⟩:=hh.2 j hji2
    rw [h1] at g1;cases g1
    obtain⟨k1,k2,k3,k4⟩:=c4 j oj h1 hji hDj
    have hnl:d∉oj.looksAt ops:=fun hm=>by
     have:=h3 i (k3 hm)
     rw [c2] at this;cases this
    obtain⟨L1,s1,s2,s3⟩:=step_commW hfv k1 hnl k2 g2
    have hsame:∀ x∈o.op.operands,L1.ev x=L.ev x:=fun x hx=>by
     cases x with
     | tmp t =>
      have ht:t∈o.looksAt ops:=by
       unfold Oper.looksAt
       simp only [List.mem_append,List.mem_filterMap]
       exact .inl ⟨.tmp t,by simpa using hx,rfl⟩
      exact s3 t (fun q=>k4 t q ht) (hfo _ hx)
     | const v=>rfl
     | func f=>rfl
     | global f=>rfl
    refine⟨oj,L1,h1,s1,ih (D.setIfInBounds j true) L1 ⟨by simpa using c1,?_,fun k hk=>?_,fun k ok hk hne hDk=>?_⟩ (hv.cong hslim hsame) (fun x hx b=>by rw [hsame x hx];exact hfo x hx b) ?_⟩
    ·rw [Array.getD_eq_getD_getElem?,Array.getElem?_setIfInBounds_ne hji,←Array.getD_eq_getD_getElem?];exact c2
    ·by_cases hjk:j=k
     ·subst hjk
      rw [Array.getD_eq_getD_getElem?,Array.getElem?_setIfInBounds_self_of_lt (by omega)];rfl
     ·rw [Array.getD_eq_getD_getElem?,Array.getElem?_setIfInBounds_ne hjk,←Array.getD_eq_getD_getElem?];exact c3 k hk
    ·by_cases hjk:j=k
     ·subst hjk
      rw [Array.getD_eq_getD_getElem?,Array.getElem?_setIfInBounds_self_of_lt (by omega)] at hDk
      cases hDk
     ·rw [Array.getD_eq_getD_getElem?,Array.getElem?_setIfInBounds_ne hjk,←Array.getD_eq_getD_getElem?] at hDk
      exact c4 k ok hk hne hDk
    ·rw [←s2]
     have:(D.setIfInBounds j true).setIfInBounds i true=(D.setIfInBounds i true).setIfInBounds j true:=by
      refine Array.ext_getElem? fun k=>?_
      by_cases q1:i=k
      ·subst q1
       rw [Array.getElem?_setIfInBounds_self_of_lt (by simp;omega),Array.getElem?_setIfInBounds_ne hji,Array.getElem?_setIfInBounds_self_of_lt (by omega)]
      ·by_cases q2:j=k
       ·subst q2
        rw [Array.getElem?_setIfInBounds_ne q1,Array.getElem?_setIfInBounds_self_of_lt (by omega),Array.getElem?_setIfInBounds_self_of_lt (by simp;omega)]
       ·rw [Array.getElem?_setIfInBounds_ne q1,Array.getElem?_setIfInBounds_ne q2,Array.getElem?_setIfInBounds_ne q2,Array.getElem?_setIfInBounds_ne q1]
     rw [this];exact g3
 exact main m D L hC hv hfo' h
end
end Go.Lg
end
section
set_option linter.unusedVariables false
set_option linter.unusedSimpArgs false
set_option maxHeartbeats 8000000
set_option maxRecDepth 100000
attribute [local irreducible] Go.Lg.opsL Go.Lg.wpL Go.Lg.thenL Go.Lg.blockL
namespace Go.Proofs.YtfpdccbgngdhkaaGreat
open Go.Lg
def swR (V:Nat) (rows:List (List PoR)):List (List PoR):=(List.range (V+1)).map fun j=>rows.map fun r=>r.getD j default
theorem swR_len (V:Nat) (rows:List (List PoR)):(swR V rows).length=V+1:=by simp [swR]
theorem swR_at {V:Nat} (rows:List (List PoR)) {j:Nat} (h:j<V+1):(swR V rows)[j]?=some (rows.map fun r=>r.getD j default):=by
 rw [swR,List.getElem?_map,List.getElem?_range h];rfl
theorem swR_getD {V:Nat} (rows:List (List PoR)) {j:Nat} (h:j<V+1):(swR V rows).getD j []=rows.map fun r=>r.getD j default:=by
 rw [List.getD_eq_getElem?_getD,swR_at rows h];rfl
theorem swR_take {V:Nat} (rows:List (List PoR)) {j:Nat} (h:j<V+1):(swR V rows).take j++[rows.map fun r=>r.getD j default]=(swR V rows).take (j+1):=by
 rw [List.take_add_one,swR_at rows h];rfl
theorem mapT {α β:Type} [Inhabited α] (f:α→β) (l:List α) (d:α) {i:Nat} (h:i<l.length):(l.map f).take i++[f (l.getD i d)]=(l.map f).take (i+1):=by
 rw [List.take_add_one,List.getElem?_map,List.getD_eq_getElem?_getD,List.getElem?_eq_getElem h];rfl
theorem swR_pf {R U V:Nat} {rows:List (List PoR)} (h:pf R U V rows):pf R V U (swR V rows) where
 r1:=h.r1
 rB:=h.rB
 u1:=h.v1
 u3:=h.v3
 v1:=h.u1
 v3:=h.u3
 n:=swR_len ..
 m:=fun r hr=>by
  obtain⟨j,_,rfl⟩:=List.mem_map.1 hr
  rw [List.length_map,h.n]
 ok:=fun r hr q hq=>by
  obtain⟨j,hj,rfl⟩:=List.mem_map.1 hr
  obtain⟨r',hr',rfl⟩:=List.mem_map.1 hq
  have hj2:j<r'.length:=by rw [h.m r' hr'];exact List.mem_range.1 hj
  exact h.ok r' hr' _ (getD_memP hj2)
namespace H_c_FSwap
theorem zSm {p q:Prop} (k:q) (e:p=q:=by simp only [e1,e2,e3,e4,p1,p2,p3,q1,q2,q3,l1,t0,t1,r1,r2,r3,r4,Nat.zero_add,Nat.reduceMul,Nat.reduceAdd,b1,b2,b3,b4,b5,b6,i1,i2,i3,i4,i5,i6,Nat.reduceBEq,prL,etk,eto,esw,egr,kills_map ratE,kills_map prE,List.length_map,List.take_nil,List.nil_append,len_snoc,prL_kill,kills_map prE,dfr,dfq,take_map_len,map_snoc,len_snoc,List.length_cons,List.length_nil,List.nil_append,List.map_nil,List.take_nil,List.append_nil,List.set_cons_zero,List.set_cons_succ,Nat.reduceEqDiff,reduceIte,if_true,if_false,ptL_kill,poL_kill,kills_map ptE,kills_map poE,kills_map ratE,ratL_kill,spL_kill,LV.kill,kills];exact rfl):p:=e.mpr k
end H_c_FSwap
open H_c_FSwap in
theorem c_FSwap (R U V:Nat) (kU kV:List Rat) (rows:List (List PoR)) (h:pf R U V rows) (hku:kU.length≤100) (hkv:kV.length≤100):CallP Tryz.prog 15 [.agg [nI64 U,nI64 V,.list 3 (kU.map ratL),.list 3 (kV.map ratL),.list 1 (rows.map prL)]] (.agg [nI64 V,nI64 U,.list 3 (kV.map ratL),.list 3 (kU.map ratL),.list 1 ((swR V rows).map prL)]):=by
 have hsp:LV.pure (.agg [nI64 U,nI64 V,.list 3 (kU.map ratL),.list 3 (kV.map ratL),.list 1 (rows.map prL)])=true:=by simp [LV.pure,pures,pures_map ratE,pures_map prE]
 have hpv:=pures_map ratE kV
 have hpu:=pures_map ratE kU
 have hpr:=pures_map prE rows
 have hu3:=h.u3
 have hv3:=h.v3
 have hrn:=h.n
 have hr0:=h.r0 (Nat.zero_le U)
 have hsl:=swR_len V rows
 refine fnP Tryz.func15 (ht:=(fun g=>LV.ren_pure g _ (by simp [LV.pure,pures,pures_map ratE,pures_map prE]))) ?_
 have etk:True:=trivial
 have eto:True:=trivial
 have esw:True:=trivial
 have egr:True:=trivial
 refine zg7 ?_
 refine wl_cut (fun L=>∃  (L1:St),(True)∧L=((((St.mk L1.slot (hp [(2,⟨5,[.agg [.v (.int .i64 0),.v (.int .i64 0),.v (.slice none 0 0),.v (.slice none 0 0),.v (.slice none 0 0)]],true⟩),(3,⟨5,[.agg [nI64 V,nI64 U,.ref 11 3 0 kV.length,.ref 15 3 0 kU.length,.v (.slice none 0 0)]],true⟩),(11,⟨3,kV.map ratL,true⟩),(15,⟨3,kU.map ratL,true⟩)])).put (some 1) (.boxp (.agg [nI64 U,nI64 V,.list 3 (kU.map ratL),.list 3 (kV.map ratL),.list 1 (rows.map prL)]))).put (some 2) (.eptr 2 5 0 0)).put (some 3) (.eptr 3 5 0 0))) ?_ ?_
 ·refine wl_regAW (Weak.boxp (t:=1) (b:=1) rfl rfl cs rfl hsp) ?_
  refine any_hoistW 0 rfl rfl (by decide +kernel) faA fmV fmA ?_
  refine any_hoistW 1 rfl rfl (by decide +kernel) ldA fmV fmA ?_
  refine any_hoistW 2 rfl rfl (by decide +kernel) faA fmV fmA ?_
  refine any_hoistW 3 rfl rfl (by decide +kernel) ldA fmV fmA ?_
  refine any_hoistW 5 rfl rfl (by decide +kernel) faA fmV fmA ?_
  refine any_hoistW 6 rfl rfl (by decide +kernel) (.ldbx rfl (pure_lst ratE 3 kV) rfl rfl) fmV fmA ?_
  refine any_hoistW 9 rfl rfl (by decide +kernel) faA fmV fmA ?_
  refine any_hoistW 10 rfl rfl (by decide +kernel) (.ldbx rfl (pure_lst ratE 3 kU) rfl rfl) fmV fmA ?_
  refine any_3 4 8 13 _ _ _ (by decide +kernel) rfl rfl rfl ?_ ?_ ?_
  ·refine zg1 ?_
   refine st_nil ?_
   refine any_3 7 8 13 _ _ _ (by decide +kernel) rfl rfl rfl ?_ ?_ ?_
   ·refine st_store rfl (.appX (d:=11) (news:=kV.map ratL) rfl rfl rfl rfl (by simp) (.inl rfl) (by decide) Tryz.underlying36 Tryz.underlying36 Z29a T29 rfl B29 (.inr (.inl rfl)) (by simp;omega) (by simp;omega) (by decide)) ?_
    refine st_nil ?_
    refine any_2 8 13 _ _ (by decide +kernel) rfl rfl ?_ ?_
    ·refine zg1 ?_
     refine st_nil ?_
     refine any_2 11 13 _ _ (by decide +kernel) rfl rfl ?_ ?_
     ·refine st_store rfl (.appX (d:=15) (news:=kU.map ratL) rfl rfl rfl rfl (by simp) (.inl rfl) (by decide) Tryz.underlying36 Tryz.underlying36 Z29a T29 rfl B29 (.inr (.inl rfl)) (by simp;omega) (by simp;omega) (by decide)) ?_
      refine st_nil ?_
      refine any_2 12 13 _ _ (by decide +kernel) rfl rfl ?_ ?_
      ·refine zg1 ?_
       refine st_nil ?_
       refine any_1 13 _ (by decide +kernel) rfl ?_
       refine zg1 ?_
       refine st_nil ?_
       refine any_1 14 _ (by decide +kernel) rfl ?_
       refine zg1 ?_
       refine st_nil ?_
       refine any_0 (by decide +kernel) ?_
       refine zg1 ?_
       exact⟨_,trivial,((put_id' (put_id' (put_id' (mk_id' (by first | exact cl | (refine zSm ?_;refine hp_ext ?_ ?_<;>repeat (first | exact trivial | refine And.intro rfl ?_)))) cl) cl) cl)).symm⟩
      ·refine zg1 ?_
       refine st_nil ?_
       refine any_1 12 _ (by decide +kernel) rfl ?_
       refine zg1 ?_
       refine st_nil ?_
       refine any_1 14 _ (by decide +kernel) rfl ?_
       refine zg1 ?_
       refine st_nil ?_
       refine any_0 (by decide +kernel) ?_
       refine zg1 ?_
       exact⟨_,trivial,((put_id' (put_id' (put_id' (mk_id' (by first | exact cl | (refine zSm ?_;refine hp_ext ?_ ?_<;>repeat (first | exact trivial | refine And.intro rfl ?_)))) cl) cl) cl)).symm⟩
     ·refine zg1 ?_
      refine st_nil ?_
      refine any_1 11 _ (by decide +kernel) rfl ?_
      refine st_store rfl (.appX (d:=15) (news:=kU.map ratL) rfl rfl rfl rfl (by simp) (.inl rfl) (by decide) Tryz.underlying36 Tryz.underlying36 Z29a T29 rfl B29 (.inr (.inl rfl)) (by simp;omega) (by simp;omega) (by decide)) ?_
      refine st_nil ?_
      refine any_1 12 _ (by decide +kernel) rfl ?_
      refine zg1 ?_
      refine st_nil ?_
      refine any_1 14 _ (by decide +kernel) rfl ?_
      refine zg1 ?_
      refine st_nil ?_
      refine any_0 (by decide +kernel) ?_
      refine zg1 ?_
      exact⟨_,trivial,((put_id' (put_id' (put_id' (mk_id' (by first | exact cl | (refine zSm ?_;refine hp_ext ?_ ?_<;>repeat (first | exact trivial | refine And.intro rfl ?_)))) cl) cl) cl)).symm⟩
    ·refine zg1 ?_
     refine st_nil ?_
     refine any_1 8 _ (by decide +kernel) rfl ?_
     refine zg1 ?_
     refine st_nil ?_
     refine any_1 11 _ (by decide +kernel) rfl ?_
     refine st_store rfl (.appX (d:=15) (news:=kU.map ratL) rfl rfl rfl rfl (by simp) (.inl rfl) (by decide) Tryz.underlying36 Tryz.underlying36 Z29a T29 rfl B29 (.inr (.inl rfl)) (by simp;omega) (by simp;omega) (by decide)) ?_
     refine st_nil ?_
     refine any_1 12 _ (by decide +kernel) rfl ?_
     refine zg1 ?_
     refine st_nil ?_
     refine any_1 14 _ (by decide +kernel) rfl ?_
     refine zg1 ?_
     refine st_nil ?_
     refine any_0 (by decide +kernel) ?_
     refine zg1 ?_
     exact⟨_,trivial,((put_id' (put_id' (put_id' (mk_id' (by first | exact cl | (refine zSm ?_;refine hp_ext ?_ ?_<;>repeat (first | exact trivial | refine And.intro rfl ?_)))) cl) cl) cl)).symm⟩
   ·refine zg1 ?_
    refine st_nil ?_
    refine any_2 7 13 _ _ (by decide +kernel) rfl rfl ?_ ?_
    ·refine st_store rfl (.appX (d:=11) (news:=kV.map ratL) rfl rfl rfl rfl (by simp) (.inl rfl) (by decide) Tryz.underlying36 Tryz.underlying36 Z29a T29 rfl B29 (.inr (.inl rfl)) (by simp;omega) (by simp;omega) (by decide)) ?_
     refine st_nil ?_
     refine any_2 11 13 _ _ (by decide +kernel) rfl rfl ?_ ?_
     ·refine st_store rfl (.appX (d:=15) (news:=kU.map ratL) rfl rfl rfl rfl (by simp) (.inl rfl) (by decide) Tryz.underlying36 Tryz.underlying36 Z29a T29 rfl B29 (.inr (.inl rfl)) (by simp;omega) (by simp;omega) (by decide)) ?_
      refine st_nil ?_
      refine any_2 12 13 _ _ (by decide +kernel) rfl rfl ?_ ?_
      ·refine zg1 ?_
       refine st_nil ?_
       refine any_1 13 _ (by decide +kernel) rfl ?_
       refine zg1 ?_
       refine st_nil ?_
       refine any_1 14 _ (by decide +kernel) rfl ?_
       refine zg1 ?_
       refine st_nil ?_
       refine any_0 (by decide +kernel) ?_
       refine zg1 ?_
       exact⟨_,trivial,((put_id' (put_id' (put_id' (mk_id' (by first | exact cl | (refine zSm ?_;refine hp_ext ?_ ?_<;>repeat (first | exact trivial | refine And.intro rfl ?_)))) cl) cl) cl)).symm⟩
      ·refine zg1 ?_
       refine st_nil ?_
       refine any_1 12 _ (by decide +kernel) rfl ?_
       refine zg1 ?_
       refine st_nil ?_
       refine any_1 14 _ (by decide +kernel) rfl ?_
       refine zg1 ?_
       refine st_nil ?_
       refine any_0 (by decide +kernel) ?_
       refine zg1 ?_
       exact⟨_,trivial,((put_id' (put_id' (put_id' (mk_id' (by first | exact cl | (refine zSm ?_;refine hp_ext ?_ ?_<;>repeat (first | exact trivial | refine And.intro rfl ?_)))) cl) cl) cl)).symm⟩
     ·refine zg1 ?_
      refine st_nil ?_
      refine any_1 11 _ (by decide +kernel) rfl ?_
      refine st_store rfl (.appX (d:=15) (news:=kU.map ratL) rfl rfl rfl rfl (by simp) (.inl rfl) (by decide) Tryz.underlying36 Tryz.underlying36 Z29a T29 rfl B29 (.inr (.inl rfl)) (by simp;omega) (by simp;omega) (by decide)) ?_
      refine st_nil ?_
      refine any_1 12 _ (by decide +kernel) rfl ?_
      refine zg1 ?_
      refine st_nil ?_
      refine any_1 14 _ (by decide +kernel) rfl ?_
      refine zg1 ?_
      refine st_nil ?_
      refine any_0 (by decide +kernel) ?_
      refine zg1 ?_
      exact⟨_,trivial,((put_id' (put_id' (put_id' (mk_id' (by first | exact cl | (refine zSm ?_;refine hp_ext ?_ ?_<;>repeat (first | exact trivial | refine And.intro rfl ?_)))) cl) cl) cl)).symm⟩
    ·refine zg1 ?_
     refine st_nil ?_
     refine any_1 7 _ (by decide +kernel) rfl ?_
     refine st_store rfl (.appX (d:=11) (news:=kV.map ratL) rfl rfl rfl rfl (by simp) (.inl rfl) (by decide) Tryz.underlying36 Tryz.underlying36 Z29a T29 rfl B29 (.inr (.inl rfl)) (by simp;omega) (by simp;omega) (by decide)) ?_
     refine st_nil ?_
     refine any_1 11 _ (by decide +kernel) rfl ?_
     refine st_store rfl (.appX (d:=15) (news:=kU.map ratL) rfl rfl rfl rfl (by simp) (.inl rfl) (by decide) Tryz.underlying36 Tryz.underlying36 Z29a T29 rfl B29 (.inr (.inl rfl)) (by simp;omega) (by simp;omega) (by decide)) ?_
     refine st_nil ?_
     refine any_1 12 _ (by decide +kernel) rfl ?_
     refine zg1 ?_
     refine st_nil ?_
     refine any_1 14 _ (by decide +kernel) rfl ?_
     refine zg1 ?_
     refine st_nil ?_
     refine any_0 (by decide +kernel) ?_
     refine zg1 ?_
     exact⟨_,trivial,((put_id' (put_id' (put_id' (mk_id' (by first | exact cl | (refine zSm ?_;refine hp_ext ?_ ?_<;>repeat (first | exact trivial | refine And.intro rfl ?_)))) cl) cl) cl)).symm⟩
   ·refine zg1 ?_
    refine st_nil ?_
    refine any_2 7 8 _ _ (by decide +kernel) rfl rfl ?_ ?_
    ·refine st_store rfl (.appX (d:=11) (news:=kV.map ratL) rfl rfl rfl rfl (by simp) (.inl rfl) (by decide) Tryz.underlying36 Tryz.underlying36 Z29a T29 rfl B29 (.inr (.inl rfl)) (by simp;omega) (by simp;omega) (by decide)) ?_
     refine st_nil ?_
     refine any_1 8 _ (by decide +kernel) rfl ?_
     refine zg1 ?_
     refine st_nil ?_
     refine any_1 11 _ (by decide +kernel) rfl ?_
     refine st_store rfl (.appX (d:=15) (news:=kU.map ratL) rfl rfl rfl rfl (by simp) (.inl rfl) (by decide) Tryz.underlying36 Tryz.underlying36 Z29a T29 rfl B29 (.inr (.inl rfl)) (by simp;omega) (by simp;omega) (by decide)) ?_
     refine st_nil ?_
     refine any_1 12 _ (by decide +kernel) rfl ?_
     refine zg1 ?_
     refine st_nil ?_
     refine any_1 14 _ (by decide +kernel) rfl ?_
     refine zg1 ?_
     refine st_nil ?_
     refine any_0 (by decide +kernel) ?_
     refine zg1 ?_
     exact⟨_,trivial,((put_id' (put_id' (put_id' (mk_id' (by first | exact cl | (refine zSm ?_;refine hp_ext ?_ ?_<;>repeat (first | exact trivial | refine And.intro rfl ?_)))) cl) cl) cl)).symm⟩
    ·refine zg1 ?_
     refine st_nil ?_
     refine any_1 7 _ (by decide +kernel) rfl ?_
     refine st_store rfl (.appX (d:=11) (news:=kV.map ratL) rfl rfl rfl rfl (by simp) (.inl rfl) (by decide) Tryz.underlying36 Tryz.underlying36 Z29a T29 rfl B29 (.inr (.inl rfl)) (by simp;omega) (by simp;omega) (by decide)) ?_
     refine st_nil ?_
     refine any_1 11 _ (by decide +kernel) rfl ?_
     refine st_store rfl (.appX (d:=15) (news:=kU.map ratL) rfl rfl rfl rfl (by simp) (.inl rfl) (by decide) Tryz.underlying36 Tryz.underlying36 Z29a T29 rfl B29 (.inr (.inl rfl)) (by simp;omega) (by simp;omega) (by decide)) ?_
     refine st_nil ?_
     refine any_1 12 _ (by decide +kernel) rfl ?_
     refine zg1 ?_
     refine st_nil ?_
     refine any_1 14 _ (by decide +kernel) rfl ?_
     refine zg1 ?_
     refine st_nil ?_
     refine any_0 (by decide +kernel) ?_
     refine zg1 ?_
     exact⟨_,trivial,((put_id' (put_id' (put_id' (mk_id' (by first | exact cl | (refine zSm ?_;refine hp_ext ?_ ?_<;>repeat (first | exact trivial | refine And.intro rfl ?_)))) cl) cl) cl)).symm⟩
  ·refine zg1 ?_
   refine st_nil ?_
   refine any_2 4 13 _ _ (by decide +kernel) rfl rfl ?_ ?_
   ·refine zg1 ?_
    refine st_nil ?_
    refine any_2 7 13 _ _ (by decide +kernel) rfl rfl ?_ ?_
    ·refine st_store rfl (.appX (d:=11) (news:=kV.map ratL) rfl rfl rfl rfl (by simp) (.inl rfl) (by decide) Tryz.underlying36 Tryz.underlying36 Z29a T29 rfl B29 (.inr (.inl rfl)) (by simp;omega) (by simp;omega) (by decide)) ?_
     refine st_nil ?_
     refine any_2 11 13 _ _ (by decide +kernel) rfl rfl ?_ ?_
     ·refine st_store rfl (.appX (d:=15) (news:=kU.map ratL) rfl rfl rfl rfl (by simp) (.inl rfl) (by decide) Tryz.underlying36 Tryz.underlying36 Z29a T29 rfl B29 (.inr (.inl rfl)) (by simp;omega) (by simp;omega) (by decide)) ?_
      refine st_nil ?_
      refine any_2 12 13 _ _ (by decide +kernel) rfl rfl ?_ ?_
      ·refine zg1 ?_
       refine st_nil ?_
       refine any_1 13 _ (by decide +kernel) rfl ?_
       refine zg1 ?_
       refine st_nil ?_
       refine any_1 14 _ (by decide +kernel) rfl ?_
       refine zg1 ?_
       refine st_nil ?_
       refine any_0 (by decide +kernel) ?_
       refine zg1 ?_
       exact⟨_,trivial,((put_id' (put_id' (put_id' (mk_id' (by first | exact cl | (refine zSm ?_;refine hp_ext ?_ ?_<;>repeat (first | exact trivial | refine And.intro rfl ?_)))) cl) cl) cl)).symm⟩
      ·refine zg1 ?_
       refine st_nil ?_
       refine any_1 12 _ (by decide +kernel) rfl ?_
       refine zg1 ?_
       refine st_nil ?_
       refine any_1 14 _ (by decide +kernel) rfl ?_
       refine zg1 ?_
       refine st_nil ?_
       refine any_0 (by decide +kernel) ?_
       refine zg1 ?_
       exact⟨_,trivial,((put_id' (put_id' (put_id' (mk_id' (by first | exact cl | (refine zSm ?_;refine hp_ext ?_ ?_<;>repeat (first | exact trivial | refine And.intro rfl ?_)))) cl) cl) cl)).symm⟩
     ·refine zg1 ?_
      refine st_nil ?_
      refine any_1 11 _ (by decide +kernel) rfl ?_
      refine st_store rfl (.appX (d:=15) (news:=kU.map ratL) rfl rfl rfl rfl (by simp) (.inl rfl) (by decide) Tryz.underlying36 Tryz.underlying36 Z29a T29 rfl B29 (.inr (.inl rfl)) (by simp;omega) (by simp;omega) (by decide)) ?_
      refine st_nil ?_
      refine any_1 12 _ (by decide +kernel) rfl ?_
      refine zg1 ?_
      refine st_nil ?_
      refine any_1 14 _ (by decide +kernel) rfl ?_
      refine zg1 ?_
      refine st_nil ?_
      refine any_0 (by decide +kernel) ?_
      refine zg1 ?_
      exact⟨_,trivial,((put_id' (put_id' (put_id' (mk_id' (by first | exact cl | (refine zSm ?_;refine hp_ext ?_ ?_<;>repeat (first | exact trivial | refine And.intro rfl ?_)))) cl) cl) cl)).symm⟩
    ·refine zg1 ?_
     refine st_nil ?_
     refine any_1 7 _ (by decide +kernel) rfl ?_
     refine st_store rfl (.appX (d:=11) (news:=kV.map ratL) rfl rfl rfl rfl (by simp) (.inl rfl) (by decide) Tryz.underlying36 Tryz.underlying36 Z29a T29 rfl B29 (.inr (.inl rfl)) (by simp;omega) (by simp;omega) (by decide)) ?_
     refine st_nil ?_
     refine any_1 11 _ (by decide +kernel) rfl ?_
     refine st_store rfl (.appX (d:=15) (news:=kU.map ratL) rfl rfl rfl rfl (by simp) (.inl rfl) (by decide) Tryz.underlying36 Tryz.underlying36 Z29a T29 rfl B29 (.inr (.inl rfl)) (by simp;omega) (by simp;omega) (by decide)) ?_
     refine st_nil ?_
     refine any_1 12 _ (by decide +kernel) rfl ?_
     refine zg1 ?_
     refine st_nil ?_
     refine any_1 14 _ (by decide +kernel) rfl ?_
     refine zg1 ?_
     refine st_nil ?_
     refine any_0 (by decide +kernel) ?_
     refine zg1 ?_
     exact⟨_,trivial,((put_id' (put_id' (put_id' (mk_id' (by first | exact cl | (refine zSm ?_;refine hp_ext ?_ ?_<;>repeat (first | exact trivial | refine And.intro rfl ?_)))) cl) cl) cl)).symm⟩
   ·refine zg1 ?_
    refine st_nil ?_
    refine any_1 4 _ (by decide +kernel) rfl ?_
    refine zg1 ?_
    refine st_nil ?_
    refine any_1 7 _ (by decide +kernel) rfl ?_
    refine st_store rfl (.appX (d:=11) (news:=kV.map ratL) rfl rfl rfl rfl (by simp) (.inl rfl) (by decide) Tryz.underlying36 Tryz.underlying36 Z29a T29 rfl B29 (.inr (.inl rfl)) (by simp;omega) (by simp;omega) (by decide)) ?_
    refine st_nil ?_
    refine any_1 11 _ (by decide +kernel) rfl ?_
    refine st_store rfl (.appX (d:=15) (news:=kU.map ratL) rfl rfl rfl rfl (by simp) (.inl rfl) (by decide) Tryz.underlying36 Tryz.underlying36 Z29a T29 rfl B29 (.inr (.inl rfl)) (by simp;omega) (by simp;omega) (by decide)) ?_
    refine st_nil ?_
    refine any_1 12 _ (by decide +kernel) rfl ?_
    refine zg1 ?_
    refine st_nil ?_
    refine any_1 14 _ (by decide +kernel) rfl ?_
    refine zg1 ?_
    refine st_nil ?_
    refine any_0 (by decide +kernel) ?_
    refine zg1 ?_
    exact⟨_,trivial,((put_id' (put_id' (put_id' (mk_id' (by first | exact cl | (refine zSm ?_;refine hp_ext ?_ ?_<;>repeat (first | exact trivial | refine And.intro rfl ?_)))) cl) cl) cl)).symm⟩
  ·refine zg1 ?_
   refine st_nil ?_
   refine any_2 4 8 _ _ (by decide +kernel) rfl rfl ?_ ?_
   ·refine zg1 ?_
    refine st_nil ?_
    refine any_2 7 8 _ _ (by decide +kernel) rfl rfl ?_ ?_
    ·refine st_store rfl (.appX (d:=11) (news:=kV.map ratL) rfl rfl rfl rfl (by simp) (.inl rfl) (by decide) Tryz.underlying36 Tryz.underlying36 Z29a T29 rfl B29 (.inr (.inl rfl)) (by simp;omega) (by simp;omega) (by decide)) ?_
     refine st_nil ?_
     refine any_1 8 _ (by decide +kernel) rfl ?_
     refine zg1 ?_
     refine st_nil ?_
     refine any_1 11 _ (by decide +kernel) rfl ?_
     refine st_store rfl (.appX (d:=15) (news:=kU.map ratL) rfl rfl rfl rfl (by simp) (.inl rfl) (by decide) Tryz.underlying36 Tryz.underlying36 Z29a T29 rfl B29 (.inr (.inl rfl)) (by simp;omega) (by simp;omega) (by decide)) ?_
     refine st_nil ?_
     refine any_1 12 _ (by decide +kernel) rfl ?_
     refine zg1 ?_
     refine st_nil ?_
     refine any_1 14 _ (by decide +kernel) rfl ?_
     refine zg1 ?_
     refine st_nil ?_
     refine any_0 (by decide +kernel) ?_
     refine zg1 ?_
     exact⟨_,trivial,((put_id' (put_id' (put_id' (mk_id' (by first | exact cl | (refine zSm ?_;refine hp_ext ?_ ?_<;>repeat (first | exact trivial | refine And.intro rfl ?_)))) cl) cl) cl)).symm⟩
    ·refine zg1 ?_
     refine st_nil ?_
     refine any_1 7 _ (by decide +kernel) rfl ?_
     refine st_store rfl (.appX (d:=11) (news:=kV.map ratL) rfl rfl rfl rfl (by simp) (.inl rfl) (by decide) Tryz.underlying36 Tryz.underlying36 Z29a T29 rfl B29 (.inr (.inl rfl)) (by simp;omega) (by simp;omega) (by decide)) ?_
     refine st_nil ?_
     refine any_1 11 _ (by decide +kernel) rfl ?_
     refine st_store rfl (.appX (d:=15) (news:=kU.map ratL) rfl rfl rfl rfl (by simp) (.inl rfl) (by decide) Tryz.underlying36 Tryz.underlying36 Z29a T29 rfl B29 (.inr (.inl rfl)) (by simp;omega) (by simp;omega) (by decide)) ?_
     refine st_nil ?_
     refine any_1 12 _ (by decide +kernel) rfl ?_
     refine zg1 ?_
     refine st_nil ?_
     refine any_1 14 _ (by decide +kernel) rfl ?_
     refine zg1 ?_
     refine st_nil ?_
     refine any_0 (by decide +kernel) ?_
     refine zg1 ?_
     exact⟨_,trivial,((put_id' (put_id' (put_id' (mk_id' (by first | exact cl | (refine zSm ?_;refine hp_ext ?_ ?_<;>repeat (first | exact trivial | refine And.intro rfl ?_)))) cl) cl) cl)).symm⟩
   ·refine zg1 ?_
    refine st_nil ?_
    refine any_1 4 _ (by decide +kernel) rfl ?_
    refine zg1 ?_
    refine st_nil ?_
    refine any_1 7 _ (by decide +kernel) rfl ?_
    refine st_store rfl (.appX (d:=11) (news:=kV.map ratL) rfl rfl rfl rfl (by simp) (.inl rfl) (by decide) Tryz.underlying36 Tryz.underlying36 Z29a T29 rfl B29 (.inr (.inl rfl)) (by simp;omega) (by simp;omega) (by decide)) ?_
    refine st_nil ?_
    refine any_1 11 _ (by decide +kernel) rfl ?_
    refine st_store rfl (.appX (d:=15) (news:=kU.map ratL) rfl rfl rfl rfl (by simp) (.inl rfl) (by decide) Tryz.underlying36 Tryz.underlying36 Z29a T29 rfl B29 (.inr (.inl rfl)) (by simp;omega) (by simp;omega) (by decide)) ?_
    refine st_nil ?_
    refine any_1 12 _ (by decide +kernel) rfl ?_
    refine zg1 ?_
    refine st_nil ?_
    refine any_1 14 _ (by decide +kernel) rfl ?_
    refine zg1 ?_
    refine st_nil ?_
    refine any_0 (by decide +kernel) ?_
    refine zg1 ?_
    exact⟨_,trivial,((put_id' (put_id' (put_id' (mk_id' (by first | exact cl | (refine zSm ?_;refine hp_ext ?_ ?_<;>repeat (first | exact trivial | refine And.intro rfl ?_)))) cl) cl) cl)).symm⟩
 ·rintro _ ⟨LR1,-,rfl⟩
  refine zg8 ?_
  refine wl_weak ((Weak.cell 3 rfl (fun Z μ w cs h=>rep_srf 100 1 _ _ _ _ Z μ w cs h)).trans (Weak.newB _ 100 1 rfl)) ?_
  refine lp1 (fun(j:Nat) L=>(((((St.mk L.slot (hp [(2,⟨5,[.agg [.v (.int .i64 0),.v (.int .i64 0),.v (.slice none 0 0),.v (.slice none 0 0),.v (.slice none 0 0)]],true⟩),(3,⟨5,[.agg [nI64 V,nI64 U,.ref 11 3 0 kV.length,.ref 15 3 0 kU.length,.ref 100 1 0 j]],true⟩),(11,⟨3,kV.map ratL,true⟩),(15,⟨3,kU.map ratL,true⟩),(100,⟨1,((swR V rows).take j).map prL,true⟩)])).put (some 1) (.boxp (.agg [nI64 U,nI64 V,.list 3 (kU.map ratL),.list 3 (kV.map ratL),.list 1 (rows.map prL)]))).put (some 2) (.eptr 2 5 0 0)).put (some 3) (.eptr 3 5 0 0)).put (some 4) (nI64 j))) (fun j=>j≤V+1) (fun j=>V+1-j) 0 (Nat.zero_le _) ?_
  rintro j L1 hj
  refine zg12 ?_
  refine wl_if rfl (fun h26r h26=>?_) (fun h26r h26=>?_)
  ·have hj2:j<V+1:=by omega
   have eto:(((swR V rows).take j).map prL).take j=((swR V rows).take j).map prL:=List.take_of_length_le (by simp;omega)
   have esw:((swR V rows).take j).map prL++[LV.list 12 ((rows.map fun r=>r.getD j default).map poL)]=((swR V rows).take (j+1)).map prL:=by
    show ((swR V rows).take j).map prL++[prL (rows.map fun r=>r.getD j default)]=_
    rw [map_snoc,swR_take rows hj2]
   refine zg16 ?_
   refine wl_weak (Weak.own (t:=5) 95 12 rfl rfl) ?_
   refine lp1 (fun(i:Nat) L=>(((((((St.mk L.slot (hp [(2,⟨5,[.agg [.v (.int .i64 0),.v (.int .i64 0),.v (.slice none 0 0),.v (.slice none 0 0),.v (.slice none 0 0)]],true⟩),(3,⟨5,[.agg [nI64 V,nI64 U,.ref 11 3 0 kV.length,.ref 15 3 0 kU.length,.ref 100 1 0 j]],true⟩),(11,⟨3,kV.map ratL,true⟩),(15,⟨3,kU.map ratL,true⟩),(100,⟨1,((swR V rows).take j).map prL,true⟩),(95,⟨12,((rows.map fun r=>r.getD j default).take i).map poL,true⟩)])).put (some 1) (.boxp (.agg [nI64 U,nI64 V,.list 3 (kU.map ratL),.list 3 (kV.map ratL),.list 1 (rows.map prL)]))).put (some 2) (.eptr 2 5 0 0)).put (some 3) (.eptr 3 5 0 0)).put (some 4) (nI64 j)).put (some 5) (.ref 95 12 0 i)).put (some 6) (nI64 i))) (fun i=>i≤U+1) (fun i=>U+1-i) 0 (Nat.zero_le _) ?_
   rintro i L2 hi
   refine zg10 ?_
   refine wl_if rfl (fun h33r h33=>?_) (fun h33r h33=>?_)
   ·have hi2:i<U+1:=by omega
    have hri:=h.r0 (Nat.le_of_lt_succ hi2)
    have etk:(((rows.map fun r=>r.getD j default).take i).map poL).take i=((rows.map fun r=>r.getD j default).take i).map poL:=List.take_of_length_le (by simp;omega)
    have egr:=mapT (fun r:List PoR=>r.getD j default) rows [] (i:=i) (by omega)
    refine zg15 ?_
    refine st_store rfl (.appX (d:=95) (news:=[poL ((rows.getD i []).getD j default)]) rfl rfl rfl rfl (by simp;omega) (.inl rfl) (by decide) Tryz.underlying60 Tryz.underlying60 Z62 T62 cs B62 (.inl ⟨45,0,_,rfl,by decide,rfl,rfl,by simp,rfl,by simp [pures,poE.pure]⟩) (by simp;omega) (by simp;omega) (by decide)) ?_
    refine zg4 ?_
    refine wl_regW (Weak.kill _ 45) ?_
    refine zg1 ?_
    refine st_pure rfl (.bin rfl rfl (add1N (by omega))) ?_
    refine zg3 ?_
    exact nx1 (i+1) (by omega)
   ·obtain rfl:i=U+1:=by omega
    rw [(List.take_of_length_le (by rw [List.length_map];omega):(rows.map fun r=>r.getD j default).take (U+1)=(rows.map fun r=>r.getD j default))]
    refine zg5 ?_
    refine wl_regW (Weak.hand (t:=5) (b:=95) poE rfl rfl (by simp;omega)) ?_
    refine zg4 ?_
    refine st_store rfl (.appX (d:=100) (news:=[prL (rows.map fun r=>r.getD j default)]) rfl rfl rfl rfl (by simp only [kills_map prE,List.length_map,List.length_take,List.length_cons,List.length_nil];omega) (.inl rfl) (by decide) Tryz.underlying37 Tryz.underlying37 prZ T60 cs B60 (.inl ⟨50,0,_,rfl,by decide,rfl,rfl,by simp,rfl,by simp [pures,prE.pure]⟩) (by simp only [kills_map prE,List.length_map,List.length_take,List.length_cons,List.length_nil];omega) (by simp only [kills_map prE,List.length_map,List.length_take,List.length_cons,List.length_nil];omega) (by decide)) ?_
    refine zg5 ?_
    refine wl_regW (Weak.kill _ 50) ?_
    refine zg1 ?_
    refine st_pure rfl (.bin rfl rfl (add1N (by omega))) ?_
    refine zg3 ?_
    exact nx1 (j+1) (by omega)
  ·obtain rfl:j=V+1:=by omega
   rw [List.take_of_length_le (by omega:(swR V rows).length≤V+1)]
   refine zg12 ?_
   exact retC [11,15,100] rfl rfl rfl cs (at_all cs rfl) T39 (.agg (.cons (.pure rfl) (.cons (.pure rfl) (.cons (imm_refm ratE rfl rfl rfl) (.cons (imm_refm ratE rfl rfl rfl) (.cons (imm_refm prE rfl rfl (swR_len V rows).symm) .nil))))))
theorem rep_crv (d sz:Nat) (x y:LV) (Z:Nat→Prop) (μ:Nat→Option Nat) (w:World) (cs:List Value) (h:Rep Z μ w (.agg [x,y,.v (.slice none 0 0)]) cs):Rep Z μ w (.agg [x,y,.ref d sz 0 0]) cs:=by
 simp only [Rep,RepFs] at h ⊢
 obtain⟨c1,c2,e1,e2,e3,c3,c4,e4,e5,e6,c9,c10,g4,g5,g6,g7⟩:=h
 exact⟨c1,c2,e1,e2,e3,c3,c4,e4,e5,e6,c9,c10,g4,g5,.inl ⟨g6.1,trivial⟩,g7⟩
def isoP (po:List PoR) (x:Rat):PoR:=⟨evV po x,evP (wtP po) x⟩
theorem cvR.wp {po:List PoR} {d R:Nat} (h:cvR po d R) {x:Rat} (h0:0≤x) (h1:x≤1):0<evP (wtP po) x:=by
 have hl:=wtP_len po
 have hp:0<(wtP po).length:=by rw [hl,h.hl];omega
 have hb:=ev_bnd (p:=wtP po) h0 h1 hp
 unfold hasR at hb
 simp only [Bool.and_eq_true,decide_eq_true_eq] at hb
 refine lt_le_trans ?_ hb.1
 obtain⟨i,hi,e⟩:=((bk_spec (wtP po) (wtP po).length).2 hp).1
 show 0<(bkP (wtP po) (wtP po).length).1
 rw [e]
 obtain⟨q,hq,hw⟩:=List.mem_map.1 (getD_mem (p:=wtP po) hi)
 rw [←hw]
 exact(h.ok q hq).2.2
theorem iso_ok {po:List PoR} {d:Nat} (h:cvR po d 4) (hd:d≤3) {x:Rat} (hx:shX x) (h0:0≤x) (h1:x≤1):okP 600 (isoP po x):=by
 unfold shX at hx
 have hl:=h.hl
 have hp:2 ^ d≤8:=Nat.pow_le_pow_right (n:=2) (by decide) hd
 have hN:∀ k,rl (evP (nmP po k) x)≤224:=fun k=>by
  have:=ev_rl (p:=nmP po k) (t:=x) (R:=8) (by rw [nmP_len];omega) (by decide) (nmP_rl h.ok k)
  rw [nmP_len,hl,Nat.add_sub_cancel] at this
  refine Nat.le_trans this (Nat.le_trans (Nat.mul_le_mul (show _≤28 by omega) hp) (by decide))
 have hW:rl (evP (wtP po) x)≤192:=by
  have:=ev_rl (p:=wtP po) (t:=x) (R:=4) (by rw [wtP_len];omega) (by decide) (wtP_rl h.ok)
  rw [wtP_len,hl,Nat.add_sub_cancel] at this
  refine Nat.le_trans this (Nat.le_trans (Nat.mul_le_mul (show _≤24 by omega) hp) (by decide))
 have hI:=rl_div 1 (evP (wtP po) x)
 have h1r:rl 1=1:=rfl
 have m0:=rl_mul (1/evP (wtP po) x) (evP (nmP po 0) x)
 have m1:=rl_mul (1/evP (wtP po) x) (evP (nmP po 1) x)
 have m2:=rl_mul (1/evP (wtP po) x) (evP (nmP po 2) x)
 have n0:=hN 0
 have n1:=hN 1
 have n2:=hN 2
 refine⟨⟨?_,?_,?_⟩,?_,h.wp h0 h1⟩
 ·show rl (1/evP (wtP po) x*evP (nmP po 0) x)≤600
  omega
 ·show rl (1/evP (wtP po) x*evP (nmP po 1) x)≤600
  omega
 ·show rl (1/evP (wtP po) x*evP (nmP po 2) x)≤600
  omega
 ·show rl (evP (wtP po) x)≤600
  omega
theorem iso_nm {po:List PoR} {d R:Nat} (h:cvR po d R) {x:Rat} (h0:0≤x) (h1:x≤1) (k:Nat) (hk:k<3):(isoP po x).w*(isoP po x).p.at k=evP (nmP po k) x:=by
 have hw:evP (wtP po) x≠0:=fun e=>by
  have:=h.wp h0 h1
  rw [e] at this
  exact absurd this (by decide)
 have key:∀ a:Rat,evP (wtP po) x*(1/evP (wtP po) x*a)=a:=fun a=>by
  rw [←Rat.mul_assoc,Rat.div_def,Rat.one_mul,Rat.mul_inv_cancel _ hw,Rat.one_mul]
 rcases k with _ | _ | _ | k
 ·exact key _
 ·exact key _
 ·exact key _
 ·omega
theorem flat_get {m:Nat}:∀ {rows:List (List PoR)},(∀ r∈rows,r.length=m)→∀ i j,i<rows.length→j<m→rows.flatten.getD (i*m+j) default=(rows.getD i []).getD j default
 | [],_,i,j,hi,_=>absurd hi (by simp)
 | r :: rs,h,0,j,hi,hj=>by
  have hr:=h r (List.mem_cons_self ..)
  rw [List.flatten_cons,Nat.zero_mul,Nat.zero_add,List.getD_eq_getElem?_getD,List.getElem?_append_left (by omega)]
  rfl
 | r :: rs,h,i+1,j,hi,hj=>by
  have hr:=h r (List.mem_cons_self ..)
  rw [List.flatten_cons,List.getD_eq_getElem?_getD,List.getElem?_append_right (by rw [hr,Nat.succ_mul];omega),hr,show (i+1)*m+j-m=i*m+j by rw [Nat.succ_mul];omega,←List.getD_eq_getElem?_getD,
   flat_get (fun x hx=>h x (List.mem_cons_of_mem _ hx)) i j (by simpa using hi) hj]
  rfl
section
variable {R U V:Nat} {rows:List (List PoR)} (h:pf R U V rows)
include h
theorem pf.cv {i:Nat} (hi:i≤U):cvR (rows.getD i []) V R where
 hl:=h.r0 hi
 hd:=h.v1
 h6:=by have:=h.v3;omega
 ok:=fun q hq=>h.ok _ (getR_mem (by rw [h.n];omega)) q hq
theorem pcol_get {i j:Nat} (hi:i≤U) (hj:j≤V):((swR V rows).getD j []).getD i default=rows.flatten.getD (i*(V+1)+j) default:=by
 rw [flat_get h.m i j (by rw [h.n];omega) (by omega),swR_getD rows (by omega),List.getD_eq_getElem?_getD,List.getElem?_map,List.getD_eq_getElem?_getD (l:=rows),List.getElem?_eq_getElem (show i<rows.length by rw [h.n];omega)]
 rfl
theorem col_nm (k:Nat) {j:Nat} (hj:j≤V):nmP ((swR V rows).getD j []) k=rwL U (swL U V (nmP rows.flatten k)) j:=by
 have hl:=((swR_pf h).cv hj).hl
 refine ext0 (by rw [nmP_len,hl,rwL_len (swL_len U V _) hj]) fun i hi=>?_
 rw [nmP_len,hl] at hi
 rw [nm_get (by omega),rwL_get (swL_len U V _) hj (by omega),sw_get (by omega) hj,nm_get (by rw [h.len];exact ix_lt (by omega) hj),pcol_get h (by omega) hj]
theorem col_wt {j:Nat} (hj:j≤V):wtP ((swR V rows).getD j [])=rwL U (swL U V (wtP rows.flatten)) j:=by
 have hl:=((swR_pf h).cv hj).hl
 refine ext0 (by rw [wtP_len,hl,rwL_len (swL_len U V _) hj]) fun i hi=>?_
 rw [wtP_len,hl] at hi
 rw [wt_get (by omega),rwL_get (swL_len U V _) hj (by omega),sw_get (by omega) hj,wt_get (by rw [h.len];exact ix_lt (by omega) hj),pcol_get h (by omega) hj]
end
theorem rowT_get (U V:Nat) (c:List Rat) (u:Rat) {j:Nat} (hj:j≤V):(rowT U V c u).getD j 0=evP (rwL U (swL U V c) j) u:=by
 have:=rs_get (g:=fun p=>[evP p u]) (V:=U) (W:=0) (U:=V) (c:=swL U V c) (fun i hi=>rfl) (i:=j) (j:=0) (Nat.le_refl _) (n:=V+1) (Nat.le_refl _) (by omega)
 rw [show j*(0+1)+0=j by omega] at this
 rw [rowT,this];rfl
def isoL (V:Nat) (rows:List (List PoR)) (x:Rat):List PoR:=(swR V rows).map fun r=>isoP r x
theorem isoL_len (V:Nat) (rows:List (List PoR)) (x:Rat):(isoL V rows x).length=V+1:=by rw [isoL,List.length_map,swR_len]
theorem isoL_get (V:Nat) (rows:List (List PoR)) (x:Rat) {j:Nat} (hj:j≤V):(isoL V rows x).getD j default=isoP ((swR V rows).getD j []) x:=by
 rw [isoL,List.getD_eq_getElem?_getD,List.getElem?_map,swR_at rows (by omega),swR_getD rows (by omega)];rfl
theorem iso_rowW {R U V:Nat} {rows:List (List PoR)} (h:pf R U V rows) {x:Rat}:wtP (isoL V rows x)=rowT U V (wtP rows.flatten) x:=by
 refine ext0 (by rw [wtP_len,isoL_len,rowT_len]) fun j hj=>?_
 rw [wtP_len,isoL_len] at hj
 rw [wt_get (by rw [isoL_len];exact hj),isoL_get V rows x (by omega),rowT_get U V _ x (by omega),←col_wt h (by omega)]
 rfl
section
variable {R U V:Nat} {rows:List (List PoR)} (h:pf R U V rows) {x:Rat} (x0:0≤x) (x1:x≤1)
include h x0 x1
theorem iso_row (k:Nat) (hk:k<3):nmP (isoL V rows x) k=rowT U V (nmP rows.flatten k) x:=by
 refine ext0 (by rw [nmP_len,isoL_len,rowT_len]) fun j hj=>?_
 rw [nmP_len,isoL_len] at hj
 rw [nm_get (by rw [isoL_len];exact hj),isoL_get V rows x (by omega),iso_nm ((swR_pf h).cv (i:=j) (by omega)) x0 x1 k hk,col_nm h k (by omega),rowT_get U V _ x (by omega)]
theorem iso_ev (y:Rat):evV (isoL V rows x) y=peV U V rows.flatten x y:=by
 unfold evV peV evT
 rw [iso_row h x0 x1 0 (by decide),iso_row h x0 x1 1 (by decide),iso_row h x0 x1 2 (by decide),iso_rowW h]
end
theorem iso_cv {U V:Nat} {rows:List (List PoR)} (h:pf 4 U V rows) {x:Rat} (hx:shX x) (x0:0≤x) (x1:x≤1):cvR (isoL V rows x) V 600 where
 hl:=isoL_len ..
 hd:=h.v1
 h6:=by have:=h.v3;omega
 ok:=fun q hq=>by
  obtain⟨r,hr,rfl⟩:=List.mem_map.1 hq
  obtain⟨j,hj,e⟩:=List.getElem_of_mem hr
  have hs:=swR_len V rows
  have hc:=(swR_pf h).cv (i:=j) (by omega)
  rw [List.getD_eq_getElem?_getD,List.getElem?_eq_getElem hj,e] at hc
  exact iso_ok hc h.u3 hx x0 x1
namespace H_c_FRow
theorem zSm {p q:Prop} (k:q) (e:p=q:=by simp only [e1,e2,e3,e4,p1,p2,p3,q1,q2,q3,l1,t0,t1,r1,r2,r3,r4,Nat.zero_add,Nat.reduceMul,Nat.reduceAdd,b1,b2,b3,b4,b5,b6,i1,i2,i3,i4,i5,i6,Nat.reduceBEq,prL,prL_kill,kills_map prE,dfr,dfq,take_map_len,map_snoc,len_snoc,List.length_cons,List.length_nil,List.nil_append,List.map_nil,List.take_nil,List.append_nil,List.set_cons_zero,List.set_cons_succ,Nat.reduceEqDiff,reduceIte,if_true,if_false,ptL_kill,poL_kill,kills_map ptE,kills_map poE,kills_map ratE,ratL_kill,spL_kill,LV.kill,kills];exact rfl):p:=e.mpr k
end H_c_FRow
open H_c_FRow in
theorem c_FRow (U V:Nat) (kU kV:List Rat) (rows:List (List PoR)) (i:Nat) (hi:i<rows.length) (hn:rows.length≤100):CallP Tryz.prog 75 [.agg [nI64 U,nI64 V,.list 3 (kU.map ratL),.list 3 (kV.map ratL),.list 1 (rows.map prL)],nI64 i] (.agg [nI64 V,.list 3 (kV.map ratL),.list 12 ((rows.getD i []).map poL)]):=by
 have hsp:LV.pure (.agg [nI64 U,nI64 V,.list 3 (kU.map ratL),.list 3 (kV.map ratL),.list 1 (rows.map prL)])=true:=by simp [LV.pure,pures,pures_map ratE,pures_map prE]
 have hpv:=pures_map ratE kV
 have hpu:=pures_map ratE kU
 have hpr:=pures_map prE rows
 have hpo:=pures_map poE (rows.getD i [])
 have hcp:LV.pure (.agg [nI64 V,.list 3 (kV.map ratL),.list 12 ((rows.getD i []).map poL)])=true:=by simp [LV.pure,pures,pures_map ratE,pures_map poE]
 refine fnP Tryz.func75 (ht:=(fun g=>LV.ren_pure g _ (by simp [LV.pure,pures,pures_map ratE,pures_map poE]))) ?_
 refine zg7 ?_
 refine wl_regD 10 (by decide +kernel) ?_
 refine zg14 ?_
 exact retC [] rfl rfl rfl cs (at_all cs rfl) T113 (.pure hcp)
namespace H_c_FIsoV
theorem zSm {p q:Prop} (k:q) (e:p=q:=by simp only [e1,e2,e3,e4,p1,p2,p3,q1,q2,q3,l1,t0,t1,r1,r2,r3,r4,Nat.zero_add,Nat.reduceMul,Nat.reduceAdd,b1,b2,b3,b4,b5,b6,i1,i2,i3,i4,i5,i6,Nat.reduceBEq,etk,egr,kills_map ratE,kills_map poE,List.length_map,List.take_nil,List.nil_append,prL_kill,kills_map prE,dfr,dfq,take_map_len,map_snoc,len_snoc,List.length_cons,List.length_nil,List.nil_append,List.map_nil,List.take_nil,List.append_nil,List.set_cons_zero,List.set_cons_succ,Nat.reduceEqDiff,reduceIte,if_true,if_false,ptL_kill,poL_kill,kills_map ptE,kills_map poE,kills_map ratE,ratL_kill,spL_kill,LV.kill,kills];exact rfl):p:=e.mpr k
end H_c_FIsoV
open H_c_FIsoV in
theorem c_FIsoV (U V:Nat) (kU:List Rat) (a b t x:Rat) (rows:List (List PoR)) (h:pf 4 U V rows) (hku:kU.length≤100) (hab:b-a≠0) (hx:(t-a)/(b-a)=x) (hT:rl a≤100) (hT1:rl b≤100) (ht:rl t≤1000) (h1:a≤t) (h2:t≤b):CallP Tryz.prog 188 [.agg [nI64 U,nI64 V,.list 3 (kU.map ratL),.list 3 ((kn2 V a b).map ratL),.list 1 (rows.map prL)],ratL t] (.tup [.agg [nI64 U,.list 3 (kU.map ratL),.list 12 ((rows.map fun r=>isoP r x).map poL)],iL 0]):=by
 have hsp:LV.pure (.agg [nI64 U,nI64 V,.list 3 (kU.map ratL),.list 3 ((kn2 V a b).map ratL),.list 1 (rows.map prL)])=true:=by simp [LV.pure,pures,pures_map ratE,pures_map prE]
 have hpv:=pures_map ratE (kn2 V a b)
 have hpu:=pures_map ratE kU
 have hpr:=pures_map prE rows
 have hu3:=h.u3
 have hv3:=h.v3
 have hrn:=h.n
 refine fnP Tryz.func188 (ht:=(tame2 (by simp [LV.pure,pures,pures_map ratE,pures_map poE,-List.map_map]) rfl)) ?_
 have etk:True:=trivial
 have egr:True:=trivial
 refine zg16 ?_
 refine cp am3 (c_GIvl V a b t (by omega) hT hT1 ht h1 h2) ?_
 refine zg13 ?_
 refine wl_if rfl (fun h20r h20=>?_) (fun h20r h20=>?_)
 ·first | exact h20.elim | cases h20r
 ·refine zg3 ?_
  refine wl_cut (fun L=>∃  (L1:St),(True)∧L=((((((St.mk L1.slot (hp [(3,⟨3,[ratL t],true⟩),(4,⟨3,[.agg [.v (.int .i64 0),.v (.slice none 0 0),.v (.slice none 0 0)]],true⟩),(8,⟨3,[.agg [nI64 U,.ref 25 3 0 kU.length,.v (.slice none 0 0)]],true⟩),(25,⟨3,kU.map ratL,true⟩)])).put (some 2) (.boxp (.agg [nI64 U,nI64 V,.list 3 (kU.map ratL),.list 3 ((kn2 V a b).map ratL),.list 1 (rows.map prL)]))).put (some 3) (.eptr 3 3 0 0)).put (some 4) (.eptr 4 3 0 0)).put (some 5) (iL 0)).put (some 8) (.eptr 8 3 0 0))) ?_ ?_
  ·refine wl_regAW (Weak.boxp (t:=2) (b:=2) rfl rfl cs rfl hsp) ?_
   refine any_hoistW 0 rfl rfl (by decide +kernel) faA fmV fmA ?_
   refine any_hoistW 1 rfl rfl (by decide +kernel) ldA fmV fmA ?_
   refine any_hoistW 3 rfl rfl (by decide +kernel) faA fmV fmA ?_
   refine any_hoistW 4 rfl rfl (by decide +kernel) ldA fmV fmA ?_
   refine any_2 2 7 _ _ (by decide +kernel) rfl rfl ?_ ?_
   ·refine zg1 ?_
    refine st_nil ?_
    refine any_2 5 7 _ _ (by decide +kernel) rfl rfl ?_ ?_
    ·refine st_store rfl (.appX (d:=25) (news:=kU.map ratL) rfl rfl rfl rfl (by simp) (.inl rfl) (by decide) Tryz.underlying36 Tryz.underlying36 Z29a T29 rfl B29 (.inr (.inl rfl)) (by simp;omega) (by simp;omega) (by decide)) ?_
     refine st_nil ?_
     refine any_2 6 7 _ _ (by decide +kernel) rfl rfl ?_ ?_
     ·refine zg1 ?_
      refine st_nil ?_
      refine any_1 7 _ (by decide +kernel) rfl ?_
      refine zg1 ?_
      refine st_nil ?_
      refine any_1 8 _ (by decide +kernel) rfl ?_
      refine zg1 ?_
      refine st_nil ?_
      refine any_0 (by decide +kernel) ?_
      refine zg1 ?_
      exact⟨_,trivial,((put_id' (put_id' (put_id' (put_id' (put_id' (mk_id' (by first | exact cl | (refine zSm ?_;refine hp_ext ?_ ?_<;>repeat (first | exact trivial | refine And.intro rfl ?_)))) cl) cl) cl) cl) cl)).symm⟩
     ·refine zg1 ?_
      refine st_nil ?_
      refine any_1 6 _ (by decide +kernel) rfl ?_
      refine zg1 ?_
      refine st_nil ?_
      refine any_1 8 _ (by decide +kernel) rfl ?_
      refine zg1 ?_
      refine st_nil ?_
      refine any_0 (by decide +kernel) ?_
      refine zg1 ?_
      exact⟨_,trivial,((put_id' (put_id' (put_id' (put_id' (put_id' (mk_id' (by first | exact cl | (refine zSm ?_;refine hp_ext ?_ ?_<;>repeat (first | exact trivial | refine And.intro rfl ?_)))) cl) cl) cl) cl) cl)).symm⟩
    ·refine zg1 ?_
     refine st_nil ?_
     refine any_1 5 _ (by decide +kernel) rfl ?_
     refine st_store rfl (.appX (d:=25) (news:=kU.map ratL) rfl rfl rfl rfl (by simp) (.inl rfl) (by decide) Tryz.underlying36 Tryz.underlying36 Z29a T29 rfl B29 (.inr (.inl rfl)) (by simp;omega) (by simp;omega) (by decide)) ?_
     refine st_nil ?_
     refine any_1 6 _ (by decide +kernel) rfl ?_
     refine zg1 ?_
     refine st_nil ?_
     refine any_1 8 _ (by decide +kernel) rfl ?_
     refine zg1 ?_
     refine st_nil ?_
     refine any_0 (by decide +kernel) ?_
     refine zg1 ?_
     exact⟨_,trivial,((put_id' (put_id' (put_id' (put_id' (put_id' (mk_id' (by first | exact cl | (refine zSm ?_;refine hp_ext ?_ ?_<;>repeat (first | exact trivial | refine And.intro rfl ?_)))) cl) cl) cl) cl) cl)).symm⟩
   ·refine zg1 ?_
    refine st_nil ?_
    refine any_1 2 _ (by decide +kernel) rfl ?_
    refine zg1 ?_
    refine st_nil ?_
    refine any_1 5 _ (by decide +kernel) rfl ?_
    refine st_store rfl (.appX (d:=25) (news:=kU.map ratL) rfl rfl rfl rfl (by simp) (.inl rfl) (by decide) Tryz.underlying36 Tryz.underlying36 Z29a T29 rfl B29 (.inr (.inl rfl)) (by simp;omega) (by simp;omega) (by decide)) ?_
    refine st_nil ?_
    refine any_1 6 _ (by decide +kernel) rfl ?_
    refine zg1 ?_
    refine st_nil ?_
    refine any_1 8 _ (by decide +kernel) rfl ?_
    refine zg1 ?_
    refine st_nil ?_
    refine any_0 (by decide +kernel) ?_
    refine zg1 ?_
    exact⟨_,trivial,((put_id' (put_id' (put_id' (put_id' (put_id' (mk_id' (by first | exact cl | (refine zSm ?_;refine hp_ext ?_ ?_<;>repeat (first | exact trivial | refine And.intro rfl ?_)))) cl) cl) cl) cl) cl)).symm⟩
  ·rintro _ ⟨LR4,-,rfl⟩
   refine zg8 ?_
   refine wl_weak ((Weak.cell 8 rfl (fun Z μ w cs h=>rep_crv 100 12 _ _ Z μ w cs h)).trans (Weak.newB _ 100 12 rfl)) ?_
   refine lp1 (fun(i:Nat) L=>(((((((St.mk L.slot (hp [(3,⟨3,[ratL t],true⟩),(4,⟨3,[.agg [.v (.int .i64 0),.v (.slice none 0 0),.v (.slice none 0 0)]],true⟩),(8,⟨3,[.agg [nI64 U,.ref 25 3 0 kU.length,.ref 100 12 0 i]],true⟩),(25,⟨3,kU.map ratL,true⟩),(100,⟨12,((rows.map fun r=>isoP r x).take i).map poL,true⟩)])).put (some 2) (.boxp (.agg [nI64 U,nI64 V,.list 3 (kU.map ratL),.list 3 ((kn2 V a b).map ratL),.list 1 (rows.map prL)]))).put (some 3) (.eptr 3 3 0 0)).put (some 4) (.eptr 4 3 0 0)).put (some 5) (iL 0)).put (some 8) (.eptr 8 3 0 0)).put (some 9) (nI64 i))) (fun i=>i≤U+1) (fun i=>U+1-i) 0 (Nat.zero_le _) ?_
   rintro i L1 hi
   refine zg10 ?_
   refine wl_if rfl (fun h34r h34=>?_) (fun h34r h34=>?_)
   ·have hi2:i<U+1:=by omega
    have hcv:=h.cv (Nat.le_of_lt_succ hi2)
    have etk:(((rows.map fun r=>isoP r x).take i).map poL).take i=((rows.map fun r=>isoP r x).take i).map poL:=List.take_of_length_le (by simp;omega)
    have egr:=mapT (fun r:List PoR=>isoP r x) rows [] (i:=i) (by omega)
    have hN:∀ k,∀ z∈nmP (rows.getD i []) k,rl z≤100000:=fun k z hz=>Nat.le_trans (nmP_rl hcv.ok k z hz) (by decide)
    have hW:∀ z∈wtP (rows.getD i []),rl z≤100000:=fun z hz=>Nat.le_trans (wtP_rl hcv.ok z hz) (by decide)
    have hb:=hg_bd (po:=(rows.getD i [])) (a:=a) (b:=b) (t:=t) hcv.h6 hN hW (ng_rl (a:=a) (b:=b) (t:=t) hcv.h6 (by omega) (by omega) ht) (V+1) (Nat.le_refl _)
    have he:=hg_ev hab hx hcv
    have hDr:CallP Tryz.prog 190 [.agg [ratL (hgS V a b t (rows.getD i []) 0 (V+1)),ratL (hgS V a b t (rows.getD i []) 1 (V+1)),ratL (hgS V a b t (rows.getD i []) 2 (V+1)),ratL (hgS V a b t (rows.getD i []) 3 (V+1))]] (poL (isoP (rows.getD i []) x)):=by
     have:=c_FDrop _ _ _ _ 6000000 (by decide) (hb 0) (hb 1) (hb 2) (hb 3)
     rw [he.1 0 (by decide),he.1 1 (by decide),he.1 2 (by decide),he.2] at this ⊢
     exact this
    have hcp4:LV.pure (.agg [ratL (hgS V a b t (rows.getD i []) 0 (V+1)),ratL (hgS V a b t (rows.getD i []) 1 (V+1)),ratL (hgS V a b t (rows.getD i []) 2 (V+1)),ratL (hgS V a b t (rows.getD i []) 3 (V+1))])=true:=by simp [LV.pure,pures,ratE.pure]
    have hcp:LV.pure (.agg [nI64 V,.list 3 ((kn2 V a b).map ratL),.list 12 ((rows.getD i []).map poL)])=true:=by simp [LV.pure,pures,pures_map ratE,pures_map poE]
    refine zg4 ?_
    refine wl_regD 9 (by decide +kernel) ?_
    refine zg4 ?_
    refine cp am2 (c_FRow U V kU (kn2 V a b) rows i (by omega) (by omega)) ?_
    refine zg1 ?_
    refine cp am2 (c_GHom V a b t (rows.getD i []) 4 (by decide) hcv hN hW (by omega) hT hT1 ht h1 h2) ?_
    refine cp am1 (hDr) ?_
    refine zg1 ?_
    refine st_store rfl (.appX (d:=100) (news:=[poL (isoP (rows.getD i []) x)]) rfl rfl rfl rfl (by simp;omega) (.inl rfl) (by decide) Tryz.underlying60 Tryz.underlying60 Z62 T62 cs B62 (.inl ⟨45,0,_,rfl,by decide,rfl,rfl,by simp,rfl,by simp [pures,poE.pure]⟩) (by simp;omega) (by simp;omega) (by decide)) ?_
    refine zg5 ?_
    refine wl_regW (Weak.kill _ 45) ?_
    refine zg1 ?_
    refine st_pure rfl (.bin rfl rfl (add1N (by omega))) ?_
    refine zg3 ?_
    exact nx1 (i+1) (by omega)
   ·obtain rfl:i=U+1:=by omega
    rw [(List.take_of_length_le (by rw [List.length_map];omega):(rows.map fun r=>isoP r x).take (U+1)=(rows.map fun r=>isoP r x))]
    refine zg13 ?_
    exact retCT [25,100] rfl rfl rfl cs (at_all cs rfl) T113 (.agg (.cons (.pure rfl) (.cons (imm_refm ratE rfl rfl rfl) (.cons (imm_refm poE rfl rfl (by simp;omega)) .nil)))) rfl (.pure rfl)
namespace H_c_FIsoU
theorem zSm {p q:Prop} (k:q) (e:p=q:=by simp only [e1,e2,e3,e4,p1,p2,p3,q1,q2,q3,l1,t0,t1,r1,r2,r3,r4,Nat.zero_add,Nat.reduceMul,Nat.reduceAdd,b1,b2,b3,b4,b5,b6,i1,i2,i3,i4,i5,i6,Nat.reduceBEq,prL_kill,kills_map prE,dfr,dfq,take_map_len,map_snoc,len_snoc,List.length_cons,List.length_nil,List.nil_append,List.map_nil,List.take_nil,List.append_nil,List.set_cons_zero,List.set_cons_succ,Nat.reduceEqDiff,reduceIte,if_true,if_false,ptL_kill,poL_kill,kills_map ptE,kills_map poE,kills_map ratE,ratL_kill,spL_kill,LV.kill,kills];exact rfl):p:=e.mpr k
end H_c_FIsoU
open H_c_FIsoU in
theorem c_FIsoU (U V:Nat) (kV:List Rat) (a b t x:Rat) (rows:List (List PoR)) (h:pf 4 U V rows) (hkv:kV.length≤100) (hab:b-a≠0) (hx:(t-a)/(b-a)=x) (hT:rl a≤100) (hT1:rl b≤100) (ht:rl t≤1000) (h1:a≤t) (h2:t≤b):CallP Tryz.prog 116 [.agg [nI64 U,nI64 V,.list 3 ((kn2 U a b).map ratL),.list 3 (kV.map ratL),.list 1 (rows.map prL)],ratL t] (.tup [.agg [nI64 V,.list 3 (kV.map ratL),.list 12 ((isoL V rows x).map poL)],iL 0]):=by
 have hsp:LV.pure (.agg [nI64 U,nI64 V,.list 3 ((kn2 U a b).map ratL),.list 3 (kV.map ratL),.list 1 (rows.map prL)])=true:=by simp [LV.pure,pures,pures_map ratE,pures_map prE]
 have hsp2:LV.pure (.agg [nI64 V,nI64 U,.list 3 (kV.map ratL),.list 3 ((kn2 U a b).map ratL),.list 1 ((swR V rows).map prL)])=true:=by simp [LV.pure,pures,pures_map ratE,pures_map prE]
 have hcp:LV.pure (.agg [nI64 V,.list 3 (kV.map ratL),.list 12 ((isoL V rows x).map poL)])=true:=by simp [LV.pure,pures,pures_map ratE,pures_map poE]
 have hu3:=h.u3
 have hkl:=kn2_len U a b
 have hI:CallP Tryz.prog 188 [.agg [nI64 V,nI64 U,.list 3 (kV.map ratL),.list 3 ((kn2 U a b).map ratL),.list 1 ((swR V rows).map prL)],ratL t] (.tup [.agg [nI64 V,.list 3 (kV.map ratL),.list 12 ((isoL V rows x).map poL)],iL 0]):=c_FIsoV V U kV a b t x (swR V rows) (swR_pf h) hkv hab hx hT hT1 ht h1 h2
 refine fnP Tryz.func116 (ht:=(tame2 (by simp [LV.pure,pures,pures_map ratE,pures_map poE,-List.map_map]) rfl)) ?_
 refine zg9 ?_
 refine wl_regD 6 (by decide +kernel) ?_
 refine zg1 ?_
 refine cp am1 (c_FSwap 4 U V (kn2 U a b) kV rows h (by omega) hkv) ?_
 refine zg1 ?_
 refine cp am2 (hI) ?_
 refine zg7 ?_
 exact retCT [] rfl rfl rfl cs (at_all cs rfl) T113 (.pure hcp) rfl (.pure rfl)
namespace H_c_FEval12
theorem zSm {p q:Prop} (k:q) (e:p=q:=by simp only [e1,e2,e3,e4,p1,p2,p3,q1,q2,q3,l1,t0,t1,r1,r2,r3,r4,Nat.zero_add,Nat.reduceMul,Nat.reduceAdd,b1,b2,b3,b4,b5,b6,i1,i2,i3,i4,i5,i6,Nat.reduceBEq,prL_kill,kills_map prE,dfr,dfq,take_map_len,map_snoc,len_snoc,List.length_cons,List.length_nil,List.nil_append,List.map_nil,List.take_nil,List.append_nil,List.set_cons_zero,List.set_cons_succ,Nat.reduceEqDiff,reduceIte,if_true,if_false,ptL_kill,poL_kill,kills_map ptE,kills_map poE,kills_map ratE,ratL_kill,spL_kill,LV.kill,kills];exact rfl):p:=e.mpr k
end H_c_FEval12
open H_c_FEval12 in
theorem c_FEval12 (U V:Nat) (a b a2 b2 t s x y:Rat) (rows:List (List PoR)) (h:pf 4 U V rows) (hab:b-a≠0) (hx:(t-a)/(b-a)=x) (hT:rl a≤100) (hT1:rl b≤100) (ht:rl t≤1000) (h1:a≤t) (h2:t≤b) (hab2:b2-a2≠0) (hy:(s-a2)/(b2-a2)=y) (gT:rl a2≤100) (gT1:rl b2≤100) (gt:rl s≤1000) (g1:a2≤s) (g2:s≤b2) (hsx:shX x) (x0:0≤x) (x1:x≤1):CallP Tryz.prog 44 [.agg [nI64 U,nI64 V,.list 3 ((kn2 U a b).map ratL),.list 3 ((kn2 V a2 b2).map ratL),.list 1 (rows.map prL)],ratL t,ratL s] (.tup [ptL (peV U V rows.flatten x y),iL 0]):=by
 have hsp:LV.pure (.agg [nI64 U,nI64 V,.list 3 ((kn2 U a b).map ratL),.list 3 ((kn2 V a2 b2).map ratL),.list 1 (rows.map prL)])=true:=by simp [LV.pure,pures,pures_map ratE,pures_map prE]
 have hcp:LV.pure (.agg [nI64 V,.list 3 ((kn2 V a2 b2).map ratL),.list 12 ((isoL V rows x).map poL)])=true:=by simp [LV.pure,pures,pures_map ratE,pures_map poE]
 have hu3:=h.u3
 have hv3:=h.v3
 have hkl:=kn2_len V a2 b2
 have hcv:=iso_cv h hsx x0 x1
 have hN:∀ k,∀ z∈nmP (isoL V rows x) k,rl z≤100000:=fun k z hz=>Nat.le_trans (nmP_rl hcv.ok k z hz) (by decide)
 have hW:∀ z∈wtP (isoL V rows x),rl z≤100000:=fun z hz=>Nat.le_trans (wtP_rl hcv.ok z hz) (by decide)
 have hE:=c_GEval V a2 b2 s y (isoL V rows x) 600 (by decide) hcv hN hW hab2 hy gT gT1 gt g1 g2
 rw [iso_ev h x0 x1] at hE
 refine fnP Tryz.func44 (ht:=(tame2 (ptE.pure _) rfl)) ?_
 refine zg13 ?_
 refine cp am2 (c_FIsoU U V (kn2 V a2 b2) a b t x rows h (by omega) hab hx hT hT1 ht h1 h2) ?_
 refine zg15 ?_
 refine wl_if rfl (fun h17r h17=>?_) (fun h17r h17=>?_)
 ·first | exact h17.elim | cases h17r
 ·refine zg6 ?_
  refine cp am2 (hE) ?_
  refine zg7 ?_
  exact retCT [] rfl rfl rfl cs (at_all cs rfl) T31 (.pure pu) rfl (.pure rfl)
theorem pe_bd {U V:Nat} {rows:List (List PoR)} (h:pf 4 U V rows) {x y:Rat} (hx:shX x) (hy:shX y):bd3 400000 (peV U V rows.flatten x y):=by
 have hu:=h.u3
 have hv:=h.v3
 have hw:=(evT_sz h.wl (by omega) (by omega) h.r1 (by decide) h.wr hx hy).2.2.2.2
 have hn:∀ k,rl (evT U V (nmP rows.flatten k) x y)≤4100*(8+30):=fun k=>(evT_sz (R:=8) (h.nl k) (by omega) (by omega) (by decide) (by decide) (h.nr k) hx hy).2.2.2.2
 have hI:=rl_div 1 (evT U V (wtP rows.flatten) x y)
 have h1r:rl 1=1:=rfl
 have m:=fun k=>rl_mul (1/evT U V (wtP rows.flatten) x y) (evT U V (nmP rows.flatten k) x y)
 refine⟨?_,?_,?_⟩
 ·show rl (1/evT U V (wtP rows.flatten) x y*evT U V (nmP rows.flatten 0) x y)≤_
  have:=m 0;have:=hn 0;omega
 ·show rl (1/evT U V (wtP rows.flatten) x y*evT U V (nmP rows.flatten 1) x y)≤_
  have:=m 1;have:=hn 1;omega
 ·show rl (1/evT U V (wtP rows.flatten) x y*evT U V (nmP rows.flatten 2) x y)≤_
  have:=m 2;have:=hn 2;omega
def inB (B:Bx3) (p:V3):Prop:=hasR B.x p.x=true∧hasR B.y p.y=true∧hasR B.z p.z=true
def flOK (P:V3) (w:Rat) (q:PoR) (g e:Int):Prop :=
 (e=9∧g=9)∨(e=0∧g=0∧bd3 1000 q.p∧rl q.w≤1000∧rl w≤1000∧cmpR ((v3d q.p P-q.w)*(v3d q.p P-q.w)) (w*v3d q.p q.p)≤0)
namespace H_c_has13
theorem zSm {p q:Prop} (k:q) (e:p=q:=by simp only [e1,e2,e3,e4,p1,p2,p3,q1,q2,q3,l1,t0,t1,r1,r2,r3,r4,Nat.zero_add,Nat.reduceMul,Nat.reduceAdd,b1,b2,b3,b4,b5,b6,i1,i2,i3,i4,i5,i6,Nat.reduceBEq,List.getD_cons_zero,List.getD_cons_succ,List.set_cons_zero,List.set_cons_succ,Nat.reduceEqDiff,reduceIte,if_true,if_false,ptL_kill,poL_kill,kills_map ptE,kills_map poE,kills_map ratE,ratL_kill,spL_kill,LV.kill,kills];exact rfl):p:=e.mpr k
end H_c_has13
open H_c_has13 in
theorem c_has13 (B:Bx3) (p:V3) (S:Nat) (hS:S≤1000000000) (hB:bdB S B) (hp:bd3 S p) (h:inB B p):CallP Tryz.prog 45 [bxL B,ptL p] (bL true):=by
 obtain⟨hb1,hb2,hb3⟩:=hB
 obtain⟨hp1,hp2,hp3⟩:=hp
 obtain⟨hi1,hi2,hi3⟩:=h
 have hc1:CallP Tryz.prog 98 [spL B.x,ratL p.x] (bL true):=by
  have:=c_FHas B.x p.x (by have:=hb1.1;omega) (by have:=hb1.2;omega)
  rwa [hi1] at this
 have hc2:CallP Tryz.prog 98 [spL B.y,ratL p.y] (bL true):=by
  have:=c_FHas B.y p.y (by have:=hb2.1;omega) (by have:=hb2.2;omega)
  rwa [hi2] at this
 have hc3:CallP Tryz.prog 98 [spL B.z,ratL p.z] (bL true):=by
  have:=c_FHas B.z p.z (by have:=hb3.1;omega) (by have:=hb3.2;omega)
  rwa [hi3] at this
 refine fnP Tryz.func45 ?_
 refine zg13 ?_
 refine cp am2 (hc1) ?_
 refine zg5 ?_
 refine cp am2 (hc2) ?_
 refine zg6 ?_
 refine cp am2 (hc3) ?_
 refine zg5 ?_
 exact ret1 rfl (.pure rfl)
theorem made_any (l:List Int) (hl5:l.length≤500):∃ (U V:Nat) (S T:Rat) (rows:List (List PoR)),pf 4 U V rows∧rl S≤1∧rl (S+1)≤1∧rl T≤1∧rl (T+1)≤1 ∧
  CallP Tryz.prog 22 [.list 1 (l.map i64L)] (.agg [nI64 U,nI64 V,.list 3 ((kn2 U S (S+1)).map ratL),.list 3 ((kn2 V T (T+1)).map ratL),.list 1 (rows.map prL)]):=by
 obtain⟨g1,g2⟩:rl (pTU l 0 3)≤1∧rl (pTU l 0 3+1)≤1:=dt_rl l _
 obtain⟨g3,g4⟩:rl (pTV l 0 3)≤1∧rl (pTV l 0 3+1)≤1:=dt_rl l _
 exact⟨_,_,pTU l 0 3,pTV l 0 3,sR l 0 3 0,sR_pf (n:=3) hl5 (Nat.zero_le 500) (by decide) (by decide),g1,g2,g3,g4,c_made13 l hl5⟩
theorem ins_any (U V:Nat) (S T:Rat) (rows:List (List PoR)) (h:pf 4 U V rows) (g1:rl S≤1) (g2:rl (S+1)≤1) (g3:rl T≤1) (g4:rl (T+1)≤1) (i j:Int) :
  ∃ (P va vb:V3) (A B X:Bx3) (w:Rat) (q:PoR) (g e:Int),bd3 400000 P∧bd3 100000000 va∧bd3 100000000 vb∧bdB 20000 A∧bdB 20000 B∧bdB 100 X ∧
  inB X P∧inB A va∧inB B vb∧inB (bxX A B) (v3x va vb)∧flOK P w q g e ∧
  CallP Tryz.prog 44 [.agg [nI64 U,nI64 V,.list 3 ((kn2 U S (S+1)).map ratL),.list 3 ((kn2 V T (T+1)).map ratL),.list 1 (rows.map prL)],ratL (S+ptV i),ratL (T+ptV j)] (.tup [ptL P,iL 0]) ∧
  CallP Tryz.prog 16 [.agg [nI64 U,nI64 V,.list 3 ((kn2 U S (S+1)).map ratL),.list 3 ((kn2 V T (T+1)).map ratL),.list 1 (rows.map prL)],ratL (S+ptV i),ratL (T+ptV j)] (.tup [ptL va,ptL vb,iL 0]) ∧
  CallP Tryz.prog 14 [.agg [nI64 U,nI64 V,.list 3 ((kn2 U S (S+1)).map ratL),.list 3 ((kn2 V T (T+1)).map ratL),.list 1 (rows.map prL)],ratL (S+ptV i),ratL (T+ptV j)] (.tup [ptL (v3x va vb),iL 0]) ∧
  CallP Tryz.prog 40 [.agg [nI64 U,nI64 V,.list 3 ((kn2 U S (S+1)).map ratL),.list 3 ((kn2 V T (T+1)).map ratL),.list 1 (rows.map prL)]] (.tup [bxL A,bxL B]) ∧
  CallP Tryz.prog 42 [.agg [nI64 U,nI64 V,.list 3 ((kn2 U S (S+1)).map ratL),.list 3 ((kn2 V T (T+1)).map ratL),.list 1 (rows.map prL)]] (bxL (bxX A B)) ∧
  CallP Tryz.prog 33 [.agg [nI64 U,nI64 V,.list 3 ((kn2 U S (S+1)).map ratL),.list 3 ((kn2 V T (T+1)).map ratL),.list 1 (rows.map prL)]] (bxL X) ∧
  CallP Tryz.prog 27 [.agg [nI64 U,nI64 V,.list 3 ((kn2 U S (S+1)).map ratL),.list 3 ((kn2 V T (T+1)).map ratL),.list 1 (rows.map prL)]] (.tup [ratL w,iL g]) ∧
  CallP Tryz.prog 48 [ptL ((rows.getD 0 []).getD 0 default).p,ptL ((rows.getD U []).getD 0 default).p,ptL ((rows.getD 0 []).getD V default).p] (.tup [poL q,iL e]):=by
 have hu3:=h.u3
 have hv3:=h.v3
 obtain⟨x0,x1⟩:=ptV_in i
 obtain⟨y0,y1⟩:=ptV_in j
 have hi:=ptV_rl i
 have hj:=ptV_rl j
 have su:=wi_rl g1 i
 have sv:=wi_rl g3 j
 have hx:shX (ptV i):=shX_of (by omega)
 have hy:shX (ptV j):=shX_of (by omega)
 have w1:=rl_sub (S+1) S
 have w2:=rl_sub (T+1) T
 have hA:=(pdv_bd h (dfS_U hu3 hv3) (by decide) (wd:=S+1-S) (by omega) hx hy).2.2
 have hB:=(pdv_bd h (dfS_V hu3 hv3) (by decide) (wd:=T+1-T) (by omega) hx hy).2.2
 have hD:=c_PDer 4 U V S (S+1) T (T+1) rows h (by omega) (by omega) (by omega) (by omega) (lt_one _) (lt_one _) (S+ptV i) (T+ptV j) (ptV i) (ptV j) (by omega) (by omega) hx hy (par_one _ _) (par_one _ _) (by decide) (wi_has _ _) (wi_has _ _)
 have hS:=c_PSpd 4 U V S (S+1) T (T+1) rows h (by omega) (by omega) (by omega) (by omega) (lt_one _) (lt_one _) (by decide)
 have hB1:=psB_bd h (dfS_U hu3 hv3) (wd:=S+1-S) (by omega)
 have hB2:=psB_bd h (dfS_V hu3 hv3) (wd:=T+1-T) (by omega)
 have iA:=fun k=>ps_in h x0 x1 y0 y1 (dfS_U hu3 hv3) (S+1-S) k
 have iB:=fun k=>ps_in h x0 x1 y0 y1 (dfS_V hu3 hv3) (T+1-T) k
 have hX:=bx_in (A:=psB U V (U-1) V (dfU U V) rows.flatten (S+1-S)) (B:=psB U V U (V-1) (dfV U V) rows.flatten (T+1-T)) (a:=pdv U V (U-1) V (dfU U V) rows.flatten (S+1-S) (ptV i) (ptV j)) (b:=pdv U V U (V-1) (dfV U V) rows.flatten (T+1-T) (ptV i) (ptV j)) (iA 0) (iA 1) (iA 2) (iB 0) (iB 1) (iB 2)
 have hpl:(rows.flatten.map (·.p)).length=rows.flatten.length:=List.length_map ..
 have hp0:=h.pos
 have hE:=c_FEval12 U V S (S+1) T (T+1) (S+ptV i) (T+ptV j) (ptV i) (ptV j) rows h (by rw [wid1];decide) (par_one _ _) (by omega) (by omega) (by omega) (wi_in _ _).1 (wi_in _ _).2 (by rw [wid1];decide) (par_one _ _) (by omega) (by omega) (by omega) (wi_in _ _).1 (wi_in _ _).2 hx x0 x1
 have hbx:=fun k=>bxN_bd (l:=(rows.flatten.map (·.p))) (R:=4) (fun i hi=>h.fp hi) k ((rows.flatten.map (·.p)).length-1) (by omega)
 have common:∀ (w:Rat) (q:PoR) (g e:Int),flOK (peV U V rows.flatten (ptV i) (ptV j)) w q g e→CallP Tryz.prog 27 [.agg [nI64 U,nI64 V,.list 3 ((kn2 U S (S+1)).map ratL),.list 3 ((kn2 V T (T+1)).map ratL),.list 1 (rows.map prL)]] (.tup [ratL w,iL g])→CallP Tryz.prog 48 [ptL ((rows.getD 0 []).getD 0 default).p,ptL ((rows.getD U []).getD 0 default).p,ptL ((rows.getD 0 []).getD V default).p] (.tup [poL q,iL e])→_:=fun w q g e h1 h2 h3 =>
  (⟨_,_,_,_,_,_,w,q,g,e,pe_bd h hx hy,hA,hB,hB1.le (by decide),hB2.le (by decide),⟨(hbx 0).le (by decide),(hbx 1).le (by decide),(hbx 2).le (by decide)⟩,
   ⟨pe_box h x0 x1 y0 y1 0 (by decide),pe_box h x0 x1 y0 y1 1 (by decide),pe_box h x0 x1 y0 y1 2 (by decide)⟩,⟨has_of (iA 0),has_of (iA 1),has_of (iA 2)⟩,⟨has_of (iB 0),has_of (iB 1),has_of (iB 2)⟩,
   ⟨has_of hX.1,has_of hX.2.1,has_of hX.2.2⟩,h1,hE,hD,c_PNor U V _ _ rows _ _ _ _ 0 hA hB hD,hS,c_PNors U V _ _ rows _ _ _ (by decide) hB1 hB2 hS,c_PBox 4 U V _ _ rows h (by decide),h2,h3⟩:∃ (P va vb:V3) (A B X:Bx3) (w:Rat) (q:PoR) (g e:Int),bd3 400000 P∧bd3 100000000 va∧bd3 100000000 vb∧bdB 20000 A∧bdB 20000 B∧bdB 100 X ∧
  inB X P∧inB A va∧inB B vb∧inB (bxX A B) (v3x va vb)∧flOK P w q g e ∧
  CallP Tryz.prog 44 [.agg [nI64 U,nI64 V,.list 3 ((kn2 U S (S+1)).map ratL),.list 3 ((kn2 V T (T+1)).map ratL),.list 1 (rows.map prL)],ratL (S+ptV i),ratL (T+ptV j)] (.tup [ptL P,iL 0]) ∧
  CallP Tryz.prog 16 [.agg [nI64 U,nI64 V,.list 3 ((kn2 U S (S+1)).map ratL),.list 3 ((kn2 V T (T+1)).map ratL),.list 1 (rows.map prL)],ratL (S+ptV i),ratL (T+ptV j)] (.tup [ptL va,ptL vb,iL 0]) ∧
  CallP Tryz.prog 14 [.agg [nI64 U,nI64 V,.list 3 ((kn2 U S (S+1)).map ratL),.list 3 ((kn2 V T (T+1)).map ratL),.list 1 (rows.map prL)],ratL (S+ptV i),ratL (T+ptV j)] (.tup [ptL (v3x va vb),iL 0]) ∧
  CallP Tryz.prog 40 [.agg [nI64 U,nI64 V,.list 3 ((kn2 U S (S+1)).map ratL),.list 3 ((kn2 V T (T+1)).map ratL),.list 1 (rows.map prL)]] (.tup [bxL A,bxL B]) ∧
  CallP Tryz.prog 42 [.agg [nI64 U,nI64 V,.list 3 ((kn2 U S (S+1)).map ratL),.list 3 ((kn2 V T (T+1)).map ratL),.list 1 (rows.map prL)]] (bxL (bxX A B)) ∧
  CallP Tryz.prog 33 [.agg [nI64 U,nI64 V,.list 3 ((kn2 U S (S+1)).map ratL),.list 3 ((kn2 V T (T+1)).map ratL),.list 1 (rows.map prL)]] (bxL X) ∧
  CallP Tryz.prog 27 [.agg [nI64 U,nI64 V,.list 3 ((kn2 U S (S+1)).map ratL),.list 3 ((kn2 V T (T+1)).map ratL),.list 1 (rows.map prL)]] (.tup [ratL w,iL g]) ∧
  CallP Tryz.prog 48 [ptL ((rows.getD 0 []).getD 0 default).p,ptL ((rows.getD U []).getD 0 default).p,ptL ((rows.getD 0 []).getD V default).p] (.tup [poL q,iL e]))
 have pA:=h.pt (i:=0) (j:=0) (by omega) (by omega)
 have pB:=h.pt (i:=U) (j:=0) (by omega) (by omega)
 have pC:=h.pt (i:=0) (j:=V) (by omega) (by omega)
 cases hz:eqV (thN ((rows.getD 0 []).getD 0 default).p ((rows.getD U []).getD 0 default).p ((rows.getD 0 []).getD V default).p) ⟨0,0,0⟩ with
 | true=>exact common 0 pzV 9 9 (.inl ⟨rfl,rfl⟩) (c_PFlatN 4 U V _ _ rows h (by decide) hz) (c_FVThN _ _ _ 4 (by decide) pA pB pC hz)
 | false =>
  have hdp:=nn_pos hz
  have hnb:bd3 (8*4+9) (thN ((rows.getD 0 []).getD 0 default).p ((rows.getD U []).getD 0 default).p ((rows.getD 0 []).getD V default).p):=h.thb
  have hdr:rl (v3d (thN ((rows.getD 0 []).getD 0 default).p ((rows.getD U []).getD 0 default).p ((rows.getD 0 []).getD V default).p) ((rows.getD 0 []).getD 0 default).p)≤27*4+31:=by have:=v3d_rl hnb pA;omega
  have hdd:rl (v3d (thN ((rows.getD 0 []).getD 0 default).p ((rows.getD U []).getD 0 default).p ((rows.getD 0 []).getD V default).p) (thN ((rows.getD 0 []).getD 0 default).p ((rows.getD U []).getD 0 default).p ((rows.getD 0 []).getD V default).p))≤48*4+58:=by have:=v3d_rl hnb hnb;omega
  have hfa:=fl_all hnb hdr h.fa (rows.flatten.map (·.p)).length
  rw [List.take_of_length_le (Nat.le_refl _)] at hfa
  have hq:=rl_div (flT (thN ((rows.getD 0 []).getD 0 default).p ((rows.getD U []).getD 0 default).p ((rows.getD 0 []).getD V default).p) (v3d (thN ((rows.getD 0 []).getD 0 default).p ((rows.getD U []).getD 0 default).p ((rows.getD 0 []).getD V default).p) ((rows.getD 0 []).getD 0 default).p) (rows.flatten.map (·.p))) (v3d (thN ((rows.getD 0 []).getD 0 default).p ((rows.getD U []).getD 0 default).p ((rows.getD 0 []).getD V default).p) (thN ((rows.getD 0 []).getD 0 default).p ((rows.getD U []).getD 0 default).p ((rows.getD 0 []).getD V default).p))
  refine common _ _ 0 0 (.inr ⟨rfl,rfl,hnb.le (by decide),Nat.le_trans hdr (by decide),by omega,?_⟩) (c_PFlat 4 U V _ _ rows h (by decide) hz) (c_FVTh _ _ _ 4 (by decide) pA pB pC hz)
  have hne:(v3d (thN ((rows.getD 0 []).getD 0 default).p ((rows.getD U []).getD 0 default).p ((rows.getD 0 []).getD V default).p) (thN ((rows.getD 0 []).getD 0 default).p ((rows.getD U []).getD 0 default).p ((rows.getD 0 []).getD V default).p))≠0:=fun e=>by rw [e] at hdp;exact absurd hdp (by decide)
  rw [Rat.div_mul_cancel hne]
  exact cmpR_le.2 (fl_in h x0 x1 y0 y1 _ _)
namespace H_c_PatchInside
theorem zSm {p q:Prop} (k:q) (e:p=q:=by simp only [e1,e2,e3,e4,p1,p2,p3,q1,q2,q3,l1,t0,t1,r1,r2,r3,r4,Nat.zero_add,Nat.reduceMul,Nat.reduceAdd,b1,b2,b3,b4,b5,b6,i1,i2,i3,i4,i5,i6,Nat.reduceBEq,plcs,plcs2,Nat.add_sub_cancel,dfr,dfq,prL,ehrn,ehr0,ehrU,List.length_map,prL_kill,kills_map prE,dfr,dfq,take_map_len,map_snoc,len_snoc,List.length_cons,List.length_nil,List.nil_append,List.map_nil,List.take_nil,List.append_nil,List.set_cons_zero,List.set_cons_succ,Nat.reduceEqDiff,reduceIte,if_true,if_false,ptL_kill,poL_kill,kills_map ptE,kills_map poE,kills_map ratE,ratL_kill,spL_kill,LV.kill,kills];exact rfl):p:=e.mpr k
end H_c_PatchInside
open H_c_PatchInside in
theorem c_PatchInside (l:List Int) (i j:Int) (hl:l.length≤9223372036854775807∧∀ n∈l,-9223372036854775808≤n∧n≤9223372036854775807) (hi:-9223372036854775808≤i∧i≤9223372036854775807) (hj:-9223372036854775808≤j∧j≤9223372036854775807):CallP Tryz.prog 6 [.list 1 (l.map i64L),iL i,iL j] (bL true):=by
 have hlt:=hl.1
 refine fnP Tryz.func6 ?_
 have ehrn:True:=trivial
 have ehr0:True:=trivial
 have ehrU:True:=trivial
 refine zg9 ?_
 refine cp am1 (c_Light l hlt) ?_
 refine zg3 ?_
 refine wl_if rfl (fun h28r h28=>?_) (fun h28r h28=>?_)
 ·refine zg2 ?_
  refine cp am0 (c_awake13) ?_
  refine zg5 ?_
  exact ret1 rfl (.pure rfl)
 ·have hl5:l.length≤500:=by simpa using h28
  obtain⟨U,V,S,T,rows,hp,g1,g2,g3,g4,hMd⟩:=made_any l hl5
  obtain⟨P,va,vb,A,B,X,w,q,g,e,hP,ha,hb,hA,hB,hX,iX,iA,iB,iN,hF,hE,hD,hN,hS,hM,hBx,hFl,hTh⟩:=ins_any U V S T rows hp g1 g2 g3 g4 i j
  have hsp:LV.pure (.agg [nI64 U,nI64 V,.list 3 ((kn2 U S (S+1)).map ratL),.list 3 ((kn2 V T (T+1)).map ratL),.list 1 (rows.map prL)])=true:=by simp [LV.pure,pures,pures_map ratE,pures_map prE]
  have hWi:CallP Tryz.prog 13 [spL (S,S+1),iL i] (ratL (S+ptV i)):=by
   have:=c_Within (S,S+1) i 1 (by decide) ⟨g1,g2⟩ hi
   rwa [wi_one] at this
  have hWj:CallP Tryz.prog 13 [spL (T,T+1),iL j] (ratL (T+ptV j)):=by
   have:=c_Within (T,T+1) j 1 (by decide) ⟨g3,g4⟩ hj
   rwa [wi_one] at this
  have hu3:=hp.u3
  have hv3:=hp.v3
  have ehrn:=hp.n
  have ehr0:=hp.r0 (Nat.zero_le U)
  have ehrU:=hp.r0 (Nat.le_refl U)
  have hDm:=c_FDom12 U V S (S+1) T (T+1) rows (by omega) (by omega) (by omega) (by omega) (lt_one _) (lt_one _) (by omega) (by omega)
  have hx:=v3x_bd ha hb
  obtain⟨hp1,hp2⟩:=x_perp va vb
  have hd1:CallP Tryz.prog 47 [ptL (v3x va vb),ptL va] (ratL 0):=by
   have:=c_FDot (v3x va vb) va 1000000000 (by decide) (hx.le (by decide)) (ha.le (by decide))
   rwa [hp1] at this
  have hd2:CallP Tryz.prog 47 [ptL (v3x va vb),ptL vb] (ratL 0):=by
   have:=c_FDot (v3x va vb) vb 1000000000 (by decide) (hx.le (by decide)) (hb.le (by decide))
   rwa [hp2] at this
  have hs0:CallP Tryz.prog 46 [ratL 0] (iL 0):=c_FSign 0
  have hNx:=bxX_bd hA hB
  refine zg5 ?_
  refine cp am1 (hMd) ?_
  refine zg7 ?_
  refine cp am1 (hDm) ?_
  refine zg10 ?_
  refine wl_regD 8 (by decide +kernel) ?_
  refine zg2 ?_
  refine cp am2 (hWi) ?_
  refine zg2 ?_
  refine cp am2 (hWj) ?_
  refine zg11 ?_
  refine cp am3 (hE) ?_
  refine zg13 ?_
  refine cp am3 (hD) ?_
  refine zg16 ?_
  refine cp am3 (hN) ?_
  refine zg11 ?_
  refine cp am1 (hS) ?_
  refine zg11 ?_
  refine wl_regD 46 (by decide +kernel) ?_
  refine zg3 ?_
  refine st_pure (guardX (v:=false) rfl rfl ((rfl)) rfl) (.move _) ?_
  refine st_pure (guardX (v:=false) rfl rfl ((rfl)) rfl) (.bin rfl rfl rfl) ?_
  refine st_pure rfl (.pickF rfl ((rfl))) ?_
  refine zg1 ?_
  refine st_pure (guardX (v:=false) rfl rfl ((rfl)) rfl) ldA ?_
  refine st_callP (guardX (v:=false) rfl rfl ((rfl)) rfl) (.cons im0 .nil) (hBx) ?_
  refine st_pure (guardX (v:=false) rfl rfl ((rfl)) rfl) ldA ?_
  refine st_callP (guardX (v:=false) rfl rfl ((rfl)) rfl) (.cons (.pure (bxE.pure _)) (.cons (.pure (ptE.pure _)) .nil)) (c_has13 X P 400000 (by decide) (hX.le (by decide)) hP iX) ?_
  refine st_pure (guardX (v:=false) rfl rfl ((rfl)) rfl) (.not rfl) ?_
  refine st_pure rfl (.pickF rfl ((rfl))) ?_
  refine zg1 ?_
  refine st_pure (guardX (v:=false) rfl rfl ((rfl)) rfl) ldA ?_
  refine st_pure (guardX (v:=false) rfl rfl ((rfl)) rfl) ldA ?_
  refine st_callP (guardX (v:=false) rfl rfl ((rfl)) rfl) (.cons (.pure (bxE.pure _)) (.cons (.pure (ptE.pure _)) .nil)) (c_has13 A va 100000000 (by decide) (hA.le (by decide)) ha iA) ?_
  refine st_pure (guardX (v:=false) rfl rfl ((rfl)) rfl) (.not rfl) ?_
  refine st_pure rfl (.pickF rfl ((rfl))) ?_
  refine zg1 ?_
  refine st_pure (guardX (v:=false) rfl rfl ((rfl)) rfl) ldA ?_
  refine st_pure (guardX (v:=false) rfl rfl ((rfl)) rfl) ldA ?_
  refine st_callP (guardX (v:=false) rfl rfl ((rfl)) rfl) (.cons (.pure (bxE.pure _)) (.cons (.pure (ptE.pure _)) .nil)) (c_has13 B vb 100000000 (by decide) (hB.le (by decide)) hb iB) ?_
  refine st_pure (guardX (v:=false) rfl rfl ((rfl)) rfl) (.not rfl) ?_
  refine st_pure rfl (.pickF rfl ((rfl))) ?_
  refine zg1 ?_
  refine st_pure (guardX (v:=false) rfl rfl ((rfl)) rfl) ldA ?_
  refine st_callP (guardX (v:=false) rfl rfl ((rfl)) rfl) (.cons im0 .nil) (hM) ?_
  refine st_pure (guardX (v:=false) rfl rfl ((rfl)) rfl) ldA ?_
  refine st_callP (guardX (v:=false) rfl rfl ((rfl)) rfl) (.cons (.pure (bxE.pure _)) (.cons (.pure (ptE.pure _)) .nil)) (c_has13 (bxX A B) (v3x va vb) 1000000000 (by decide) (hNx.le (by decide)) (hx.le (by decide)) iN) ?_
  refine st_pure (guardX (v:=false) rfl rfl ((rfl)) rfl) (.not rfl) ?_
  refine st_pure rfl (.pickF rfl ((rfl))) ?_
  refine zg1 ?_
  refine st_pure (guardX (v:=false) rfl rfl ((rfl)) rfl) ldA ?_
  refine st_pure (guardX (v:=false) rfl rfl ((rfl)) rfl) ldA ?_
  refine st_callP (guardX (v:=false) rfl rfl ((rfl)) rfl) (.cons im0 (.cons im0 .nil)) (hd1) ?_
  refine st_callP (guardX (v:=false) rfl rfl ((rfl)) rfl) (.cons im0 .nil) (hs0) ?_
  refine st_pure (guardX (v:=false) rfl rfl ((rfl)) rfl) (.bin rfl rfl rfl) ?_
  refine st_pure rfl (.pickF rfl ((rfl))) ?_
  refine zg1 ?_
  refine st_pure (guardX (v:=false) rfl rfl ((rfl)) rfl) ldA ?_
  refine st_pure (guardX (v:=false) rfl rfl ((rfl)) rfl) ldA ?_
  refine st_callP (guardX (v:=false) rfl rfl ((rfl)) rfl) (.cons im0 (.cons im0 .nil)) (hd2) ?_
  refine st_callP (guardX (v:=false) rfl rfl ((rfl)) rfl) (.cons im0 .nil) (hs0) ?_
  refine st_pure (guardX (v:=false) rfl rfl ((rfl)) rfl) (.bin rfl rfl rfl) ?_
  refine st_pure rfl (.pickF rfl ((rfl))) ?_
  refine zg2 ?_
  refine wl_condY (b:=_) rfl (rfl) ?_
  refine zg5 ?_
  refine cp am1 (hFl) ?_
  refine zg9 ?_
  refine wl_regF 30 [28] (by decide +kernel) ?_
  refine zg25 ?_
  try simp only [t1,dfr,dfq,prL,List.length_map]
  refine cp am3 (hTh) ?_
  refine zg15 ?_
  refine wl_if rfl (fun h151r h151=>?_) (fun h151r h151=>?_)
  ·obtain⟨rfl,rfl⟩:=hF.resolve_right (fun k=>by have:=k.1;subst this;revert h151r;decide)
   refine zg5 ?_
   refine st_callP (guardX (v:=true) rfl rfl ((rfl)) rfl) .nil (c_awake13) ?_
   refine st_pure rfl (.pickT rfl ((rfl))) ?_
   refine zg5 ?_
   exact ret1 rfl (.pure rfl)
  ·obtain⟨rfl,rfl,hq1,hq2,hq3,hq4⟩:=hF.resolve_left (fun k=>by have:=k.1;subst this;revert h151r;decide)
   have hr1:=v3d_rl hq1 hP
   have hr2:=v3d_rl hq1 hq1
   have hr3:=rl_sub (v3d q.p P) q.w
   have hr4:=rl_mul (v3d q.p P-q.w) (v3d q.p P-q.w)
   have hr5:=rl_mul w (v3d q.p q.p)
   refine zg3 ?_
   refine wl_regD 8 (by decide +kernel) ?_
   refine zg3 ?_
   refine cp am2 (c_FDot q.p P 400000 (by decide) (hq1.le (by decide)) hP) ?_
   refine zg2 ?_
   refine cp am2 (c_FRSub (v3d q.p P) q.w (by omega)) ?_
   refine zg5 ?_
   refine wl_regD 20 (by decide +kernel) ?_
   refine zg3 ?_
   refine st_pure (guardX (v:=true) rfl rfl ((rfl)) rfl) ldA ?_
   refine st_pure (guardX (v:=true) rfl rfl ((rfl)) rfl) ldA ?_
   refine st_callP (guardX (v:=true) rfl rfl ((rfl)) rfl) (.cons im0 (.cons im0 .nil)) (c_FRMul (v3d q.p P-q.w) (v3d q.p P-q.w) (by omega)) ?_
   refine st_pure (guardX (v:=true) rfl rfl ((rfl)) rfl) ldA ?_
   refine st_pure (guardX (v:=true) rfl rfl ((rfl)) rfl) faA ?_
   refine st_pure (guardX (v:=true) rfl rfl ((rfl)) rfl) ldA ?_
   refine st_pure (guardX (v:=true) rfl rfl ((rfl)) rfl) faA ?_
   refine st_pure (guardX (v:=true) rfl rfl ((rfl)) rfl) ldA ?_
   refine st_callP (guardX (v:=true) rfl rfl ((rfl)) rfl) (.cons im0 (.cons im0 .nil)) (c_FDot q.p q.p 1000 (by decide) hq1 hq1) ?_
   refine st_callP (guardX (v:=true) rfl rfl ((rfl)) rfl) (.cons im0 (.cons im0 .nil)) (c_FRMul w (v3d q.p q.p) (by omega)) ?_
   refine st_callP (guardX (v:=true) rfl rfl ((rfl)) rfl) (.cons im0 (.cons im0 .nil)) (c_FRCmp _ _ (by omega)) ?_
   refine st_pure (guardX (v:=true) rfl rfl ((rfl)) rfl) (.bin rfl rfl rfl) ?_
   refine st_pure rfl (.pickT rfl ((rfl))) ?_
   refine zg1 ?_
   refine st_callP (guardX (v:=true) rfl rfl ((by first | exact decide_eq_true hq4 | simpa using hq4)) rfl) .nil (c_awake13) ?_
   refine st_pure rfl (.pickT rfl ((by first | exact decide_eq_true hq4 | simpa using hq4))) ?_
   refine zg4 ?_
   exact ret1 rfl (.pure rfl)
end Go.Proofs.YtfpdccbgngdhkaaGreat
end
