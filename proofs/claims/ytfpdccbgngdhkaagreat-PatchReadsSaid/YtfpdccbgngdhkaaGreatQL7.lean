/- Texts Y6, Y7, Y8, Y9, LgU, Y11, Y12, LgV, Y14, LgX, Y18, Y19, Y20, Y21 of this proof, joined. -/
import Derived.Test.YtfpdccbgngdhkaaGreatQL6
set_option linter.unusedVariables false
set_option linter.unusedSimpArgs false
section
set_option linter.unusedVariables false
set_option linter.unusedSimpArgs false
set_option maxHeartbeats 8000000
set_option maxRecDepth 100000
attribute [local irreducible] Go.Lg.opsL Go.Lg.wpL Go.Lg.thenL Go.Lg.blockL
namespace Go.Proofs.YtfpdccbgngdhkaaGreat
open Go.Lg
def gF (p q:V3):Bool:=decide (p.x=q.x) && (decide (p.y=q.y) && decide (p.z=q.z))
theorem mY {p q:V3}:gF p q=true↔p=q:=by
 obtain⟨a,b,c⟩:=p
 obtain⟨d,e,f⟩:=q
 simp [gF]
theorem D6 {p q:V3} (h:gF p q=false):p≠q:=fun e=>by
 rw [mY.2 e] at h;cases h
def HA:PoR:=⟨⟨0,0,0⟩,0⟩
def cn (a b c:V3):V3:=Eo (jz b a) (jz c a)
theorem nd {R:Nat} {a b c:V3} (ha:eN R a) (hb:eN R b) (hc:eN R c):eN (8*R+9) (cn a b c):=(Dw (ij hb ha) (ij hc ha)).le (by omega)
def oM (n:V3) (d:Rat) (l:List V3):Rat:=l.foldl (fun o p=>mA o ((cZ n p-d)*(cZ n p-d))) 0
theorem pK (n:V3) (d:Rat):oM n d []=0:=rfl
theorem vy (n:V3) (d:Rat) (l:List V3) {i:Nat} (h:i<l.length):mA (oM n d (l.take i)) ((cZ n (l.getD i default)-d)*(cZ n (l.getD i default)-d))=oM n d (l.take (i+1)):=by
 rw [List.take_succ_eq_append_getElem h,oM,oM,List.foldl_append,List.getD_eq_getElem?_getD,List.getElem?_eq_getElem h];rfl
theorem CH {n:V3} {d:Rat} {B:Nat}:∀ (l:List V3) (o:Rat),(∀ p∈l,rl ((cZ n p-d)*(cZ n p-d))≤B)→rl o≤B→rl (l.foldl (fun o p=>mA o ((cZ n p-d)*(cZ n p-d))) o)≤B
 | [],o,_,h=>h
 | p :: l,o,hl,h=>CH l _ (fun q hq=>hl q (List.mem_cons_of_mem _ hq)) (yp h (hl p (List.mem_cons_self ..)))
theorem C6 {a b c:Rat} (h:0<c):mA (a/c) (b/c)=mA a b/c:=by
 have hc:c*(1/c)=1:=by rw [Rat.mul_comm];exact Rat.div_mul_cancel (by grind)
 have hi:0<1/c:=(zx h Rat.le_refl).1
 have e:∀ x:Rat,x/c=x*(1/c):=fun x=>by rw [Rat.div_def,Rat.div_def,Rat.one_mul]
 rw [e a,e b,e (mA a b)]
 generalize 1/c=r at *
 have k:a*r≤b*r↔a≤b:=⟨fun h2=>by
   rcases Rat.le_total (a:=a) (b:=b) with h3 | h3
   ·exact h3
   ·have:=Rat.mul_le_mul_of_nonneg_right h2 (Rat.le_of_lt h)
    have q1:a*r*c=a:=by grind
    have q2:b*r*c=b:=by grind
    rwa [q1,q2] at this,
  fun h2=>Rat.mul_le_mul_of_nonneg_right h2 (Rat.le_of_lt hi)⟩
 unfold mA
 by_cases h2:a≤b
 ·by_cases h3:b≤a
  ·have:a=b:=Rat.le_antisymm h2 h3
   subst this
   split<;>split<;>rfl
  ·have h4:¬ b*r≤a*r:=fun h5=>h3 (by
    have:=Rat.mul_le_mul_of_nonneg_right h5 (Rat.le_of_lt h)
    have q1:a*r*c=a:=by grind
    have q2:b*r*c=b:=by grind
    rwa [q1,q2] at this)
   rw [if_pos (by grind),if_pos (by grind)]
 ·rw [if_neg (by grind),if_neg (by grind)]
theorem y6 {n:V3} (h:gF n ⟨0,0,0⟩=false):0<cZ n n:=by
 have h1:=D6 h
 obtain⟨x,y,z⟩:=n
 have sq:∀ a:Rat,0≤a*a:=fun a=>by
  rcases Rat.le_total (a:=0) (b:=a) with g | g
  ·exact Rat.mul_nonneg g g
  ·have:=Rat.mul_nonneg (show 0≤-a by grind) (show 0≤-a by grind)
   grind
 have sp:∀ a:Rat,a≠0→0<a*a:=fun a ha=>by
  rcases Rat.le_total (a:=0) (b:=a) with g | g
  ·exact Rat.mul_pos (by grind) (by grind)
  ·have:=Rat.mul_pos (show 0 < -a by grind) (show 0 < -a by grind)
   grind
 have s1:=sq x
 have s2:=sq y
 have s3:=sq z
 unfold cZ
 simp only
 by_cases hx:x=0
 ·by_cases hy:y=0
  ·by_cases hz:z=0
   ·subst hx hy hz;exact absurd rfl h1
   ·have:=sp z hz;grind
  ·have:=sp y hy;grind
 ·have:=sp x hx;grind
section
variable {R U V:Nat} {rows:List (List PoR)} (h:pf R U V rows)
include h
theorem pf.r0 {i:Nat} (hi:i≤U):(rows.getD i []).length=V+1:=h.m _ (cm (by rw [h.n];omega))
theorem pf.pt {i j:Nat} (hi:i≤U) (hj:j≤V):eN R ((rows.getD i []).getD j default).p:=(h.ok _ (cm (by rw [h.n];omega)) _ (dl (by rw [h.r0 hi];omega))).1
theorem pf.fp {i:Nat} (hi:i<(rows.flatten.map (·.p)).length):eN R ((rows.flatten.map (·.p)).getD i default):=by
 rw [Eb]
 exact(h.fok _ (dl (by rw [List.length_map] at hi;exact hi))).1
theorem pf.fa:∀ p∈rows.flatten.map (·.p),eN R p:=fun p hp=>by
 obtain⟨q,hq,rfl⟩:=List.mem_map.1 hp
 exact(h.fok q hq).1
theorem pf.thb:eN (8*R+9) (cn ((rows.getD 0 []).getD 0 default).p ((rows.getD U []).getD 0 default).p ((rows.getD 0 []).getD V default).p):=nd (h.pt (Nat.zero_le _) (Nat.zero_le _)) (h.pt (Nat.le_refl _) (Nat.zero_le _)) (h.pt (Nat.zero_le _) (Nat.le_refl _))
end
theorem xd {R:Nat} {n p:V3} {d:Rat} (hn:eN (8*R+9) n) (hd:rl d≤27*R+31) (hp:eN R p):rl (cZ n p)≤27*R+31∧rl (cZ n p-d)≤54*R+63∧rl ((cZ n p-d)*(cZ n p-d))≤108*R+126:=by
 have h1:=kz hn hp
 have h2:=fo (cZ n p) d
 have h3:=bA (cZ n p-d) (cZ n p-d)
 omega
theorem tE {R:Nat} {n:V3} {d:Rat} {l:List V3} (hn:eN (8*R+9) n) (hd:rl d≤27*R+31) (hl:∀ p∈l,eN R p) (i:Nat):rl (oM n d (l.take i))≤108*R+126 :=
 CH _ _ (fun p hp=>(xd hn hd (hl p (List.mem_of_mem_take hp))).2.2) (by show rl 0≤_;rw [show rl 0=1 from rfl];omega)
theorem IA {P:Program} {H:bI} {ρ:Operand→LV} {T:TypeId} [z:ZI P T (.agg [.agg [ratL 0,ratL 0,ratL 0],ratL 0])] [s:SI P T [(9,true),(3,true)]]:OpP P H ρ (.build T #[]) (dX HA):=by
 have:=OpP.bd (H:=H) (ρ:=ρ) (ps:=#[]) (z:=z) (s:=s) (by simp [lay,LV.csize,ay,ah.csize,ah.isAgg,dp]) (by intro q hq;simp at hq)
 simp only [dk,List.map,List.foldl] at this
 exact this
theorem AU (c:Rat):0/c=0:=by rw [Rat.div_def,Rat.zero_mul]
theorem Bz:(LV.agg [LV.agg [ratL 0,ratL 0,ratL 0],ratL 0]).csize=12:=by simp [LV.csize,ay,ah.csize]
theorem u5:(LV.agg [LV.agg [LV.agg [.v (.bool false),.list 1 [],.list 1 []],LV.agg [.v (.bool false),.list 1 [],.list 1 []],LV.agg [.v (.bool false),.list 1 [],.list 1 []]],LV.agg [.v (.bool false),.list 1 [],.list 1 []]]).csize=12:=by simp [LV.csize,ay]
namespace LZ
theorem bQ {p q:Prop} (k:q) (e:p=q:=by simp only [e1,e2,e3,e4,p1,p2,p3,q1,q2,q3,l1,t0,t1,r1,r2,r3,r4,Nat.zero_add,Nat.reduceMul,Nat.reduceAdd,b1,b2,b3,b4,b5,b6,i1,i2,i3,i4,i5,i6,Nat.reduceBEq,List.set_cons_zero,List.set_cons_succ,Nat.reduceEqDiff,reduceIte,if_true,if_false,aN,aM,ae cT,ae cA,ae ah,ax,aC,LV.kill,aH];exact rfl):p:=e.mpr k
end LZ
open LZ in
theorem uR (p q:V3) (hp:eN 100000000000 p) (hq:eN 100000000000 q):ap Tryz.prog 95 [cQ p,cQ q] (bL (gF p q)):=by
 obtain⟨a1,a2,a3⟩:=hp
 obtain⟨y1,y2,y3⟩:=hq
 refine bS Tryz.func95 ?_
 refine dI ?_
 refine aA ?_
 refine bJ ?_
 refine aR (b:=_) rfl (by decide) ?_
 refine bD ?_
 refine au 8 (by decide +kernel) ?_
 refine bJ ?_
 refine cp bf (g8 p.x q.x (by omega)) ?_
 refine bx ?_
 refine an rfl (fun h16r h16=>?_) (fun h16r h16=>?_)
 ·refine bD ?_
  rw [show gF p q=false from by unfold gF;simp [h16]]
  exact aS rfl (.pure rfl)
 ·have g00:p.x=q.x:=by simpa using h16
  refine cx ?_
  refine aA ?_
  refine bJ ?_
  refine aR (b:=_) rfl (by decide) ?_
  refine bD ?_
  refine au 8 (by decide +kernel) ?_
  refine bJ ?_
  refine cp bf (g8 p.y q.y (by omega)) ?_
  refine bx ?_
  refine an rfl (fun h16r h16=>?_) (fun h16r h16=>?_)
  ·refine bD ?_
   rw [show gF p q=false from by unfold gF;simp [h16]]
   exact aS rfl (.pure rfl)
  ·have g10:p.y=q.y:=by simpa using h16
   refine cx ?_
   refine aA ?_
   refine bJ ?_
   refine aR (b:=_) rfl (by decide) ?_
   refine bD ?_
   refine au 8 (by decide +kernel) ?_
   refine bJ ?_
   refine cp bf (g8 p.z q.z (by omega)) ?_
   refine bx ?_
   refine an rfl (fun h16r h16=>?_) (fun h16r h16=>?_)
   ·refine bD ?_
    rw [show gF p q=false from by unfold gF;simp [h16]]
    exact aS rfl (.pure rfl)
   ·have g20:p.z=q.z:=by simpa using h16
    refine cx ?_
    refine aA ?_
    refine bJ ?_
    refine bb (b:=_) rfl (by decide) ?_
    refine bD ?_
    rw [show gF p q=true from by unfold gF;simp [g00,g10,g20]]
    exact aS rfl (.pure rfl)
namespace Kw
theorem bQ {p q:Prop} (k:q) (e:p=q:=by simp only [e1,e2,e3,e4,p1,p2,p3,q1,q2,q3,l1,t0,t1,r1,r2,r3,r4,Nat.zero_add,Nat.reduceMul,Nat.reduceAdd,b1,b2,b3,b4,b5,b6,i1,i2,i3,i4,i5,i6,Nat.reduceBEq,List.set_cons_zero,List.set_cons_succ,Nat.reduceEqDiff,reduceIte,if_true,if_false,aN,aM,ae cT,ae cA,ae ah,ax,aC,LV.kill,aH];exact rfl):p:=e.mpr k
end Kw
open Kw in
theorem uB (p q:V3) (hp:eN 100000000000 p) (hq:eN 100000000000 q):ap Tryz.prog 20 [cQ p,cQ q] (bL (gF p q)):=by
 obtain⟨a1,a2,a3⟩:=hp
 obtain⟨y1,y2,y3⟩:=hq
 refine bS Tryz.func20 ?_
 refine ct ?_
 refine cp bf (fc p.x q.x (by omega)) ?_
 refine aL ?_
 refine bT 10 rfl (fun h10r h10=>?_) (fun h10r h10=>?_)
 ·refine bw ?_
  refine cp bf (fc p.y q.y (by omega)) ?_
  refine bG ?_
  refine bT 17 rfl (fun h17r h17=>?_) (fun h17r h17=>?_)
  ·refine bw ?_
   refine cp bf (fc p.z q.z (by omega)) ?_
   refine ca ?_
   rw [show gF p q=decide (p.z=q.z) from by unfold gF;simp [show p.x=q.x by simpa using h10,show p.y=q.y by simpa using h17]]
   exact aS rfl (.pure rfl)
  ·refine bv ?_
   rw [show gF p q=false from by unfold gF;simp [show ¬p.y=q.y by simpa using h17]]
   exact aS rfl (.pure rfl)
 ·refine iP ?_
  rw [show gF p q=false from by unfold gF;simp [show ¬p.x=q.x by simpa using h10]]
  exact aS rfl (.pure rfl)
namespace L9
theorem bQ {p q:Prop} (k:q) (e:p=q:=by simp only [e1,e2,e3,e4,p1,p2,p3,q1,q2,q3,l1,t0,t1,r1,r2,r3,r4,Nat.zero_add,Nat.reduceMul,Nat.reduceAdd,b1,b2,b3,b4,b5,b6,i1,i2,i3,i4,i5,i6,Nat.reduceBEq,List.set_cons_zero,List.set_cons_succ,Nat.reduceEqDiff,reduceIte,if_true,if_false,aN,aM,ae cT,ae cA,ae ah,ax,aC,LV.kill,aH];exact rfl):p:=e.mpr k
end L9
open L9 in
theorem uD (p:V3) (hp:eN 100000000000 p):ap Tryz.prog 150 [cQ p] (bL (gF p ⟨0,0,0⟩)):=by
 refine bS Tryz.func150 ?_
 refine cg ?_
 refine jc Ff ?_
 refine cp bf (uR p ⟨0,0,0⟩ hp ⟨by decide +kernel,by decide +kernel,by decide +kernel⟩) ?_
 refine bw ?_
 exact aS rfl (.pure rfl)
namespace KM
theorem bQ {p q:Prop} (k:q) (e:p=q:=by simp only [e1,e2,e3,e4,p1,p2,p3,q1,q2,q3,l1,t0,t1,r1,r2,r3,r4,Nat.zero_add,Nat.reduceMul,Nat.reduceAdd,b1,b2,b3,b4,b5,b6,i1,i2,i3,i4,i5,i6,Nat.reduceBEq,List.set_cons_zero,List.set_cons_succ,Nat.reduceEqDiff,reduceIte,if_true,if_false,aN,aM,ae cT,ae cA,ae ah,ax,aC,LV.kill,aH];exact rfl):p:=e.mpr k
end KM
open KM in
theorem sO (p:V3) (hp:eN 100000000000 p):ap Tryz.prog 18 [cQ p] (bL (gF p ⟨0,0,0⟩)):=by
 refine bS Tryz.func18 ?_
 refine cg ?_
 refine jc Ff ?_
 refine cp bf (uB p ⟨0,0,0⟩ hp ⟨by decide +kernel,by decide +kernel,by decide +kernel⟩) ?_
 refine bw ?_
 exact aS rfl (.pure rfl)
namespace L8
theorem bQ {p q:Prop} (k:q) (e:p=q:=by simp only [e1,e2,e3,e4,p1,p2,p3,q1,q2,q3,l1,t0,t1,r1,r2,r3,r4,Nat.zero_add,Nat.reduceMul,Nat.reduceAdd,b1,b2,b3,b4,b5,b6,i1,i2,i3,i4,i5,i6,Nat.reduceBEq,List.set_cons_zero,List.set_cons_succ,Nat.reduceEqDiff,reduceIte,if_true,if_false,aN,aM,ae cT,ae cA,ae ah,ax,aC,LV.kill,aH];exact rfl):p:=e.mpr k
end L8
open L8 in
theorem CK (a b c:V3) (R:Nat) (hR:R≤10000000) (ha:eN R a) (hb:eN R b) (hc:eN R c) (hz:gF (cn a b c) ⟨0,0,0⟩=true):ap Tryz.prog 80 [cQ a,cQ b,cQ c] (.tup [dX HA,iL 9]):=by
 have hn:=nd ha hb hc
 have hs1:=ij hb ha
 have hs2:=ij hc ha
 have hZ:ap Tryz.prog 150 [cQ (cn a b c)] (bL true):=by
  have:=uD (cn a b c) (hn.le (by omega))
  rwa [hz] at this
 refine bS Tryz.func80 (ht:=(fv (cA.pure _) rfl)) ?_
 refine bv ?_
 refine au 8 (by decide +kernel) ?_
 refine bG ?_
 refine cp bf (qn b a R (by omega) hb ha) ?_
 refine bG ?_
 refine cp bf (qn c a R (by omega) hc ha) ?_
 refine cp bf (oa (jz b a) (jz c a) (2*R+1) (by omega) hs1 hs2) ?_
 refine cx ?_
 refine cp bK (hZ) ?_
 refine bG ?_
 refine an rfl (fun h17r h17=>?_) (fun h17r h17=>?_)
 ·refine bG ?_
  refine jc IA ?_
  refine bJ ?_
  exact fG [] rfl rfl rfl cs (bX cs rfl) FK (.pure pu) rfl (.pure rfl)
 ·first | exact absurd rfl h17 | cases h17r
namespace L7
theorem bQ {p q:Prop} (k:q) (e:p=q:=by simp only [e1,e2,e3,e4,p1,p2,p3,q1,q2,q3,l1,t0,t1,r1,r2,r3,r4,Nat.zero_add,Nat.reduceMul,Nat.reduceAdd,b1,b2,b3,b4,b5,b6,i1,i2,i3,i4,i5,i6,Nat.reduceBEq,List.set_cons_zero,List.set_cons_succ,Nat.reduceEqDiff,reduceIte,if_true,if_false,aN,aM,ae cT,ae cA,ae ah,ax,aC,LV.kill,aH];exact rfl):p:=e.mpr k
end L7
open L7 in
theorem FC (a b c:V3) (R:Nat) (hR:R≤10000000) (ha:eN R a) (hb:eN R b) (hc:eN R c) (hz:gF (cn a b c) ⟨0,0,0⟩=false):ap Tryz.prog 80 [cQ a,cQ b,cQ c] (.tup [dX ⟨(cn a b c),cZ (cn a b c) a⟩,iL 0]):=by
 have hn:=nd ha hb hc
 have hs1:=ij hb ha
 have hs2:=ij hc ha
 have hZ:ap Tryz.prog 150 [cQ (cn a b c)] (bL false):=by
  have:=uD (cn a b c) (hn.le (by omega))
  rwa [hz] at this
 refine bS Tryz.func80 (ht:=(fv (cA.pure _) rfl)) ?_
 refine bv ?_
 refine au 8 (by decide +kernel) ?_
 refine bG ?_
 refine cp bf (qn b a R (by omega) hb ha) ?_
 refine bG ?_
 refine cp bf (qn c a R (by omega) hc ha) ?_
 refine cp bf (oa (jz b a) (jz c a) (2*R+1) (by omega) hs1 hs2) ?_
 refine cx ?_
 refine cp bK (hZ) ?_
 refine bG ?_
 refine an rfl (fun h17r h17=>?_) (fun h17r h17=>?_)
 ·first | exact h17.elim | cases h17r
 ·refine bx ?_
  refine au 5 (by decide +kernel) ?_
  refine bx ?_
  refine cp bf (tm (cn a b c) a (8*R+9) (by omega) hn (ha.le (by omega))) ?_
  refine jc (ou (p:=(cn a b c)) (r:=cZ (cn a b c) a) rfl rfl) ?_
  refine ca ?_
  exact fG [] rfl rfl rfl cs (bX cs rfl) FK (.pure pu) rfl (.pure rfl)
namespace KL
theorem bQ {p q:Prop} (k:q) (e:p=q:=by simp only [e1,e2,e3,e4,p1,p2,p3,q1,q2,q3,l1,t0,t1,r1,r2,r3,r4,Nat.zero_add,Nat.reduceMul,Nat.reduceAdd,b1,b2,b3,b4,b5,b6,i1,i2,i3,i4,i5,i6,Nat.reduceBEq,List.set_cons_zero,List.set_cons_succ,Nat.reduceEqDiff,reduceIte,if_true,if_false,aN,aM,ae cT,ae cA,ae ah,ax,aC,LV.kill,aH];exact rfl):p:=e.mpr k
end KL
open KL in
theorem Bw (a b c:V3) (R:Nat) (hR:R≤10000000) (ha:eN R a) (hb:eN R b) (hc:eN R c) (hz:gF (cn a b c) ⟨0,0,0⟩=true):ap Tryz.prog 48 [cQ a,cQ b,cQ c] (.tup [dX HA,iL 9]):=by
 have hn:=nd ha hb hc
 have hs1:=ij hb ha
 have hs2:=ij hc ha
 have hZ:ap Tryz.prog 18 [cQ (cn a b c)] (bL true):=by
  have:=sO (cn a b c) (hn.le (by omega))
  rwa [hz] at this
 refine bS Tryz.func48 (ht:=(fv (cA.pure _) rfl)) ?_
 refine bv ?_
 refine au 8 (by decide +kernel) ?_
 refine bG ?_
 refine cp bf (mz b a R (by omega) hb ha) ?_
 refine bG ?_
 refine cp bf (mz c a R (by omega) hc ha) ?_
 refine cp bf (pi (jz b a) (jz c a) (2*R+1) (by omega) hs1 hs2) ?_
 refine cx ?_
 refine cp bK (hZ) ?_
 refine bG ?_
 refine an rfl (fun h17r h17=>?_) (fun h17r h17=>?_)
 ·refine bG ?_
  refine jc IA ?_
  refine bJ ?_
  exact fG [] rfl rfl rfl cs (bX cs rfl) FK (.pure pu) rfl (.pure rfl)
 ·first | exact absurd rfl h17 | cases h17r
namespace KK
theorem bQ {p q:Prop} (k:q) (e:p=q:=by simp only [e1,e2,e3,e4,p1,p2,p3,q1,q2,q3,l1,t0,t1,r1,r2,r3,r4,Nat.zero_add,Nat.reduceMul,Nat.reduceAdd,b1,b2,b3,b4,b5,b6,i1,i2,i3,i4,i5,i6,Nat.reduceBEq,List.set_cons_zero,List.set_cons_succ,Nat.reduceEqDiff,reduceIte,if_true,if_false,aN,aM,ae cT,ae cA,ae ah,ax,aC,LV.kill,aH];exact rfl):p:=e.mpr k
end KK
open KK in
theorem DO (a b c:V3) (R:Nat) (hR:R≤10000000) (ha:eN R a) (hb:eN R b) (hc:eN R c) (hz:gF (cn a b c) ⟨0,0,0⟩=false):ap Tryz.prog 48 [cQ a,cQ b,cQ c] (.tup [dX ⟨(cn a b c),cZ (cn a b c) a⟩,iL 0]):=by
 have hn:=nd ha hb hc
 have hs1:=ij hb ha
 have hs2:=ij hc ha
 have hZ:ap Tryz.prog 18 [cQ (cn a b c)] (bL false):=by
  have:=sO (cn a b c) (hn.le (by omega))
  rwa [hz] at this
 refine bS Tryz.func48 (ht:=(fv (cA.pure _) rfl)) ?_
 refine bv ?_
 refine au 8 (by decide +kernel) ?_
 refine bG ?_
 refine cp bf (mz b a R (by omega) hb ha) ?_
 refine bG ?_
 refine cp bf (mz c a R (by omega) hc ha) ?_
 refine cp bf (pi (jz b a) (jz c a) (2*R+1) (by omega) hs1 hs2) ?_
 refine cx ?_
 refine cp bK (hZ) ?_
 refine bG ?_
 refine an rfl (fun h17r h17=>?_) (fun h17r h17=>?_)
 ·first | exact h17.elim | cases h17r
 ·refine bx ?_
  refine au 5 (by decide +kernel) ?_
  refine bx ?_
  refine cp bf (tf (cn a b c) a (8*R+9) (by omega) hn (ha.le (by omega))) ?_
  refine jc (ou (p:=(cn a b c)) (r:=cZ (cn a b c) a) rfl rfl) ?_
  refine ca ?_
  exact fG [] rfl rfl rfl cs (bX cs rfl) FK (.pure pu) rfl (.pure rfl)
namespace Mo
theorem bQ {p q:Prop} (k:q) (e:p=q:=by simp only [e1,e2,e3,e4,p1,p2,p3,q1,q2,q3,l1,t0,t1,r1,r2,r3,r4,Nat.zero_add,Nat.reduceMul,Nat.reduceAdd,b1,b2,b3,b4,b5,b6,i1,i2,i3,i4,i5,i6,Nat.reduceBEq,bu,etk,ers,ehpm,aW,cb,ae dW,dE,dU,aQ,bo,aW,List.length_cons,List.length_nil,List.nil_append,List.map_nil,List.take_nil,List.append_nil,List.set_cons_zero,List.set_cons_succ,Nat.reduceEqDiff,reduceIte,if_true,if_false,aN,aM,ae cT,ae cA,ae ah,ax,aC,LV.kill,aH];exact rfl):p:=e.mpr k
end Mo
open Mo in
theorem zP (U V:Nat) (kU kV:List Rat) (rows:List (List PoR)) (R:Nat) (hw:rwOK rows R):ap Tryz.prog 81 [.agg [ai U,ai V,.list 3 (kU.map ratL),.list 3 (kV.map ratL),.list 1 (rows.map bu)]] (.list 9 ((rows.flatten.map (·.p)).map cQ)):=by
 have hsp:LV.pure (.agg [ai U,ai V,.list 3 (kU.map ratL),.list 3 (kV.map ratL),.list 1 (rows.map bu)])=true:=by simp [LV.pure,aD,al ah,al dW]
 have hwn:=hw.n
 have hwf:=hw.f
 refine bS Tryz.func81 (ht:=(fun g=>LV.ren_pure g _ (ak cT 9 _))) ?_
 have etk:True:=trivial
 have ers:True:=trivial
 have ehpm:True:=trivial
 refine tz ?_
 refine cN ((aP.kill _ 1).trans (aP.own (t:=3) 25 9 rfl rfl)) ?_
 refine ik (fun(i:Nat) (ps:List PoR) L=>(((((St.mk L.slot (hp [(25,⟨9,(ps.map (·.p)).map cQ,true⟩)])).put (some 3) (.ref 25 9 0 ps.length)).put (some 9) (.list 1 (rows.map bu))).put (some 10) (ai rows.length)).put (some 11) (ai i))) (fun i ps=>rwI rows i ps) (fun i ps=>rows.length-i) 0 ([]) (rwI.zero rows) ?_
 rintro i ps L1 hI
 refine bJ ?_
 refine an rfl (fun h12r h12=>?_) (fun h12r h12=>?_)
 ·have hi2:i<rows.length:=by omega
  refine ia ?_
  refine ik (fun(j:Nat) (qs:List PoR) L=>((((((((St.mk L.slot (hp [(25,⟨9,(qs.map (·.p)).map cQ,true⟩)])).put (some 3) (.ref 25 9 0 qs.length)).put (some 9) (.list 1 (rows.map bu))).put (some 10) (ai rows.length)).put (some 11) (ai i)).put (some 15) (.list 12 ((rows.getD i []).map dX))).put (some 16) (ai (rows.getD i []).length)).put (some 17) (ai j))) (fun j qs=>rwJ rows i j qs) (fun j qs=>(rows.getD i []).length-j) 0 ps (hI.go hi2) ?_
  rintro j qs L2 hJ
  refine bJ ?_
  refine an rfl (fun h18r h18=>?_) (fun h18r h18=>?_)
  ·have hj2:j<(rows.getD i []).length:=by omega
   have hJe:=hJ.hj
   have hJl:=hJ.le
   have hJi:=hJ.hi
   have hrm:=cm hJi
   have hrl:=hw.m _ hrm
   have ers:(qs.map (·.p))++[((rows.getD i []).getD j default).p]=((qs++[((rows.getD i []).getD j default)]).map (·.p)):=by simp
   have etk:((qs.map (·.p)).map cQ).take qs.length=(qs.map (·.p)).map cQ:=List.take_of_length_le (by simp)
   have ehpm:(qs.map (·.p)).length=qs.length:=List.length_map ..
   have hJ2:=hJ.lt hj2
   refine iP ?_
   refine aK rfl (.appX (d:=25) (news:=[cQ ((rows.getD i []).getD j default).p]) rfl rfl rfl rfl (by simp) (.inl rfl) (by decide) Tryz.underlying122 Tryz.underlying122 F6 lq cs Hc (.inl ⟨24,0,_,rfl,by decide,rfl,rfl,by simp,rfl,by simp [aD,cT.pure]⟩) (by simp;omega) (by simp;omega) (by decide)) ?_
   refine bw ?_
   refine aY ((aP.kill _ 7).trans (aP.kill _ 24)) ?_
   refine ab rfl (.bin rfl rfl (a9 (by omega))) ?_
   refine bx ?_
   exact gk (j+1) (qs++[((rows.getD i []).getD j default)]) (hJ.next hj2)
  ·have hJe:=hJ.hj
   have hJl:=hJ.le
   have hJi:=hJ.hi
   have hrm:=cm hJi
   have hrl:=hw.m _ hrm
   obtain rfl:j=(rows.getD i []).length:=by omega
   refine bV ?_
   refine ab rfl (.bin rfl rfl (a9 (by omega))) ?_
   refine bx ?_
   exact gk (i+1) qs hJ.last (hm:=by have:=hJ.hi;omega)
 ·have hIi:=hI.hi
  obtain rfl:i=rows.length:=by omega
  have hE:=hI.last
  subst hE
  refine bE ?_
  exact fM [25] rfl rfl (bg cT rfl rfl (by rw [List.length_map]))
namespace Ku
theorem bQ {p q:Prop} (k:q) (e:p=q:=by simp only [e1,e2,e3,e4,p1,p2,p3,q1,q2,q3,l1,t0,t1,r1,r2,r3,r4,Nat.zero_add,Nat.reduceMul,Nat.reduceAdd,b1,b2,b3,b4,b5,b6,i1,i2,i3,i4,i5,i6,Nat.reduceBEq,bu,etk,ers,ehpm,aW,cb,ae dW,dE,dU,aQ,bo,aW,List.length_cons,List.length_nil,List.nil_append,List.map_nil,List.take_nil,List.append_nil,List.set_cons_zero,List.set_cons_succ,Nat.reduceEqDiff,reduceIte,if_true,if_false,aN,aM,ae cT,ae cA,ae ah,ax,aC,LV.kill,aH];exact rfl):p:=e.mpr k
end Ku
open Ku in
theorem vJ (U V:Nat) (kU kV:List Rat) (rows:List (List PoR)) (R:Nat) (hw:rwOK rows R):ap Tryz.prog 85 [.agg [ai U,ai V,.list 3 (kU.map ratL),.list 3 (kV.map ratL),.list 1 (rows.map bu)]] (.list 9 ((rows.flatten.map (·.p)).map cQ)):=by
 have hsp:LV.pure (.agg [ai U,ai V,.list 3 (kU.map ratL),.list 3 (kV.map ratL),.list 1 (rows.map bu)])=true:=by simp [LV.pure,aD,al ah,al dW]
 have hwn:=hw.n
 have hwf:=hw.f
 refine bS Tryz.func85 (ht:=(fun g=>LV.ren_pure g _ (ak cT 9 _))) ?_
 have etk:True:=trivial
 have ers:True:=trivial
 have ehpm:True:=trivial
 refine je ?_
 refine cN (aP.own (t:=3) 34 9 rfl rfl) ?_
 refine ik (fun(i:Nat) (ps:List PoR) L=>((((St.mk L.slot (hp [(1,⟨5,[.agg [ai U,ai V,.list 3 (kU.map ratL),.list 3 (kV.map ratL),.list 1 (rows.map bu)]],true⟩),(34,⟨9,(ps.map (·.p)).map cQ,true⟩)])).put (some 1) (.eptr 1 5 0 0)).put (some 3) (.ref 34 9 0 ps.length)).put (some 4) (ai i))) (fun i ps=>rwI rows i ps) (fun i ps=>rows.length-i) 0 ([]) (rwI.zero rows) ?_
 rintro i ps L1 hI
 refine bv ?_
 refine an rfl (fun h10r h10=>?_) (fun h10r h10=>?_)
 ·have hi2:i<rows.length:=by omega
  refine bv ?_
  refine ik (fun(j:Nat) (qs:List PoR) L=>(((((St.mk L.slot (hp [(1,⟨5,[.agg [ai U,ai V,.list 3 (kU.map ratL),.list 3 (kV.map ratL),.list 1 (rows.map bu)]],true⟩),(34,⟨9,(qs.map (·.p)).map cQ,true⟩)])).put (some 1) (.eptr 1 5 0 0)).put (some 3) (.ref 34 9 0 qs.length)).put (some 4) (ai i)).put (some 5) (ai j))) (fun j qs=>rwJ rows i j qs) (fun j qs=>(rows.getD i []).length-j) 0 ps (hI.go hi2) ?_
  rintro j qs L2 hJ
  have hJe:=hJ.hj
  have hJl:=hJ.le
  have hJi:=hJ.hi
  have hrm:=cm hJi
  have hrl:=hw.m _ hrm
  refine ct ?_
  refine an rfl (fun h20r h20=>?_) (fun h20r h20=>?_)
  ·have hj2:j<(rows.getD i []).length:=by omega
   have ers:(qs.map (·.p))++[((rows.getD i []).getD j default).p]=((qs++[((rows.getD i []).getD j default)]).map (·.p)):=by simp
   have etk:((qs.map (·.p)).map cQ).take qs.length=(qs.map (·.p)).map cQ:=List.take_of_length_le (by simp)
   have ehpm:(qs.map (·.p)).length=qs.length:=List.length_map ..
   have hJ2:=hJ.lt hj2
   refine ie ?_
   refine aK rfl (.appX (d:=34) (news:=[cQ ((rows.getD i []).getD j default).p]) rfl rfl rfl rfl (by simp) (.inl rfl) (by decide) Tryz.underlying122 Tryz.underlying122 F6 lq cs Hc (.inl ⟨33,0,_,rfl,by decide,rfl,rfl,by simp,rfl,by simp [aD,cT.pure]⟩) (by simp;omega) (by simp;omega) (by decide)) ?_
   refine bw ?_
   refine aY (aP.kill _ 33) ?_
   refine aL ?_
   refine ab rfl (.bin rfl rfl (a9 (by omega))) ?_
   refine bx ?_
   exact gk (j+1) (qs++[((rows.getD i []).getD j default)]) (hJ.next hj2)
  ·obtain rfl:j=(rows.getD i []).length:=by omega
   refine cx ?_
   refine ab rfl (.bin rfl rfl (a9 (by omega))) ?_
   refine bx ?_
   exact gk (i+1) qs hJ.last (hm:=by have:=hJ.hi;omega)
 ·have hIi:=hI.hi
  obtain rfl:i=rows.length:=by omega
  have hE:=hI.last
  subst hE
  refine bE ?_
  exact fM [34] rfl rfl (bg cT rfl rfl (by rw [List.length_map]))
namespace Lo
theorem bQ {p q:Prop} (k:q) (e:p=q:=by simp only [e1,e2,e3,e4,p1,p2,p3,q1,q2,q3,l1,t0,t1,r1,r2,r3,r4,Nat.zero_add,Nat.reduceMul,Nat.reduceAdd,b1,b2,b3,b4,b5,b6,i1,i2,i3,i4,i5,i6,Nat.reduceBEq,cb,ae dW,dE,dU,aQ,bo,aW,List.length_cons,List.length_nil,List.nil_append,List.map_nil,List.take_nil,List.append_nil,List.set_cons_zero,List.set_cons_succ,Nat.reduceEqDiff,reduceIte,if_true,if_false,aN,aM,ae cT,ae cA,ae ah,ax,aC,LV.kill,aH];exact rfl):p:=e.mpr k
end Lo
open Lo in
theorem D5 (R U V:Nat) (kU kV:List Rat) (rows:List (List PoR)) (h:pf R U V rows) (hR:R≤200000):ap Tryz.prog 33 [.agg [ai U,ai V,.list 3 (kU.map ratL),.list 3 (kV.map ratL),.list 1 (rows.map bu)]] (wx (Fn (rows.flatten.map (·.p)))):=by
 have hsp:LV.pure (.agg [ai U,ai V,.list 3 (kU.map ratL),.list 3 (kV.map ratL),.list 1 (rows.map bu)])=true:=by simp [LV.pure,aD,al ah,al dW]
 have h16:=h.l16
 have h0:=h.pos
 have hpl:(rows.flatten.map (·.p)).length=rows.flatten.length:=List.length_map ..
 refine bS Tryz.func33 (ht:=(fun r=>LV.ren_pure r _ (bxE.pure _))) ?_
 refine cg ?_
 refine cp bK (zP U V kU kV rows R h.rw) ?_
 refine cp bK (yd (rows.flatten.map (·.p)) (by omega) (by omega) R (by omega) (fun i hi=>h.fp hi)) ?_
 refine en ?_
 exact b9 [] rfl rfl rfl cs (bX cs rfl) Em (.pure pu)
namespace Ko
theorem bQ {p q:Prop} (k:q) (e:p=q:=by simp only [e1,e2,e3,e4,p1,p2,p3,q1,q2,q3,l1,t0,t1,r1,r2,r3,r4,Nat.zero_add,Nat.reduceMul,Nat.reduceAdd,b1,b2,b3,b4,b5,b6,i1,i2,i3,i4,i5,i6,Nat.reduceBEq,cb,ae dW,dE,dU,aQ,bo,aW,List.length_cons,List.length_nil,List.nil_append,List.map_nil,List.take_nil,List.append_nil,List.set_cons_zero,List.set_cons_succ,Nat.reduceEqDiff,reduceIte,if_true,if_false,aN,aM,ae cT,ae cA,ae ah,ax,aC,LV.kill,aH];exact rfl):p:=e.mpr k
end Ko
open Ko in
theorem A8 (R U V:Nat) (kU kV:List Rat) (rows:List (List PoR)) (h:pf R U V rows) (hR:R≤200000):ap Tryz.prog 34 [.agg [ai U,ai V,.list 3 (kU.map ratL),.list 3 (kV.map ratL),.list 1 (rows.map bu)]] (wx (Fn (rows.flatten.map (·.p)))):=by
 have hsp:LV.pure (.agg [ai U,ai V,.list 3 (kU.map ratL),.list 3 (kV.map ratL),.list 1 (rows.map bu)])=true:=by simp [LV.pure,aD,al ah,al dW]
 have h16:=h.l16
 have h0:=h.pos
 have hpl:(rows.flatten.map (·.p)).length=rows.flatten.length:=List.length_map ..
 refine bS Tryz.func34 (ht:=(fun r=>LV.ren_pure r _ (bxE.pure _))) ?_
 refine cg ?_
 refine cp bK (vJ U V kU kV rows R h.rw) ?_
 refine cp bK (xD (rows.flatten.map (·.p)) (by omega) (by omega) R (by omega) (fun i hi=>h.fp hi)) ?_
 refine en ?_
 exact b9 [] rfl rfl rfl cs (bX cs rfl) Em (.pure pu)
namespace Lv
theorem bQ {p q:Prop} (k:q) (e:p=q:=by simp only [e1,e2,e3,e4,p1,p2,p3,q1,q2,q3,l1,t0,t1,r1,r2,r3,r4,Nat.zero_add,Nat.reduceMul,Nat.reduceAdd,b1,b2,b3,b4,b5,b6,i1,i2,i3,i4,i5,i6,Nat.reduceBEq,hT,hT2,Bz,u5,Nat.add_sub_cancel,dE,dU,bu,hrn,hr0,hrU,hixU,hixV,hpl,List.length_map,List.take_zero,pK,AU,List.set_cons_zero,List.set_cons_succ,Nat.reduceEqDiff,reduceIte,if_true,if_false,aN,aM,ae cT,ae cA,ae ah,ax,aC,LV.kill,aH];exact rfl):p:=e.mpr k
end Lv
open Lv in
theorem zp (R U V:Nat) (kU kV:List Rat) (rows:List (List PoR)) (h:pf R U V rows) (hR:R≤200000) (hz:gF (cn ((rows.getD 0 []).getD 0 default).p ((rows.getD U []).getD 0 default).p ((rows.getD 0 []).getD V default).p) ⟨0,0,0⟩=true):ap Tryz.prog 27 [.agg [ai U,ai V,.list 3 (kU.map ratL),.list 3 (kV.map ratL),.list 1 (rows.map bu)]] (.tup [ratL 0,iL 9]):=by
 have hsp:LV.pure (.agg [ai U,ai V,.list 3 (kU.map ratL),.list 3 (kV.map ratL),.list 1 (rows.map bu)])=true:=by simp [LV.pure,aD,al ah,al dW]
 have h16:=h.l16
 have h0:=h.pos
 have hpl:(rows.flatten.map (·.p)).length=rows.flatten.length:=List.length_map ..
 have hu3:=h.u3
 have hv3:=h.v3
 have hrn:=h.n
 have hr0:=h.r0 (Nat.zero_le U)
 have hrU:=h.r0 (Nat.le_refl U)
 have hixU:(((U+1:Nat):Int)-1).toNat=U:=by omega
 have hixV:(((V+1:Nat):Int)-1).toNat=V:=by omega
 have hA:=h.pt (i:=0) (j:=0) (by omega) (by omega)
 have hB:=h.pt (i:=U) (j:=0) (by omega) (by omega)
 have hC:=h.pt (i:=0) (j:=V) (by omega) (by omega)
 have hT:(rows.flatten.map (·.p)).take (rows.flatten.map (·.p)).length=(rows.flatten.map (·.p)):=List.take_of_length_le (Nat.le_refl _)
 have hT2:(rows.flatten.map (·.p)).take rows.flatten.length=(rows.flatten.map (·.p)):=by rw [←hpl];exact hT
 refine bS Tryz.func27 (ht:=(fv (ah.pure _) rfl)) ?_
 refine en ?_
 refine ab (ao (v:=false) rfl rfl ((beq_eq_false_iff_ne.2 (by first | omega | (simp only [List.length_map,bu,hrn,dE,t0,t1,Nat.add_sub_cancel,hr0,hixU,hrU];omega)))) rfl) gI ?_
 refine ab (ao (v:=false) rfl rfl ((beq_eq_false_iff_ne.2 (by first | omega | (simp only [List.length_map,bu,hrn,dE,t0,t1,Nat.add_sub_cancel,hr0,hixU,hrU];omega)))) rfl) fS ?_
 refine ab (ao (v:=false) rfl rfl ((beq_eq_false_iff_ne.2 (by first | omega | (simp only [List.length_map,bu,hrn,dE,t0,t1,Nat.add_sub_cancel,hr0,hixU,hrU];omega)))) rfl) qN ?_
 refine ab (ao (v:=false) rfl rfl ((beq_eq_false_iff_ne.2 (by first | omega | (simp only [List.length_map,bu,hrn,dE,t0,t1,Nat.add_sub_cancel,hr0,hixU,hrU];omega)))) rfl) fS ?_
 refine ab (ao (v:=false) rfl rfl ((beq_eq_false_iff_ne.2 (by first | omega | (simp only [List.length_map,bu,hrn,dE,t0,t1,Nat.add_sub_cancel,hr0,hixU,hrU];omega)))) rfl) vp ?_
 refine ab (ao (v:=false) rfl rfl ((beq_eq_false_iff_ne.2 (by first | omega | (simp only [List.length_map,bu,hrn,dE,t0,t1,Nat.add_sub_cancel,hr0,hixU,hrU];omega)))) rfl) (.bin rfl rfl rfl) ?_
 refine ab rfl (.pickF rfl ((beq_eq_false_iff_ne.2 (by first | omega | (simp only [List.length_map,bu,hrn,dE,t0,t1,Nat.add_sub_cancel,hr0,hixU,hrU];omega))))) ?_
 refine aL ?_
 refine ab (ao (v:=false) rfl rfl ((beq_eq_false_iff_ne.2 (by first | omega | (simp only [List.length_map,bu,hrn,dE,t0,t1,Nat.add_sub_cancel,hr0,hixU,hrU];omega)))) rfl) gI ?_
 refine ab (ao (v:=false) rfl rfl ((beq_eq_false_iff_ne.2 (by first | omega | (simp only [List.length_map,bu,hrn,dE,t0,t1,Nat.add_sub_cancel,hr0,hixU,hrU];omega)))) rfl) fS ?_
 refine ab (ao (v:=false) rfl rfl ((beq_eq_false_iff_ne.2 (by first | omega | (simp only [List.length_map,bu,hrn,dE,t0,t1,Nat.add_sub_cancel,hr0,hixU,hrU];omega)))) rfl) gI ?_
 refine ab (ao (v:=false) rfl rfl ((beq_eq_false_iff_ne.2 (by first | omega | (simp only [List.length_map,bu,hrn,dE,t0,t1,Nat.add_sub_cancel,hr0,hixU,hrU];omega)))) rfl) fS ?_
 refine ab (ao (v:=false) rfl rfl ((beq_eq_false_iff_ne.2 (by first | omega | (simp only [List.length_map,bu,hrn,dE,t0,t1,Nat.add_sub_cancel,hr0,hixU,hrU];omega)))) rfl) vp ?_
 refine ab (ao (v:=false) rfl rfl ((beq_eq_false_iff_ne.2 (by first | omega | (simp only [List.length_map,bu,hrn,dE,t0,t1,Nat.add_sub_cancel,hr0,hixU,hrU];omega)))) rfl) (.bin rfl rfl (ee (by first | omega | (simp only [List.length_map,bu,hrn,dE,t0,t1,Nat.add_sub_cancel,hr0,hixU,hrU];omega)) (by first | omega | (simp only [List.length_map,bu,hrn,dE,t0,t1,Nat.add_sub_cancel,hr0,hixU,hrU];omega)))) ?_
 refine ab (ao (v:=false) rfl rfl ((beq_eq_false_iff_ne.2 (by first | omega | (simp only [List.length_map,bu,hrn,dE,t0,t1,Nat.add_sub_cancel,hr0,hixU,hrU];omega)))) rfl) qN ?_
 try simp only [t1,dE,bu,List.length_map,hrn,hixU,Nat.add_sub_cancel]
 refine ab (ao (v:=false) rfl rfl ((beq_eq_false_iff_ne.2 (by first | omega | (simp only [List.length_map,bu,hrn,dE,t0,t1,Nat.add_sub_cancel,hr0,hixU,hrU];omega)))) rfl) fS ?_
 refine ab (ao (v:=false) rfl rfl ((beq_eq_false_iff_ne.2 (by first | omega | (simp only [List.length_map,bu,hrn,dE,t0,t1,Nat.add_sub_cancel,hr0,hixU,hrU];omega)))) rfl) vp ?_
 refine ab (ao (v:=false) rfl rfl ((beq_eq_false_iff_ne.2 (by first | omega | (simp only [List.length_map,bu,hrn,dE,t0,t1,Nat.add_sub_cancel,hr0,hixU,hrU];omega)))) rfl) (.bin rfl rfl rfl) ?_
 refine ab rfl (.pickF rfl ((beq_eq_false_iff_ne.2 (by first | omega | (simp only [List.length_map,bu,hrn,dE,t0,t1,Nat.add_sub_cancel,hr0,hixU,hrU];omega))))) ?_
 refine bG ?_
 refine bb (b:=_) rfl (beq_eq_false_iff_ne.2 (by first | omega | (simp only [List.length_map,bu,hrn,dE,t0,t1,Nat.add_sub_cancel,hr0,hixU,hrU];omega))) ?_
 refine bE ?_
 refine d7 27 [25] (by decide +kernel) ?_
 refine cg ?_
 refine ab rfl (.bin rfl rfl (ee (by first | omega | (simp only [List.length_map,bu,hrn,dE,t0,t1,Nat.add_sub_cancel,hr0,hixU,hrU];omega)) (by first | omega | (simp only [List.length_map,bu,hrn,dE,t0,t1,Nat.add_sub_cancel,hr0,hixU,hrU];omega)))) ?_
 refine cx ?_
 refine ab rfl (.bin rfl rfl (ee (by first | omega | (simp only [List.length_map,bu,hrn,dE,t0,t1,Nat.add_sub_cancel,hr0,hixU,hrU];omega)) (by first | omega | (simp only [List.length_map,bu,hrn,dE,t0,t1,Nat.add_sub_cancel,hr0,hixU,hrU];omega)))) ?_
 refine bx ?_
 try simp only [t1,dE,dU,bu,List.length_map,hrn,hr0,hrU,hixU,hixV,Nat.add_sub_cancel]
 refine cp jt (CK ((rows.getD 0 []).getD 0 default).p ((rows.getD U []).getD 0 default).p ((rows.getD 0 []).getD V default).p R (by omega) hA hB hC hz) ?_
 refine en ?_
 refine aR (b:=_) rfl (rfl) ?_
 refine bG ?_
 refine ab rfl (.build0 lU cz) ?_
 refine bV ?_
 exact fG [] rfl rfl rfl (ah.csize _) (am _) bF (.pure (ah.pure _)) rfl (.pure rfl)
namespace Lu
theorem bQ {p q:Prop} (k:q) (e:p=q:=by simp only [e1,e2,e3,e4,p1,p2,p3,q1,q2,q3,l1,t0,t1,r1,r2,r3,r4,Nat.zero_add,Nat.reduceMul,Nat.reduceAdd,b1,b2,b3,b4,b5,b6,i1,i2,i3,i4,i5,i6,Nat.reduceBEq,hT,hT2,cL,Bz,u5,Nat.add_sub_cancel,dE,dU,bu,hrn,hr0,hrU,hixU,hixV,hpl,List.length_map,List.take_zero,pK,AU,List.set_cons_zero,List.set_cons_succ,Nat.reduceEqDiff,reduceIte,if_true,if_false,aN,aM,ae cT,ae cA,ae ah,ax,aC,LV.kill,aH];exact rfl):p:=e.mpr k
end Lu
open Lu in
theorem vk (R U V:Nat) (kU kV:List Rat) (rows:List (List PoR)) (h:pf R U V rows) (hR:R≤200000) (hz:gF (cn ((rows.getD 0 []).getD 0 default).p ((rows.getD U []).getD 0 default).p ((rows.getD 0 []).getD V default).p) ⟨0,0,0⟩=false):ap Tryz.prog 27 [.agg [ai U,ai V,.list 3 (kU.map ratL),.list 3 (kV.map ratL),.list 1 (rows.map bu)]] (.tup [ratL ((oM (cn ((rows.getD 0 []).getD 0 default).p ((rows.getD U []).getD 0 default).p ((rows.getD 0 []).getD V default).p) (cZ (cn ((rows.getD 0 []).getD 0 default).p ((rows.getD U []).getD 0 default).p ((rows.getD 0 []).getD V default).p) ((rows.getD 0 []).getD 0 default).p) (rows.flatten.map (·.p)))/(cZ (cn ((rows.getD 0 []).getD 0 default).p ((rows.getD U []).getD 0 default).p ((rows.getD 0 []).getD V default).p) (cn ((rows.getD 0 []).getD 0 default).p ((rows.getD U []).getD 0 default).p ((rows.getD 0 []).getD V default).p))),iL 0]):=by
 have hsp:LV.pure (.agg [ai U,ai V,.list 3 (kU.map ratL),.list 3 (kV.map ratL),.list 1 (rows.map bu)])=true:=by simp [LV.pure,aD,al ah,al dW]
 have h16:=h.l16
 have h0:=h.pos
 have hpl:(rows.flatten.map (·.p)).length=rows.flatten.length:=List.length_map ..
 have hu3:=h.u3
 have hv3:=h.v3
 have hrn:=h.n
 have hr0:=h.r0 (Nat.zero_le U)
 have hrU:=h.r0 (Nat.le_refl U)
 have hixU:(((U+1:Nat):Int)-1).toNat=U:=by omega
 have hixV:(((V+1:Nat):Int)-1).toNat=V:=by omega
 have hA:=h.pt (i:=0) (j:=0) (by omega) (by omega)
 have hB:=h.pt (i:=U) (j:=0) (by omega) (by omega)
 have hC:=h.pt (i:=0) (j:=V) (by omega) (by omega)
 have hT:(rows.flatten.map (·.p)).take (rows.flatten.map (·.p)).length=(rows.flatten.map (·.p)):=List.take_of_length_le (Nat.le_refl _)
 have hT2:(rows.flatten.map (·.p)).take rows.flatten.length=(rows.flatten.map (·.p)):=by rw [←hpl];exact hT
 have hnb:eN (8*R+9) (cn ((rows.getD 0 []).getD 0 default).p ((rows.getD U []).getD 0 default).p ((rows.getD 0 []).getD V default).p):=h.thb
 have hdr:rl (cZ (cn ((rows.getD 0 []).getD 0 default).p ((rows.getD U []).getD 0 default).p ((rows.getD 0 []).getD V default).p) ((rows.getD 0 []).getD 0 default).p)≤27*R+31:=by have:=kz hnb hA;omega
 have hdd:rl (cZ (cn ((rows.getD 0 []).getD 0 default).p ((rows.getD U []).getD 0 default).p ((rows.getD 0 []).getD V default).p) (cn ((rows.getD 0 []).getD 0 default).p ((rows.getD U []).getD 0 default).p ((rows.getD 0 []).getD V default).p))≤48*R+58:=by have:=kz hnb hnb;omega
 have hfa:=fun i=>tE hnb hdr h.fa i
 have hdp:0<(cZ (cn ((rows.getD 0 []).getD 0 default).p ((rows.getD U []).getD 0 default).p ((rows.getD 0 []).getD V default).p) (cn ((rows.getD 0 []).getD 0 default).p ((rows.getD U []).getD 0 default).p ((rows.getD 0 []).getD V default).p)):=y6 hz
 refine bS Tryz.func27 (ht:=(fv (ah.pure _) rfl)) ?_
 refine en ?_
 refine ab (ao (v:=false) rfl rfl ((beq_eq_false_iff_ne.2 (by first | omega | (simp only [List.length_map,bu,hrn,dE,t0,t1,Nat.add_sub_cancel,hr0,hixU,hrU];omega)))) rfl) gI ?_
 refine ab (ao (v:=false) rfl rfl ((beq_eq_false_iff_ne.2 (by first | omega | (simp only [List.length_map,bu,hrn,dE,t0,t1,Nat.add_sub_cancel,hr0,hixU,hrU];omega)))) rfl) fS ?_
 refine ab (ao (v:=false) rfl rfl ((beq_eq_false_iff_ne.2 (by first | omega | (simp only [List.length_map,bu,hrn,dE,t0,t1,Nat.add_sub_cancel,hr0,hixU,hrU];omega)))) rfl) qN ?_
 refine ab (ao (v:=false) rfl rfl ((beq_eq_false_iff_ne.2 (by first | omega | (simp only [List.length_map,bu,hrn,dE,t0,t1,Nat.add_sub_cancel,hr0,hixU,hrU];omega)))) rfl) fS ?_
 refine ab (ao (v:=false) rfl rfl ((beq_eq_false_iff_ne.2 (by first | omega | (simp only [List.length_map,bu,hrn,dE,t0,t1,Nat.add_sub_cancel,hr0,hixU,hrU];omega)))) rfl) vp ?_
 refine ab (ao (v:=false) rfl rfl ((beq_eq_false_iff_ne.2 (by first | omega | (simp only [List.length_map,bu,hrn,dE,t0,t1,Nat.add_sub_cancel,hr0,hixU,hrU];omega)))) rfl) (.bin rfl rfl rfl) ?_
 refine ab rfl (.pickF rfl ((beq_eq_false_iff_ne.2 (by first | omega | (simp only [List.length_map,bu,hrn,dE,t0,t1,Nat.add_sub_cancel,hr0,hixU,hrU];omega))))) ?_
 refine aL ?_
 refine ab (ao (v:=false) rfl rfl ((beq_eq_false_iff_ne.2 (by first | omega | (simp only [List.length_map,bu,hrn,dE,t0,t1,Nat.add_sub_cancel,hr0,hixU,hrU];omega)))) rfl) gI ?_
 refine ab (ao (v:=false) rfl rfl ((beq_eq_false_iff_ne.2 (by first | omega | (simp only [List.length_map,bu,hrn,dE,t0,t1,Nat.add_sub_cancel,hr0,hixU,hrU];omega)))) rfl) fS ?_
 refine ab (ao (v:=false) rfl rfl ((beq_eq_false_iff_ne.2 (by first | omega | (simp only [List.length_map,bu,hrn,dE,t0,t1,Nat.add_sub_cancel,hr0,hixU,hrU];omega)))) rfl) gI ?_
 refine ab (ao (v:=false) rfl rfl ((beq_eq_false_iff_ne.2 (by first | omega | (simp only [List.length_map,bu,hrn,dE,t0,t1,Nat.add_sub_cancel,hr0,hixU,hrU];omega)))) rfl) fS ?_
 refine ab (ao (v:=false) rfl rfl ((beq_eq_false_iff_ne.2 (by first | omega | (simp only [List.length_map,bu,hrn,dE,t0,t1,Nat.add_sub_cancel,hr0,hixU,hrU];omega)))) rfl) vp ?_
 refine ab (ao (v:=false) rfl rfl ((beq_eq_false_iff_ne.2 (by first | omega | (simp only [List.length_map,bu,hrn,dE,t0,t1,Nat.add_sub_cancel,hr0,hixU,hrU];omega)))) rfl) (.bin rfl rfl (ee (by first | omega | (simp only [List.length_map,bu,hrn,dE,t0,t1,Nat.add_sub_cancel,hr0,hixU,hrU];omega)) (by first | omega | (simp only [List.length_map,bu,hrn,dE,t0,t1,Nat.add_sub_cancel,hr0,hixU,hrU];omega)))) ?_
 refine ab (ao (v:=false) rfl rfl ((beq_eq_false_iff_ne.2 (by first | omega | (simp only [List.length_map,bu,hrn,dE,t0,t1,Nat.add_sub_cancel,hr0,hixU,hrU];omega)))) rfl) qN ?_
 try simp only [t1,dE,bu,List.length_map,hrn,hixU,Nat.add_sub_cancel]
 refine ab (ao (v:=false) rfl rfl ((beq_eq_false_iff_ne.2 (by first | omega | (simp only [List.length_map,bu,hrn,dE,t0,t1,Nat.add_sub_cancel,hr0,hixU,hrU];omega)))) rfl) fS ?_
 refine ab (ao (v:=false) rfl rfl ((beq_eq_false_iff_ne.2 (by first | omega | (simp only [List.length_map,bu,hrn,dE,t0,t1,Nat.add_sub_cancel,hr0,hixU,hrU];omega)))) rfl) vp ?_
 refine ab (ao (v:=false) rfl rfl ((beq_eq_false_iff_ne.2 (by first | omega | (simp only [List.length_map,bu,hrn,dE,t0,t1,Nat.add_sub_cancel,hr0,hixU,hrU];omega)))) rfl) (.bin rfl rfl rfl) ?_
 refine ab rfl (.pickF rfl ((beq_eq_false_iff_ne.2 (by first | omega | (simp only [List.length_map,bu,hrn,dE,t0,t1,Nat.add_sub_cancel,hr0,hixU,hrU];omega))))) ?_
 refine bG ?_
 refine bb (b:=_) rfl (beq_eq_false_iff_ne.2 (by first | omega | (simp only [List.length_map,bu,hrn,dE,t0,t1,Nat.add_sub_cancel,hr0,hixU,hrU];omega))) ?_
 refine bE ?_
 refine d7 27 [25] (by decide +kernel) ?_
 refine cg ?_
 refine ab rfl (.bin rfl rfl (ee (by first | omega | (simp only [List.length_map,bu,hrn,dE,t0,t1,Nat.add_sub_cancel,hr0,hixU,hrU];omega)) (by first | omega | (simp only [List.length_map,bu,hrn,dE,t0,t1,Nat.add_sub_cancel,hr0,hixU,hrU];omega)))) ?_
 refine cx ?_
 refine ab rfl (.bin rfl rfl (ee (by first | omega | (simp only [List.length_map,bu,hrn,dE,t0,t1,Nat.add_sub_cancel,hr0,hixU,hrU];omega)) (by first | omega | (simp only [List.length_map,bu,hrn,dE,t0,t1,Nat.add_sub_cancel,hr0,hixU,hrU];omega)))) ?_
 refine bx ?_
 try simp only [t1,dE,dU,bu,List.length_map,hrn,hr0,hrU,hixU,hixV,Nat.add_sub_cancel]
 refine cp jt (FC ((rows.getD 0 []).getD 0 default).p ((rows.getD U []).getD 0 default).p ((rows.getD 0 []).getD V default).p R (by omega) hA hB hC hz) ?_
 refine en ?_
 refine bb (b:=_) rfl (rfl) ?_
 refine bD ?_
 refine cp bK (zP U V kU kV rows R h.rw) ?_
 refine ca ?_
 refine gE (fun(i:Nat) L=>((((((((St.mk L.slot (hp [(1,⟨5,[.agg [ai U,ai V,.list 3 (kU.map ratL),.list 3 (kV.map ratL),.list 1 (rows.map bu)]],true⟩),(2,⟨3,[ratL 0],true⟩),(5,⟨12,[dX ⟨(cn ((rows.getD 0 []).getD 0 default).p ((rows.getD U []).getD 0 default).p ((rows.getD 0 []).getD V default).p),(cZ (cn ((rows.getD 0 []).getD 0 default).p ((rows.getD U []).getD 0 default).p ((rows.getD 0 []).getD V default).p) ((rows.getD 0 []).getD 0 default).p)⟩],true⟩),(7,⟨3,[ratL (oM (cn ((rows.getD 0 []).getD 0 default).p ((rows.getD U []).getD 0 default).p ((rows.getD 0 []).getD V default).p) (cZ (cn ((rows.getD 0 []).getD 0 default).p ((rows.getD U []).getD 0 default).p ((rows.getD 0 []).getD V default).p) ((rows.getD 0 []).getD 0 default).p) ((rows.flatten.map (·.p)).take i))],true⟩)])).put (some 1) (.eptr 1 5 0 0)).put (some 2) (.eptr 2 3 0 0)).put (some 5) (.eptr 5 12 0 0)).put (some 7) (.eptr 7 3 0 0)).put (some 73) (.list 9 ((rows.flatten.map (·.p)).map cQ))).put (some 74) (ai (rows.flatten.map (·.p)).length)).put (some 75) (ai i))) (fun i=>i≤(rows.flatten.map (·.p)).length) (fun i=>(rows.flatten.map (·.p)).length-i) 0 (Nat.zero_le _) ?_
 rintro i L1 hi
 refine bJ ?_
 refine an rfl (fun h76r h76=>?_) (fun h76r h76=>?_)
 ·have hi2:i<(rows.flatten.map (·.p)).length:=by omega
  have hP:=h.fp hi2
  obtain⟨z1,z2,z3⟩:=xd hnb hdr hP
  have hfi:=hfa i
  have hM:ap Tryz.prog 84 [ratL (oM (cn ((rows.getD 0 []).getD 0 default).p ((rows.getD U []).getD 0 default).p ((rows.getD 0 []).getD V default).p) (cZ (cn ((rows.getD 0 []).getD 0 default).p ((rows.getD U []).getD 0 default).p ((rows.getD 0 []).getD V default).p) ((rows.getD 0 []).getD 0 default).p) ((rows.flatten.map (·.p)).take i)),ratL ((cZ (cn ((rows.getD 0 []).getD 0 default).p ((rows.getD U []).getD 0 default).p ((rows.getD 0 []).getD V default).p) ((rows.flatten.map (·.p)).getD i default)-(cZ (cn ((rows.getD 0 []).getD 0 default).p ((rows.getD U []).getD 0 default).p ((rows.getD 0 []).getD V default).p) ((rows.getD 0 []).getD 0 default).p))*(cZ (cn ((rows.getD 0 []).getD 0 default).p ((rows.getD U []).getD 0 default).p ((rows.getD 0 []).getD V default).p) ((rows.flatten.map (·.p)).getD i default)-(cZ (cn ((rows.getD 0 []).getD 0 default).p ((rows.getD U []).getD 0 default).p ((rows.getD 0 []).getD V default).p) ((rows.getD 0 []).getD 0 default).p)))] (ratL (oM (cn ((rows.getD 0 []).getD 0 default).p ((rows.getD U []).getD 0 default).p ((rows.getD 0 []).getD V default).p) (cZ (cn ((rows.getD 0 []).getD 0 default).p ((rows.getD U []).getD 0 default).p ((rows.getD 0 []).getD V default).p) ((rows.getD 0 []).getD 0 default).p) ((rows.flatten.map (·.p)).take (i+1)))):=by
   have:ap Tryz.prog 84 [ratL (oM (cn ((rows.getD 0 []).getD 0 default).p ((rows.getD U []).getD 0 default).p ((rows.getD 0 []).getD V default).p) (cZ (cn ((rows.getD 0 []).getD 0 default).p ((rows.getD U []).getD 0 default).p ((rows.getD 0 []).getD V default).p) ((rows.getD 0 []).getD 0 default).p) ((rows.flatten.map (·.p)).take i)),ratL ((cZ (cn ((rows.getD 0 []).getD 0 default).p ((rows.getD U []).getD 0 default).p ((rows.getD 0 []).getD V default).p) ((rows.flatten.map (·.p)).getD i default)-(cZ (cn ((rows.getD 0 []).getD 0 default).p ((rows.getD U []).getD 0 default).p ((rows.getD 0 []).getD V default).p) ((rows.getD 0 []).getD 0 default).p))*(cZ (cn ((rows.getD 0 []).getD 0 default).p ((rows.getD U []).getD 0 default).p ((rows.getD 0 []).getD V default).p) ((rows.flatten.map (·.p)).getD i default)-(cZ (cn ((rows.getD 0 []).getD 0 default).p ((rows.getD U []).getD 0 default).p ((rows.getD 0 []).getD V default).p) ((rows.getD 0 []).getD 0 default).p)))] (ratL (mA (oM (cn ((rows.getD 0 []).getD 0 default).p ((rows.getD U []).getD 0 default).p ((rows.getD 0 []).getD V default).p) (cZ (cn ((rows.getD 0 []).getD 0 default).p ((rows.getD U []).getD 0 default).p ((rows.getD 0 []).getD V default).p) ((rows.getD 0 []).getD 0 default).p) ((rows.flatten.map (·.p)).take i)) ((cZ (cn ((rows.getD 0 []).getD 0 default).p ((rows.getD U []).getD 0 default).p ((rows.getD 0 []).getD V default).p) ((rows.flatten.map (·.p)).getD i default)-(cZ (cn ((rows.getD 0 []).getD 0 default).p ((rows.getD U []).getD 0 default).p ((rows.getD 0 []).getD V default).p) ((rows.getD 0 []).getD 0 default).p))*(cZ (cn ((rows.getD 0 []).getD 0 default).p ((rows.getD U []).getD 0 default).p ((rows.getD 0 []).getD V default).p) ((rows.flatten.map (·.p)).getD i default)-(cZ (cn ((rows.getD 0 []).getD 0 default).p ((rows.getD U []).getD 0 default).p ((rows.getD 0 []).getD V default).p) ((rows.getD 0 []).getD 0 default).p))))):=tA (oM (cn ((rows.getD 0 []).getD 0 default).p ((rows.getD U []).getD 0 default).p ((rows.getD 0 []).getD V default).p) (cZ (cn ((rows.getD 0 []).getD 0 default).p ((rows.getD U []).getD 0 default).p ((rows.getD 0 []).getD V default).p) ((rows.getD 0 []).getD 0 default).p) ((rows.flatten.map (·.p)).take i)) ((cZ (cn ((rows.getD 0 []).getD 0 default).p ((rows.getD U []).getD 0 default).p ((rows.getD 0 []).getD V default).p) ((rows.flatten.map (·.p)).getD i default)-(cZ (cn ((rows.getD 0 []).getD 0 default).p ((rows.getD U []).getD 0 default).p ((rows.getD 0 []).getD V default).p) ((rows.getD 0 []).getD 0 default).p))*(cZ (cn ((rows.getD 0 []).getD 0 default).p ((rows.getD U []).getD 0 default).p ((rows.getD 0 []).getD V default).p) ((rows.flatten.map (·.p)).getD i default)-(cZ (cn ((rows.getD 0 []).getD 0 default).p ((rows.getD U []).getD 0 default).p ((rows.getD 0 []).getD V default).p) ((rows.getD 0 []).getD 0 default).p))) (by omega)
   rwa [vy _ _ _ hi2] at this
  refine ct ?_
  refine au 8 (by decide +kernel) ?_
  refine bx ?_
  refine cp bf (tm (cn ((rows.getD 0 []).getD 0 default).p ((rows.getD U []).getD 0 default).p ((rows.getD 0 []).getD V default).p) ((rows.flatten.map (·.p)).getD i default) (8*R+9) (by omega) hnb (hP.le (by omega))) ?_
  refine bG ?_
  refine cp bf (gg (cZ (cn ((rows.getD 0 []).getD 0 default).p ((rows.getD U []).getD 0 default).p ((rows.getD 0 []).getD V default).p) ((rows.flatten.map (·.p)).getD i default)) (cZ (cn ((rows.getD 0 []).getD 0 default).p ((rows.getD U []).getD 0 default).p ((rows.getD 0 []).getD V default).p) ((rows.getD 0 []).getD 0 default).p) (by omega)) ?_
  refine bw ?_
  refine au 5 (by decide +kernel) ?_
  refine bx ?_
  refine cp bf (dc (cZ (cn ((rows.getD 0 []).getD 0 default).p ((rows.getD U []).getD 0 default).p ((rows.getD 0 []).getD V default).p) ((rows.flatten.map (·.p)).getD i default)-(cZ (cn ((rows.getD 0 []).getD 0 default).p ((rows.getD U []).getD 0 default).p ((rows.getD 0 []).getD V default).p) ((rows.getD 0 []).getD 0 default).p)) (cZ (cn ((rows.getD 0 []).getD 0 default).p ((rows.getD U []).getD 0 default).p ((rows.getD 0 []).getD V default).p) ((rows.flatten.map (·.p)).getD i default)-(cZ (cn ((rows.getD 0 []).getD 0 default).p ((rows.getD U []).getD 0 default).p ((rows.getD 0 []).getD V default).p) ((rows.getD 0 []).getD 0 default).p)) (by omega)) ?_
  refine cp bf (hM) ?_
  refine bw ?_
  refine aY ((aP.kill _ 10).trans (aP.kill _ 9)) ?_
  refine ab rfl (.bin rfl rfl (a9 (by omega))) ?_
  refine bx ?_
  exact fA (i+1) (by omega)
 ·obtain rfl:i=(rows.flatten.map (·.p)).length:=by omega
  refine bJ ?_
  refine d7 11 [9] (by decide +kernel) ?_
  refine ca ?_
  refine cp bf (tm (cn ((rows.getD 0 []).getD 0 default).p ((rows.getD U []).getD 0 default).p ((rows.getD 0 []).getD V default).p) (cn ((rows.getD 0 []).getD 0 default).p ((rows.getD U []).getD 0 default).p ((rows.getD 0 []).getD V default).p) (8*R+9) (by omega) hnb hnb) ?_
  simp only [hT]
  refine cp bf (qC (oM (cn ((rows.getD 0 []).getD 0 default).p ((rows.getD U []).getD 0 default).p ((rows.getD 0 []).getD V default).p) (cZ (cn ((rows.getD 0 []).getD 0 default).p ((rows.getD U []).getD 0 default).p ((rows.getD 0 []).getD V default).p) ((rows.getD 0 []).getD 0 default).p) (rows.flatten.map (·.p))) (cZ (cn ((rows.getD 0 []).getD 0 default).p ((rows.getD U []).getD 0 default).p ((rows.getD 0 []).getD V default).p) (cn ((rows.getD 0 []).getD 0 default).p ((rows.getD U []).getD 0 default).p ((rows.getD 0 []).getD V default).p)) (by have:=hfa (rows.flatten.map (·.p)).length;rw [hT] at this;omega)) ?_
  refine ie ?_
  exact fG [] rfl rfl rfl (ah.csize _) (am _) bF (.pure (ah.pure _)) rfl (.pure rfl)
namespace Kr
theorem bQ {p q:Prop} (k:q) (e:p=q:=by simp only [e1,e2,e3,e4,p1,p2,p3,q1,q2,q3,l1,t0,t1,r1,r2,r3,r4,Nat.zero_add,Nat.reduceMul,Nat.reduceAdd,b1,b2,b3,b4,b5,b6,i1,i2,i3,i4,i5,i6,Nat.reduceBEq,hT,hT2,Bz,u5,Nat.add_sub_cancel,dE,dU,bu,hrn,hr0,hrU,hixU,hixV,hpl,List.length_map,List.take_zero,pK,AU,List.set_cons_zero,List.set_cons_succ,Nat.reduceEqDiff,reduceIte,if_true,if_false,aN,aM,ae cT,ae cA,ae ah,ax,aC,LV.kill,aH];exact rfl):p:=e.mpr k
end Kr
open Kr in
theorem v7 (R U V:Nat) (kU kV:List Rat) (rows:List (List PoR)) (h:pf R U V rows) (hR:R≤200000) (hz:gF (cn ((rows.getD 0 []).getD 0 default).p ((rows.getD U []).getD 0 default).p ((rows.getD 0 []).getD V default).p) ⟨0,0,0⟩=true):ap Tryz.prog 28 [.agg [ai U,ai V,.list 3 (kU.map ratL),.list 3 (kV.map ratL),.list 1 (rows.map bu)]] (.tup [ratL 0,iL 9]):=by
 have hsp:LV.pure (.agg [ai U,ai V,.list 3 (kU.map ratL),.list 3 (kV.map ratL),.list 1 (rows.map bu)])=true:=by simp [LV.pure,aD,al ah,al dW]
 have h16:=h.l16
 have h0:=h.pos
 have hpl:(rows.flatten.map (·.p)).length=rows.flatten.length:=List.length_map ..
 have hu3:=h.u3
 have hv3:=h.v3
 have hrn:=h.n
 have hr0:=h.r0 (Nat.zero_le U)
 have hrU:=h.r0 (Nat.le_refl U)
 have hixU:(((U+1:Nat):Int)-1).toNat=U:=by omega
 have hixV:(((V+1:Nat):Int)-1).toNat=V:=by omega
 have hA:=h.pt (i:=0) (j:=0) (by omega) (by omega)
 have hB:=h.pt (i:=U) (j:=0) (by omega) (by omega)
 have hC:=h.pt (i:=0) (j:=V) (by omega) (by omega)
 have hT:(rows.flatten.map (·.p)).take (rows.flatten.map (·.p)).length=(rows.flatten.map (·.p)):=List.take_of_length_le (Nat.le_refl _)
 have hT2:(rows.flatten.map (·.p)).take rows.flatten.length=(rows.flatten.map (·.p)):=by rw [←hpl];exact hT
 refine bS Tryz.func28 (ht:=(fv (ah.pure _) rfl)) ?_
 refine cx ?_
 refine d7 30 [28] (by decide +kernel) ?_
 refine vU ?_
 try simp only [t1,dE,dU,bu,List.length_map]
 refine cp jt (Bw ((rows.getD 0 []).getD 0 default).p ((rows.getD U []).getD 0 default).p ((rows.getD 0 []).getD V default).p R (by omega) hA hB hC hz) ?_
 refine en ?_
 refine aR (b:=_) rfl (rfl) ?_
 refine bG ?_
 refine ab rfl (.build0 lU cz) ?_
 refine bV ?_
 exact fG [] rfl rfl rfl (ah.csize _) (am _) bF (.pure (ah.pure _)) rfl (.pure rfl)
namespace Kq
theorem bQ {p q:Prop} (k:q) (e:p=q:=by simp only [e1,e2,e3,e4,p1,p2,p3,q1,q2,q3,l1,t0,t1,r1,r2,r3,r4,Nat.zero_add,Nat.reduceMul,Nat.reduceAdd,b1,b2,b3,b4,b5,b6,i1,i2,i3,i4,i5,i6,Nat.reduceBEq,hT,hT2,cL,Bz,u5,Nat.add_sub_cancel,dE,dU,bu,hrn,hr0,hrU,hixU,hixV,hpl,List.length_map,List.take_zero,pK,AU,List.set_cons_zero,List.set_cons_succ,Nat.reduceEqDiff,reduceIte,if_true,if_false,aN,aM,ae cT,ae cA,ae ah,ax,aC,LV.kill,aH];exact rfl):p:=e.mpr k
end Kq
open Kq in
theorem xM (R U V:Nat) (kU kV:List Rat) (rows:List (List PoR)) (h:pf R U V rows) (hR:R≤200000) (hz:gF (cn ((rows.getD 0 []).getD 0 default).p ((rows.getD U []).getD 0 default).p ((rows.getD 0 []).getD V default).p) ⟨0,0,0⟩=false):ap Tryz.prog 28 [.agg [ai U,ai V,.list 3 (kU.map ratL),.list 3 (kV.map ratL),.list 1 (rows.map bu)]] (.tup [ratL ((oM (cn ((rows.getD 0 []).getD 0 default).p ((rows.getD U []).getD 0 default).p ((rows.getD 0 []).getD V default).p) (cZ (cn ((rows.getD 0 []).getD 0 default).p ((rows.getD U []).getD 0 default).p ((rows.getD 0 []).getD V default).p) ((rows.getD 0 []).getD 0 default).p) (rows.flatten.map (·.p)))/(cZ (cn ((rows.getD 0 []).getD 0 default).p ((rows.getD U []).getD 0 default).p ((rows.getD 0 []).getD V default).p) (cn ((rows.getD 0 []).getD 0 default).p ((rows.getD U []).getD 0 default).p ((rows.getD 0 []).getD V default).p))),iL 0]):=by
 have hsp:LV.pure (.agg [ai U,ai V,.list 3 (kU.map ratL),.list 3 (kV.map ratL),.list 1 (rows.map bu)])=true:=by simp [LV.pure,aD,al ah,al dW]
 have h16:=h.l16
 have h0:=h.pos
 have hpl:(rows.flatten.map (·.p)).length=rows.flatten.length:=List.length_map ..
 have hu3:=h.u3
 have hv3:=h.v3
 have hrn:=h.n
 have hr0:=h.r0 (Nat.zero_le U)
 have hrU:=h.r0 (Nat.le_refl U)
 have hixU:(((U+1:Nat):Int)-1).toNat=U:=by omega
 have hixV:(((V+1:Nat):Int)-1).toNat=V:=by omega
 have hA:=h.pt (i:=0) (j:=0) (by omega) (by omega)
 have hB:=h.pt (i:=U) (j:=0) (by omega) (by omega)
 have hC:=h.pt (i:=0) (j:=V) (by omega) (by omega)
 have hT:(rows.flatten.map (·.p)).take (rows.flatten.map (·.p)).length=(rows.flatten.map (·.p)):=List.take_of_length_le (Nat.le_refl _)
 have hT2:(rows.flatten.map (·.p)).take rows.flatten.length=(rows.flatten.map (·.p)):=by rw [←hpl];exact hT
 have hnb:eN (8*R+9) (cn ((rows.getD 0 []).getD 0 default).p ((rows.getD U []).getD 0 default).p ((rows.getD 0 []).getD V default).p):=h.thb
 have hdr:rl (cZ (cn ((rows.getD 0 []).getD 0 default).p ((rows.getD U []).getD 0 default).p ((rows.getD 0 []).getD V default).p) ((rows.getD 0 []).getD 0 default).p)≤27*R+31:=by have:=kz hnb hA;omega
 have hdd:rl (cZ (cn ((rows.getD 0 []).getD 0 default).p ((rows.getD U []).getD 0 default).p ((rows.getD 0 []).getD V default).p) (cn ((rows.getD 0 []).getD 0 default).p ((rows.getD U []).getD 0 default).p ((rows.getD 0 []).getD V default).p))≤48*R+58:=by have:=kz hnb hnb;omega
 have hfa:=fun i=>tE hnb hdr h.fa i
 have hdp:0<(cZ (cn ((rows.getD 0 []).getD 0 default).p ((rows.getD U []).getD 0 default).p ((rows.getD 0 []).getD V default).p) (cn ((rows.getD 0 []).getD 0 default).p ((rows.getD U []).getD 0 default).p ((rows.getD 0 []).getD V default).p)):=y6 hz
 refine bS Tryz.func28 (ht:=(fv (ah.pure _) rfl)) ?_
 refine cx ?_
 refine d7 30 [28] (by decide +kernel) ?_
 refine vU ?_
 try simp only [t1,dE,dU,bu,List.length_map]
 refine cp jt (DO ((rows.getD 0 []).getD 0 default).p ((rows.getD U []).getD 0 default).p ((rows.getD 0 []).getD V default).p R (by omega) hA hB hC hz) ?_
 refine en ?_
 refine bb (b:=_) rfl (rfl) ?_
 refine bv ?_
 refine cp bK (vJ U V kU kV rows R h.rw) ?_
 refine bv ?_
 refine gE (fun(i:Nat) L=>(((((((St.mk L.slot (hp [(1,⟨5,[.agg [ai U,ai V,.list 3 (kU.map ratL),.list 3 (kV.map ratL),.list 1 (rows.map bu)]],true⟩),(2,⟨3,[ratL 0],true⟩),(4,⟨12,[dX ⟨(cn ((rows.getD 0 []).getD 0 default).p ((rows.getD U []).getD 0 default).p ((rows.getD 0 []).getD V default).p),(cZ (cn ((rows.getD 0 []).getD 0 default).p ((rows.getD U []).getD 0 default).p ((rows.getD 0 []).getD V default).p) ((rows.getD 0 []).getD 0 default).p)⟩],true⟩),(6,⟨3,[ratL ((oM (cn ((rows.getD 0 []).getD 0 default).p ((rows.getD U []).getD 0 default).p ((rows.getD 0 []).getD V default).p) (cZ (cn ((rows.getD 0 []).getD 0 default).p ((rows.getD U []).getD 0 default).p ((rows.getD 0 []).getD V default).p) ((rows.getD 0 []).getD 0 default).p) ((rows.flatten.map (·.p)).take i))/(cZ (cn ((rows.getD 0 []).getD 0 default).p ((rows.getD U []).getD 0 default).p ((rows.getD 0 []).getD V default).p) (cn ((rows.getD 0 []).getD 0 default).p ((rows.getD U []).getD 0 default).p ((rows.getD 0 []).getD V default).p)))],true⟩)])).put (some 1) (.eptr 1 5 0 0)).put (some 2) (.eptr 2 3 0 0)).put (some 4) (.eptr 4 12 0 0)).put (some 6) (.eptr 6 3 0 0)).put (some 7) (.list 9 ((rows.flatten.map (·.p)).map cQ))).put (some 8) (ai i))) (fun i=>i≤(rows.flatten.map (·.p)).length) (fun i=>(rows.flatten.map (·.p)).length-i) 0 (Nat.zero_le _) ?_
 rintro i L1 hi
 refine cg ?_
 refine an rfl (fun h48r h48=>?_) (fun h48r h48=>?_)
 ·have hi2:i<(rows.flatten.map (·.p)).length:=by omega
  have hP:=h.fp hi2
  obtain⟨z1,z2,z3⟩:=xd hnb hdr hP
  have hfi:=hfa i
  have hq1:=ji (oM (cn ((rows.getD 0 []).getD 0 default).p ((rows.getD U []).getD 0 default).p ((rows.getD 0 []).getD V default).p) (cZ (cn ((rows.getD 0 []).getD 0 default).p ((rows.getD U []).getD 0 default).p ((rows.getD 0 []).getD V default).p) ((rows.getD 0 []).getD 0 default).p) ((rows.flatten.map (·.p)).take i)) (cZ (cn ((rows.getD 0 []).getD 0 default).p ((rows.getD U []).getD 0 default).p ((rows.getD 0 []).getD V default).p) (cn ((rows.getD 0 []).getD 0 default).p ((rows.getD U []).getD 0 default).p ((rows.getD 0 []).getD V default).p))
  have hq2:=ji ((cZ (cn ((rows.getD 0 []).getD 0 default).p ((rows.getD U []).getD 0 default).p ((rows.getD 0 []).getD V default).p) ((rows.flatten.map (·.p)).getD i default)-(cZ (cn ((rows.getD 0 []).getD 0 default).p ((rows.getD U []).getD 0 default).p ((rows.getD 0 []).getD V default).p) ((rows.getD 0 []).getD 0 default).p))*(cZ (cn ((rows.getD 0 []).getD 0 default).p ((rows.getD U []).getD 0 default).p ((rows.getD 0 []).getD V default).p) ((rows.flatten.map (·.p)).getD i default)-(cZ (cn ((rows.getD 0 []).getD 0 default).p ((rows.getD U []).getD 0 default).p ((rows.getD 0 []).getD V default).p) ((rows.getD 0 []).getD 0 default).p))) (cZ (cn ((rows.getD 0 []).getD 0 default).p ((rows.getD U []).getD 0 default).p ((rows.getD 0 []).getD V default).p) (cn ((rows.getD 0 []).getD 0 default).p ((rows.getD U []).getD 0 default).p ((rows.getD 0 []).getD V default).p))
  have hM:ap Tryz.prog 86 [ratL ((oM (cn ((rows.getD 0 []).getD 0 default).p ((rows.getD U []).getD 0 default).p ((rows.getD 0 []).getD V default).p) (cZ (cn ((rows.getD 0 []).getD 0 default).p ((rows.getD U []).getD 0 default).p ((rows.getD 0 []).getD V default).p) ((rows.getD 0 []).getD 0 default).p) ((rows.flatten.map (·.p)).take i))/(cZ (cn ((rows.getD 0 []).getD 0 default).p ((rows.getD U []).getD 0 default).p ((rows.getD 0 []).getD V default).p) (cn ((rows.getD 0 []).getD 0 default).p ((rows.getD U []).getD 0 default).p ((rows.getD 0 []).getD V default).p))),ratL ((cZ (cn ((rows.getD 0 []).getD 0 default).p ((rows.getD U []).getD 0 default).p ((rows.getD 0 []).getD V default).p) ((rows.flatten.map (·.p)).getD i default)-(cZ (cn ((rows.getD 0 []).getD 0 default).p ((rows.getD U []).getD 0 default).p ((rows.getD 0 []).getD V default).p) ((rows.getD 0 []).getD 0 default).p))*(cZ (cn ((rows.getD 0 []).getD 0 default).p ((rows.getD U []).getD 0 default).p ((rows.getD 0 []).getD V default).p) ((rows.flatten.map (·.p)).getD i default)-(cZ (cn ((rows.getD 0 []).getD 0 default).p ((rows.getD U []).getD 0 default).p ((rows.getD 0 []).getD V default).p) ((rows.getD 0 []).getD 0 default).p))/(cZ (cn ((rows.getD 0 []).getD 0 default).p ((rows.getD U []).getD 0 default).p ((rows.getD 0 []).getD V default).p) (cn ((rows.getD 0 []).getD 0 default).p ((rows.getD U []).getD 0 default).p ((rows.getD 0 []).getD V default).p)))] (ratL ((oM (cn ((rows.getD 0 []).getD 0 default).p ((rows.getD U []).getD 0 default).p ((rows.getD 0 []).getD V default).p) (cZ (cn ((rows.getD 0 []).getD 0 default).p ((rows.getD U []).getD 0 default).p ((rows.getD 0 []).getD V default).p) ((rows.getD 0 []).getD 0 default).p) ((rows.flatten.map (·.p)).take (i+1)))/(cZ (cn ((rows.getD 0 []).getD 0 default).p ((rows.getD U []).getD 0 default).p ((rows.getD 0 []).getD V default).p) (cn ((rows.getD 0 []).getD 0 default).p ((rows.getD U []).getD 0 default).p ((rows.getD 0 []).getD V default).p)))):=by
   have:=w8 ((oM (cn ((rows.getD 0 []).getD 0 default).p ((rows.getD U []).getD 0 default).p ((rows.getD 0 []).getD V default).p) (cZ (cn ((rows.getD 0 []).getD 0 default).p ((rows.getD U []).getD 0 default).p ((rows.getD 0 []).getD V default).p) ((rows.getD 0 []).getD 0 default).p) ((rows.flatten.map (·.p)).take i))/(cZ (cn ((rows.getD 0 []).getD 0 default).p ((rows.getD U []).getD 0 default).p ((rows.getD 0 []).getD V default).p) (cn ((rows.getD 0 []).getD 0 default).p ((rows.getD U []).getD 0 default).p ((rows.getD 0 []).getD V default).p))) ((cZ (cn ((rows.getD 0 []).getD 0 default).p ((rows.getD U []).getD 0 default).p ((rows.getD 0 []).getD V default).p) ((rows.flatten.map (·.p)).getD i default)-(cZ (cn ((rows.getD 0 []).getD 0 default).p ((rows.getD U []).getD 0 default).p ((rows.getD 0 []).getD V default).p) ((rows.getD 0 []).getD 0 default).p))*(cZ (cn ((rows.getD 0 []).getD 0 default).p ((rows.getD U []).getD 0 default).p ((rows.getD 0 []).getD V default).p) ((rows.flatten.map (·.p)).getD i default)-(cZ (cn ((rows.getD 0 []).getD 0 default).p ((rows.getD U []).getD 0 default).p ((rows.getD 0 []).getD V default).p) ((rows.getD 0 []).getD 0 default).p))/(cZ (cn ((rows.getD 0 []).getD 0 default).p ((rows.getD U []).getD 0 default).p ((rows.getD 0 []).getD V default).p) (cn ((rows.getD 0 []).getD 0 default).p ((rows.getD U []).getD 0 default).p ((rows.getD 0 []).getD V default).p))) (by omega)
   rwa [C6 hdp,vy _ _ _ hi2] at this
  refine ca ?_
  refine au 11 (by decide +kernel) ?_
  refine bJ ?_
  refine cp bf (tf (cn ((rows.getD 0 []).getD 0 default).p ((rows.getD U []).getD 0 default).p ((rows.getD 0 []).getD V default).p) ((rows.flatten.map (·.p)).getD i default) (8*R+9) (by omega) hnb (hP.le (by omega))) ?_
  refine bG ?_
  refine cp bf (iU (cZ (cn ((rows.getD 0 []).getD 0 default).p ((rows.getD U []).getD 0 default).p ((rows.getD 0 []).getD V default).p) ((rows.flatten.map (·.p)).getD i default)) (cZ (cn ((rows.getD 0 []).getD 0 default).p ((rows.getD U []).getD 0 default).p ((rows.getD 0 []).getD V default).p) ((rows.getD 0 []).getD 0 default).p) (by omega)) ?_
  refine bw ?_
  refine au 11 (by decide +kernel) ?_
  refine bx ?_
  refine cp bf (dA (cZ (cn ((rows.getD 0 []).getD 0 default).p ((rows.getD U []).getD 0 default).p ((rows.getD 0 []).getD V default).p) ((rows.flatten.map (·.p)).getD i default)-(cZ (cn ((rows.getD 0 []).getD 0 default).p ((rows.getD U []).getD 0 default).p ((rows.getD 0 []).getD V default).p) ((rows.getD 0 []).getD 0 default).p)) (cZ (cn ((rows.getD 0 []).getD 0 default).p ((rows.getD U []).getD 0 default).p ((rows.getD 0 []).getD V default).p) ((rows.flatten.map (·.p)).getD i default)-(cZ (cn ((rows.getD 0 []).getD 0 default).p ((rows.getD U []).getD 0 default).p ((rows.getD 0 []).getD V default).p) ((rows.getD 0 []).getD 0 default).p)) (by omega)) ?_
  refine bw ?_
  refine cp bf (tf (cn ((rows.getD 0 []).getD 0 default).p ((rows.getD U []).getD 0 default).p ((rows.getD 0 []).getD V default).p) (cn ((rows.getD 0 []).getD 0 default).p ((rows.getD U []).getD 0 default).p ((rows.getD 0 []).getD V default).p) (8*R+9) (by omega) hnb hnb) ?_
  refine cp bf (A0 ((cZ (cn ((rows.getD 0 []).getD 0 default).p ((rows.getD U []).getD 0 default).p ((rows.getD 0 []).getD V default).p) ((rows.flatten.map (·.p)).getD i default)-(cZ (cn ((rows.getD 0 []).getD 0 default).p ((rows.getD U []).getD 0 default).p ((rows.getD 0 []).getD V default).p) ((rows.getD 0 []).getD 0 default).p))*(cZ (cn ((rows.getD 0 []).getD 0 default).p ((rows.getD U []).getD 0 default).p ((rows.getD 0 []).getD V default).p) ((rows.flatten.map (·.p)).getD i default)-(cZ (cn ((rows.getD 0 []).getD 0 default).p ((rows.getD U []).getD 0 default).p ((rows.getD 0 []).getD V default).p) ((rows.getD 0 []).getD 0 default).p))) (cZ (cn ((rows.getD 0 []).getD 0 default).p ((rows.getD U []).getD 0 default).p ((rows.getD 0 []).getD V default).p) (cn ((rows.getD 0 []).getD 0 default).p ((rows.getD U []).getD 0 default).p ((rows.getD 0 []).getD V default).p)) (by omega)) ?_
  refine cp bf (hM) ?_
  refine bw ?_
  refine aY (aP.kill _ 9) ?_
  refine aL ?_
  refine ab rfl (.bin rfl rfl (a9 (by omega))) ?_
  refine bx ?_
  exact fA (i+1) (by omega)
 ·obtain rfl:i=(rows.flatten.map (·.p)).length:=by omega
  refine ct ?_
  try simp only [hT,hT2]
  exact fG [] rfl rfl rfl (ah.csize _) (am _) bF (.pure (ah.pure _)) rfl (.pure rfl)
theorem FT:aT Tryz.prog 36 (CM []):=⟨Tryz.t36,_,by kernel_rfl,rfl,rfl,fun _ _ _=>jX 3⟩
instance:EC Tryz.prog 36 CM 1 false []:=⟨FZ,FT,Et⟩
theorem Ip (n:Nat):List.replicate n (ratL 0)=(List.replicate n (0:Rat)).map ratL:=by simp
def F5 (q:PoR):List Rat:=[q.p.x,q.p.y,q.p.z,q.w]
def pA (a b:List Rat) (ps:List PoR):List Rat:=a++b++(ps.map F5).flatten
theorem Ar (a b:List Rat):pA a b []=a++b:=by simp [pA]
theorem Ef (a b:List Rat) (ps:List PoR) (q:PoR):pA a b ps++[q.p.x,q.p.y,q.p.z,q.w]=pA a b (ps++[q]):=by simp [pA,F5]
theorem qq (a b:List Rat) (ps:List PoR):(pA a b ps).length=a.length+b.length+4*ps.length:=by
 induction ps with
 | nil=>simp [pA]
 | cons q ps ih =>
  simp only [pA,List.map_cons,List.flatten_cons,List.length_append,List.length_cons,F5,List.length_nil] at ih ⊢
  omega
theorem CL {a b:List Rat} {ps:List PoR} (ha:∀ x∈a,rl x≤64) (hb:∀ x∈b,rl x≤64) (hp:∀ q∈ps,jN 64 q):∀ x∈pA a b ps,rl x≤64:=fun x hx=>by
 simp only [pA,List.mem_append,List.mem_flatten,List.mem_map] at hx
 rcases hx with(h | h) | ⟨l,⟨q,hq,rfl⟩,h⟩
 ·exact ha x h
 ·exact hb x h
 ·obtain⟨⟨h1,h2,h3⟩,h4,_⟩:=hp q hq
  simp only [F5,List.mem_cons,List.not_mem_nil,or_false] at h
  rcases h with rfl | rfl | rfl | rfl<;>assumption
theorem GD {a b:Int} {k:IntKind} (h:a=b):cj .neq k a b=some (.bool false):=by simp [cj,h]
theorem jN.le {R S:Nat} {q:PoR} (h:jN R q) (hRS:R≤S):jN S q:=⟨h.1.le hRS,Nat.le_trans h.2.1 hRS,h.2.2⟩
theorem vm (bs:List Nat) (c:Nat) (y:Blk) (l:List (Nat × Blk)):pL bs ((c,y) :: l)=(c,⟨y.sz,y.vals,y.mt && !bs.contains c⟩) :: pL bs l:=rfl
theorem GA:Int.toNat (0+1)=1:=rfl
namespace KY
theorem bQ {p q:Prop} (k:q) (e:p=q:=by simp only [e1,e2,e3,e4,p1,p2,p3,q1,q2,q3,l1,t0,t1,r1,r2,r3,r4,Nat.zero_add,Nat.reduceMul,Nat.reduceAdd,b1,b2,b3,b4,b5,b6,i1,i2,i3,i4,i5,i6,Nat.reduceBEq,Ip,List.set_cons_zero,List.set_cons_succ,Nat.reduceEqDiff,reduceIte,if_true,if_false,aN,aM,ae cT,ae cA,ae ah,ax,aC,LV.kill,aH];exact rfl):p:=e.mpr k
end KY
open KY in
theorem BJ (n:Nat) (h0:0<n) (hl:n≤1048576):dB Tryz.prog 267 [.v (.slice none 0 0),ai n] (.ref 1 3 0 0) [⟨3,(List.replicate n (0:Rat)).map ratL,true⟩]:=by
 refine El Tryz.func267 ?_
 refine bE ?_
 refine an rfl (fun h6r h6=>?_) (fun h6r h6=>?_)
 ·omega
 ·refine bV ?_
  refine ab rfl (.capN rfl rfl Tryz.underlying36) ?_
  refine bG ?_
  refine ab rfl (.bin rfl rfl (yY (a:=0) (b:=0) (c:=0) (by omega) (by omega))) ?_
  refine ab rfl (.bin rfl rfl (yY (a:=n) (b:=0) (c:=n) (by omega) (by omega))) ?_
  refine cg ?_
  refine an rfl (fun h16r h16=>?_) (fun h16r h16=>?_)
  ·refine bx ?_
   refine ab rfl (.capN rfl rfl Tryz.underlying36) ?_
   refine ab rfl (.sliceN rfl Tryz.underlying36 bF rfl) ?_
   refine aL ?_
   refine CX rfl rfl (.appz (d:=22) (z:=ratL 0) (n:=n) Tryz.underlying36 Tryz.underlying3 (cL ▸ cz) (by rw [ah.isAgg];exact bF) (ah.csize _) f3 rfl rfl rfl (by omega) (by decide) (by omega) (by omega)) ?_
   refine bG ?_
   refine ab rfl (by first | exact .sliceLh (h:=_) ah rfl Tryz.underlying36 bF rfl om | exact .sliceRh rfl Tryz.underlying36 bF rfl om om) ?_
   refine bv ?_
   refine k9 (b:=22) (len:=0) (blk:=⟨3,(List.replicate n (0:Rat)).map ratL,true⟩) ?_ ?_ (al ah _)
   ·exact cl
   ·exact cl
  ·omega
namespace J4
theorem bQ {p q:Prop} (k:q) (e:p=q:=by simp only [e1,e2,e3,e4,p1,p2,p3,q1,q2,q3,l1,t0,t1,r1,r2,r3,r4,Nat.zero_add,Nat.reduceMul,Nat.reduceAdd,b1,b2,b3,b4,b5,b6,i1,i2,i3,i4,i5,i6,Nat.reduceBEq,et,GA,List.getD_cons_zero,List.getD_cons_succ,List.length_cons,List.length_nil,htk,dq,List.take_zero,List.nil_append,List.map_append,List.length_append,List.length_map,List.set_cons_zero,List.set_cons_succ,Nat.reduceEqDiff,reduceIte,if_true,if_false,aN,aM,ae cT,ae cA,ae ah,ax,aC,LV.kill,aH];exact rfl):p:=e.mpr k
end J4
open J4 in
theorem vS (k m:List Rat) (h0:0<k.length) (hk:k.length≤1000) (hm:m.length≤1000):dB Tryz.prog 221 [.list 1 ([k,m].map CM)] (.ref 1 3 0 (k.length+m.length)) [⟨3,(k++m).map ratL,true⟩]:=by
 have hpk:=ak ah 3 k
 have hpm:=ak ah 3 m
 have hkl:(k.map ratL).length=k.length:=List.length_map ..
 have htk:(k.map ratL).take k.length=k.map ratL:=List.take_of_length_le (by simp)
 refine El Tryz.func221 ?_
 refine ia ?_
 refine aA ?_
 refine bJ ?_
 refine aR (b:=_) rfl (rfl) ?_
 refine ie ?_
 refine ab rfl (.bin rfl rfl (gf (a:=0) (b:=k.length) (by omega))) ?_
 refine cg ?_
 refine an rfl (fun h20r h20=>?_) (fun h20r h20=>?_)
 ·omega
 ·refine cx ?_
  refine aA ?_
  refine bJ ?_
  refine aR (b:=_) rfl (rfl) ?_
  refine ie ?_
  refine ab rfl (.bin rfl rfl (gf (a:=k.length) (b:=m.length) (by omega))) ?_
  refine cg ?_
  refine an rfl (fun h20r h20=>?_) (fun h20r h20=>?_)
  ·omega
  ·refine cx ?_
   refine aA ?_
   refine bJ ?_
   refine bb (b:=_) rfl (rfl) ?_
   refine cx ?_
   refine gc [] rfl rfl (.cons (.pure rfl) (.cons (.pure rfl) .nil)) (BJ (k.length+m.length) (by omega) (by omega)) (al ah _) rfl ?_
   refine bE ?_
   refine aA ?_
   refine bJ ?_
   refine aR (b:=_) rfl (rfl) ?_
   refine dI ?_
   refine aK rfl (.appX (d:=33) (news:=k.map ratL) rfl rfl rfl rfl (by simp) (.inr rfl) (by decide) Tryz.underlying36 Tryz.underlying36 cz bF rfl f3 (.inr (.inl rfl)) (by rw [List.length_map];omega) (by rw [List.length_map];omega) (by decide)) ?_
   refine cg ?_
   refine aA ?_
   refine bJ ?_
   refine aR (b:=_) rfl (rfl) ?_
   refine dI ?_
   refine aK rfl (.appX (d:=33) (news:=m.map ratL) rfl rfl rfl rfl (by simp) (.inl rfl) (by decide) Tryz.underlying36 Tryz.underlying36 cz bF rfl f3 (.inr (.inl rfl)) (by rw [List.length_map];omega) (by rw [List.length_map];omega) (by decide)) ?_
   refine cg ?_
   refine aA ?_
   refine bJ ?_
   refine bb (b:=_) rfl (rfl) ?_
   refine bE ?_
   refine k9 (b:=33) (len:=k.length+m.length) (blk:=⟨3,(k++m).map ratL,true⟩) ?_ ?_ (al ah _)
   ·exact cl
   ·exact cl
namespace Mw
theorem bQ {p q:Prop} (k:q) (e:p=q:=by simp only [e1,e2,e3,e4,p1,p2,p3,q1,q2,q3,l1,t0,t1,r1,r2,r3,r4,Nat.zero_add,Nat.reduceMul,Nat.reduceAdd,b1,b2,b3,b4,b5,b6,i1,i2,i3,i4,i5,i6,Nat.reduceBEq,vm,Ej,bu,ehetk,ehers,hs0,H6,cb,ae dW,dE,dU,aQ,bo,aW,List.length_cons,List.length_nil,List.nil_append,List.map_nil,List.take_nil,List.append_nil,List.set_cons_zero,List.set_cons_succ,Nat.reduceEqDiff,reduceIte,if_true,if_false,aN,aM,ae cT,ae cA,ae ah,ax,aC,LV.kill,aH];exact rfl):p:=e.mpr k
end Mw
open Mw in
theorem AB (U V:Nat) (kU kV:List Rat) (rows:List (List PoR)) (R:Nat) (hw:rwOK rows R) (h0:0<kU.length) (hkU:kU.length≤1000) (hkV:kV.length≤1000):ap Tryz.prog 155 [.agg [ai U,ai V,.list 3 (kU.map ratL),.list 3 (kV.map ratL),.list 1 (rows.map bu)]] (.list 3 ((pA kU kV rows.flatten).map ratL)):=by
 have hsp:LV.pure (.agg [ai U,ai V,.list 3 (kU.map ratL),.list 3 (kV.map ratL),.list 1 (rows.map bu)])=true:=by simp [LV.pure,aD,al ah,al dW]
 have hwn:=hw.n
 have hwf:=hw.f
 have hs0:=Ar kU kV
 have hp2:=ak FZ 1 [kU,kV]
 refine bS Tryz.func155 (ht:=(fun g=>LV.ren_pure g _ (ak ah 3 _))) ?_
 have ehetk:True:=trivial
 have ehers:True:=trivial
 refine ct ?_
 refine gc [12] rfl rfl (.cons (bg FZ rfl rfl rfl) .nil) (vS kU kV h0 hkU hkV) (al ah _) rfl ?_
 refine ct ?_
 refine cN ((aP.kill _ 1).trans (aP.kill _ 12)) ?_
 refine ik (fun(i:Nat) (ps:List PoR) L=>(((((St.mk L.slot (hp [(1000209,⟨3,(pA kU kV ps).map ratL,true⟩)])).put (some 3) (.ref 1000209 3 0 (kU.length+kV.length+4*ps.length))).put (some 15) (.list 1 (rows.map bu))).put (some 16) (ai rows.length)).put (some 17) (ai i))) (fun i ps=>rwI rows i ps) (fun i ps=>rows.length-i) 0 ([]) (rwI.zero rows) ?_
 rintro i ps L1 hI
 refine bJ ?_
 refine an rfl (fun h18r h18=>?_) (fun h18r h18=>?_)
 ·have hi2:i<rows.length:=by omega
  refine ia ?_
  refine ik (fun(j:Nat) (qs:List PoR) L=>((((((((St.mk L.slot (hp [(1000209,⟨3,(pA kU kV qs).map ratL,true⟩)])).put (some 3) (.ref 1000209 3 0 (kU.length+kV.length+4*qs.length))).put (some 15) (.list 1 (rows.map bu))).put (some 16) (ai rows.length)).put (some 17) (ai i)).put (some 21) (.list 12 ((rows.getD i []).map dX))).put (some 22) (ai (rows.getD i []).length)).put (some 23) (ai j))) (fun j qs=>rwJ rows i j qs) (fun j qs=>(rows.getD i []).length-j) 0 ps (hI.go hi2) ?_
  rintro j qs L2 hJ
  refine bJ ?_
  refine an rfl (fun h24r h24=>?_) (fun h24r h24=>?_)
  ·have hj2:j<(rows.getD i []).length:=by omega
   have hJe:=hJ.hj
   have hJl:=hJ.le
   have hJi:=hJ.hi
   have hrm:=cm hJi
   have hrl:=hw.m _ hrm
   have hlc:=qq kU kV qs
   have ehers:(pA kU kV qs)++[((rows.getD i []).getD j default).p.x,((rows.getD i []).getD j default).p.y,((rows.getD i []).getD j default).p.z,((rows.getD i []).getD j default).w]=(pA kU kV (qs++[((rows.getD i []).getD j default)])):=Ef _ _ _ _
   have ehetk:((pA kU kV qs).map ratL).take (kU.length+kV.length+4*qs.length)=(pA kU kV qs).map ratL:=List.take_of_length_le (by rw [List.length_map];omega)
   have hJ2:=hJ.lt hj2
   refine Gq ?_
   refine aK rfl (.appX (d:=1000209) (news:=[ratL ((rows.getD i []).getD j default).p.x,ratL ((rows.getD i []).getD j default).p.y,ratL ((rows.getD i []).getD j default).p.z,ratL ((rows.getD i []).getD j default).w]) rfl rfl rfl rfl (by simp;omega) (.inl rfl) (by decide) Tryz.underlying36 Tryz.underlying36 cz bF rfl f3 (.inl ⟨39,0,_,rfl,by decide,rfl,rfl,by simp,rfl,by simp [aD,ah.pure]⟩) (by simp;omega) (by simp;omega) (by decide)) ?_
   refine bw ?_
   refine aY ((aP.kill _ 7).trans (aP.kill _ 39)) ?_
   refine ab rfl (.bin rfl rfl (a9 (by omega))) ?_
   refine bx ?_
   exact gk (j+1) (qs++[((rows.getD i []).getD j default)]) (hJ.next hj2)
  ·have hJe:=hJ.hj
   have hJl:=hJ.le
   have hJi:=hJ.hi
   have hrm:=cm hJi
   have hrl:=hw.m _ hrm
   obtain rfl:j=(rows.getD i []).length:=by omega
   refine bV ?_
   refine ab rfl (.bin rfl rfl (a9 (by omega))) ?_
   refine bx ?_
   exact gk (i+1) qs hJ.last (hm:=by have:=hJ.hi;omega)
 ·have hIi:=hI.hi
  obtain rfl:i=rows.length:=by omega
  have hE:=hI.last
  subst hE
  refine bE ?_
  exact fM [1000209] rfl rfl (bg ah rfl rfl (by rw [qq]))
namespace K4
theorem bQ {p q:Prop} (k:q) (e:p=q:=by simp only [e1,e2,e3,e4,p1,p2,p3,q1,q2,q3,l1,t0,t1,r1,r2,r3,r4,Nat.zero_add,Nat.reduceMul,Nat.reduceAdd,b1,b2,b3,b4,b5,b6,i1,i2,i3,i4,i5,i6,Nat.reduceBEq,dE,List.set_cons_zero,List.set_cons_succ,Nat.reduceEqDiff,reduceIte,if_true,if_false,aN,aM,ae cT,ae cA,ae ah,ax,aC,LV.kill,aH,List.length_map];exact rfl):p:=e.mpr k
end K4
open K4 in
theorem Eg (f:Nat) (cap:List LV) (hcp:aD cap=true) (hcs:∀ x∈cap,x.csize=1∧x.isAgg=false) (pr:List PoR→Bool) (l:List (List PoR)) (hl:l.length≤1048576) (hf:∀ x∈l,ap Tryz.prog f ([bu x]++cap) (bL (pr x))):ap Tryz.prog 270 [.list 1 (l.map bu),.clo f cap] (iL (mf pr l)):=by
 refine bS Tryz.func270 ?_
 refine dI ?_
 refine gE (fun(i:Nat) L=>((((((St.mk L.slot (hp [])).put (some 0) (.list 1 (l.map bu))).put (some 1) (.clo f cap)).put (some 6) (.list 1 (l.map bu))).put (some 7) (ai l.length)).put (some 8) (ai i))) (fun i=>i≤l.length∧∀ j,j<i→pr (l.getD j default)=false) (fun i=>l.length-i) 0 ⟨Nat.zero_le _,fun j hj=>absurd hj (Nat.not_lt_zero j)⟩ ?_
 rintro i L1 ⟨hi,h0⟩
 refine bJ ?_
 refine an rfl (fun h9r h9=>?_) (fun h9r h9=>?_)
 ·have hi2:i<l.length:=by omega
  have hc:=hf _ (jP hi2)
  have hpp:=dW.pure (l.getD i [])
  refine iP ?_
  refine cI [] rfl rfl (.clo (f:=f) (cap:=cap) (args:=[bu (l.getD i [])]) rfl (.cons fR .nil) ⟨hcp,hcs⟩ hc.1 (by decide) (fun _ h=>by cases h)) (hc.2 _) ?_
  refine bG ?_
  refine an rfl (fun h16r h16=>?_) (fun h16r h16=>?_)
  ·have hV:mf pr l=(i:Int):=oG hi2 h0 (by first | exact h16r | exact h16)
   refine bE ?_
   rw [hV]
   exact aS rfl (.pure rfl)
  ·have hn:∀ j,j<i+1→pr (l.getD j default)=false:=fun j hj=>by
    rcases Nat.lt_succ_iff_lt_or_eq.1 hj with e | rfl
    ·exact h0 j e
    ·first | exact h16r | (simpa using h16)
   refine bw ?_
   refine ab rfl (.bin rfl rfl (a9 (by omega))) ?_
   refine bx ?_
   exact fA (i+1) ⟨by omega,hn⟩
 ·obtain rfl:i=l.length:=by omega
  refine bD ?_
  rw [lL h0]
  exact aS rfl (.pure rfl)
namespace K1
theorem bQ {p q:Prop} (k:q) (e:p=q:=by simp only [e1,e2,e3,e4,p1,p2,p3,q1,q2,q3,l1,t0,t1,r1,r2,r3,r4,Nat.zero_add,Nat.reduceMul,Nat.reduceAdd,b1,b2,b3,b4,b5,b6,i1,i2,i3,i4,i5,i6,Nat.reduceBEq,List.set_cons_zero,List.set_cons_succ,Nat.reduceEqDiff,reduceIte,if_true,if_false,aN,aM,ae cT,ae cA,ae ah,ax,aC,LV.kill,aH];exact rfl):p:=e.mpr k
end K1
open K1 in
theorem DM (f:Nat) (cap:List LV) (hcp:aD cap=true) (hcs:∀ x∈cap,x.csize=1∧x.isAgg=false) (pr:List PoR→Bool) (l:List (List PoR)) (hl:l.length≤1048576) (hf:∀ x∈l,ap Tryz.prog f ([bu x]++cap) (bL (pr x))):ap Tryz.prog 228 [.list 1 (l.map bu),.clo f cap] (bL (l.any pr)):=by
 refine bS Tryz.func228 ?_
 refine cg ?_
 refine ci rfl (.cons (.pure (ak dW 1 _)) (.cons (.pure (show LV.pure (.clo f cap)=true by simpa [LV.pure] using hcp)) .nil)) (Eg f cap hcp hcs pr l hl hf) ?_
 refine ca ?_
 rw [←ol]
 exact aS rfl (.pure rfl)
open H0 in
theorem AR (q:Rat) (h:rl q≤1000):ap Tryz.prog 157 [ratL q] (bL false):=by
 refine bS Tryz.func157 ?_
 refine cg ?_
 refine cp bK (zI _ (by omega)) ?_
 refine ca ?_
 exact aS rfl (.pure rfl)
namespace LL
theorem bQ {p q:Prop} (k:q) (e:p=q:=by simp only [e1,e2,e3,e4,p1,p2,p3,q1,q2,q3,l1,t0,t1,r1,r2,r3,r4,Nat.zero_add,Nat.reduceMul,Nat.reduceAdd,b1,b2,b3,b4,b5,b6,i1,i2,i3,i4,i5,i6,Nat.reduceBEq,hsg];exact rfl):p:=e.mpr k
end LL
open LL in
theorem BF (q:PoR) (h:jN 1000 q):ap Tryz.prog 162 [dX q] (bL false):=by
 obtain⟨_,hw,hp⟩:=h
 have hsg:gM q.w=1:=u9 hp
 refine bS Tryz.func162 ?_
 refine bv ?_
 refine cp bK (mE q.w (by omega)) ?_
 refine ca ?_
 exact aS rfl (.pure rfl)
open H0 in
theorem Br (q:Rat) (h:rl q≤64):ap Tryz.prog 163 [ratL q] (bL false):=by
 have hb:=vD h
 refine bS Tryz.func163 ?_
 refine cg ?_
 refine cp bK (Bk q (by omega)) ?_
 refine ca ?_
 refine aS (x:=bL (decide ((lK q:Int) > 2048))) rfl ?_
 rw [decide_eq_false (by omega)]
 exact .pure rfl
namespace LN
theorem bQ {p q:Prop} (k:q) (e:p=q:=by simp only [e1,e2,e3,e4,p1,p2,p3,q1,q2,q3,l1,t0,t1,r1,r2,r3,r4,Nat.zero_add,Nat.reduceMul,Nat.reduceAdd,b1,b2,b3,b4,b5,b6,i1,i2,i3,i4,i5,i6,Nat.reduceBEq,bu,List.length_map,cb,ae dW,dE,dU,aQ,bo,aW,List.length_cons,List.length_nil,List.nil_append,List.map_nil,List.take_nil,List.append_nil,List.set_cons_zero,List.set_cons_succ,Nat.reduceEqDiff,reduceIte,if_true,if_false,aN,aM,ae cT,ae cA,ae ah,ax,aC,LV.kill,aH];exact rfl):p:=e.mpr k
end LN
open LN in
theorem DQ (U V:Nat) (kU kV:List Rat) (rows:List (List PoR)) (r:List PoR) (hl:V+1≤kV.length) (hkl:kV.length≤1000) (hr:r.length=kV.length-V-1):ap Tryz.prog 229 [bu r,.boxp (.agg [ai U,ai V,.list 3 (kU.map ratL),.list 3 (kV.map ratL),.list 1 (rows.map bu)])] (bL false):=by
 have hsp:LV.pure (.agg [ai U,ai V,.list 3 (kU.map ratL),.list 3 (kV.map ratL),.list 1 (rows.map bu)])=true:=by simp [LV.pure,aD,al ah,al dW]
 have hpr:=dW.pure r
 have hpv:=ak ah 3 kV
 refine bS Tryz.func229 ?_
 refine ct ?_
 refine cp bf (sG kV V hl (by omega)) ?_
 refine ab rfl (.bin rfl rfl ((GD (by first | omega | (simp only [List.length_map,bu];omega))))) ?_
 refine bw ?_
 exact aS rfl (.pure rfl)
namespace LO
theorem bQ {p q:Prop} (k:q) (e:p=q:=by simp only [e1,e2,e3,e4,p1,p2,p3,q1,q2,q3,l1,t0,t1,r1,r2,r3,r4,Nat.zero_add,Nat.reduceMul,Nat.reduceAdd,b1,b2,b3,b4,b5,b6,i1,i2,i3,i4,i5,i6,Nat.reduceBEq,bu,lD,List.length_map,cb,ae dW,dE,dU,aQ,bo,aW,List.length_cons,List.length_nil,List.nil_append,List.map_nil,List.take_nil,List.append_nil,List.set_cons_zero,List.set_cons_succ,Nat.reduceEqDiff,reduceIte,if_true,if_false,aN,aM,ae cT,ae cA,ae ah,ax,aC,LV.kill,aH];exact rfl):p:=e.mpr k
end LO
open LO in
theorem CR (U V:Nat) (kU kV:List Rat) (rows:List (List PoR)) (hkU:kOK kU U) (hkV:kOK kV V) (hn:rows.length=kU.length-U-1) (hm:∀ r∈rows,r.length=kV.length-V-1) (hq:∀ r∈rows,∀ q∈r,jN 64 q):ap Tryz.prog 160 [.agg [ai U,ai V,.list 3 (kU.map ratL),.list 3 (kV.map ratL),.list 1 (rows.map bu)]] (bL true):=by
 have hsp:LV.pure (.agg [ai U,ai V,.list 3 (kU.map ratL),.list 3 (kV.map ratL),.list 1 (rows.map bu)])=true:=by simp [LV.pure,aD,al ah,al dW]
 have hU1:=hkU.d1
 have hU6:=hkU.d6
 have hUl:=hkU.len
 have hUm:=hkU.max
 have hV1:=hkV.d1
 have hV6:=hkV.d6
 have hVl:=hkV.len
 have hVm:=hkV.max
 have hbp:aD [.boxp (.agg [ai U,ai V,.list 3 (kU.map ratL),.list 3 (kV.map ratL),.list 1 (rows.map bu)])]=true:=by simp [aD,LV.pure,al ah,al dW]
 refine bS Tryz.func160 ?_
 refine bV ?_
 refine au 17 (by decide +kernel) ?_
 refine bV ?_
 refine cp bf (sG kU U (by omega) (by omega)) ?_
 refine bG ?_
 refine ab (ao (v:=true) rfl rfl ((beq_iff_eq.2 (by first | omega | (simp only [List.length_map];omega)))) rfl) gI ?_
 refine ab (ao (v:=true) rfl rfl ((beq_iff_eq.2 (by first | omega | (simp only [List.length_map];omega)))) rfl) fS ?_
 refine cI [1] (ao (v:=true) rfl rfl ((beq_iff_eq.2 (by first | omega | (simp only [List.length_map];omega)))) rfl) rfl (.mk (caps:=[.boxp (.agg [ai U,ai V,.list 3 (kU.map ratL),.list 3 (kV.map ratL),.list 1 (rows.map bu)])]) (.cons (.eptr rfl rfl rfl cs (bX cs rfl) hsp rfl) .nil) (fun x hx=>by rw [List.mem_singleton.1 hx];exact⟨rfl,rfl⟩)) rfl ?_
 refine ci (ao (v:=true) rfl rfl ((beq_iff_eq.2 (by first | omega | (simp only [List.length_map];omega)))) rfl) (.cons (.pure (ak dW 1 _)) (.cons (.pure (show LV.pure (.clo 229 [.boxp (.agg [ai U,ai V,.list 3 (kU.map ratL),.list 3 (kV.map ratL),.list 1 (rows.map bu)])])=true by simpa [LV.pure] using hbp)) .nil)) (DM 229 [.boxp (.agg [ai U,ai V,.list 3 (kU.map ratL),.list 3 (kV.map ratL),.list 1 (rows.map bu)])] hbp (fun x hx=>by rw [List.mem_singleton.1 hx];exact⟨rfl,rfl⟩) (fun _=>false) rows (by omega) (fun x hx=>DQ U V kU kV rows x (by omega) (by omega) (hm x hx))) ?_
 refine ab (ao (v:=true) rfl rfl ((beq_iff_eq.2 (by first | omega | (simp only [List.length_map];omega)))) rfl) (.not rfl) ?_
 refine ab rfl (.pickT rfl ((beq_iff_eq.2 (by first | omega | (simp only [List.length_map];omega))))) ?_
 refine bw ?_
 refine aS ?_ (.pure rfl)
 first | rfl | (simp only [lD];rfl)
namespace LK
theorem bQ {p q:Prop} (k:q) (e:p=q:=by simp only [e1,e2,e3,e4,p1,p2,p3,q1,q2,q3,l1,t0,t1,r1,r2,r3,r4,Nat.zero_add,Nat.reduceMul,Nat.reduceAdd,b1,b2,b3,b4,b5,b6,i1,i2,i3,i4,i5,i6,Nat.reduceBEq,bu,lD,dE,List.length_map,cb,ae dW,dE,dU,aQ,bo,aW,List.length_cons,List.length_nil,List.nil_append,List.map_nil,List.take_nil,List.append_nil,List.set_cons_zero,List.set_cons_succ,Nat.reduceEqDiff,reduceIte,if_true,if_false,aN,aM,ae cT,ae cA,ae ah,ax,aC,LV.kill,aH];exact rfl):p:=e.mpr k
end LK
open LK in
theorem rL (U V:Nat) (kU kV:List Rat) (rows:List (List PoR)) (hkU:kOK kU U) (hkV:kOK kV V) (hn:rows.length=kU.length-U-1) (hm:∀ r∈rows,r.length=kV.length-V-1) (hq:∀ r∈rows,∀ q∈r,jN 64 q):ap Tryz.prog 88 [.agg [ai U,ai V,.list 3 (kU.map ratL),.list 3 (kV.map ratL),.list 1 (rows.map bu)]] (iL 0):=by
 have hsp:LV.pure (.agg [ai U,ai V,.list 3 (kU.map ratL),.list 3 (kV.map ratL),.list 1 (rows.map bu)])=true:=by simp [LV.pure,aD,al ah,al dW]
 have hU1:=hkU.d1
 have hU6:=hkU.d6
 have hUl:=hkU.len
 have hUm:=hkU.max
 have hV1:=hkV.d1
 have hV6:=hkV.d6
 have hVl:=hkV.len
 have hVm:=hkV.max
 have hrw:rwOK rows 64:=by
  refine⟨hq,by omega,fun r hr=>by have:=hm r hr;omega,?_⟩
  rw [rC hm]
  exact Nat.le_trans (Nat.mul_le_mul (show rows.length≤100 by omega) (show kV.length-V-1≤100 by omega)) (by decide)
 have hfl:=hrw.f
 have hN:=qq kU kV rows.flatten
 have hR:=CL (ps:=rows.flatten) hkU.sz hkV.sz (fun q hx=>by
  obtain⟨r,g1,g2⟩:=List.mem_flatten.1 hx
  exact hq r g1 q g2)
 refine bS Tryz.func88 ?_
 refine cg ?_
 refine cp bK (AB U V kU kV rows 64 hrw (by omega) (by omega) (by omega)) ?_
 refine bV ?_
 refine cp bf (ya 157 (fun _=>false) (pA kU kV rows.flatten) (by omega) (fun x hx=>AR x (Nat.le_trans (hR x hx) (by decide)))) ?_
 refine bG ?_
 refine bb (b:=_) rfl (by first | rfl | exact lD _) ?_
 refine cg ?_
 refine cp bf (rT kU U hkU) ?_
 refine cg ?_
 refine bb (b:=_) rfl (rfl) ?_
 refine cg ?_
 refine cp bf (rT kV V hkV) ?_
 refine cg ?_
 refine bb (b:=_) rfl (rfl) ?_
 refine bJ ?_
 refine cp bK (CR U V kU kV rows hkU hkV hn hm hq) ?_
 refine bx ?_
 refine bb (b:=_) rfl (rfl) ?_
 refine bE ?_
 refine gE (fun(i:Nat) L=>((((((St.mk L.slot (hp [(1,⟨5,[.agg [ai U,ai V,.list 3 (kU.map ratL),.list 3 (kV.map ratL),.list 1 (rows.map bu)]],true⟩)])).put (some 1) (.eptr 1 5 0 0)).put (some 3) (.list 3 ((pA kU kV rows.flatten).map ratL))).put (some 32) (.list 1 (rows.map bu))).put (some 33) (ai rows.length)).put (some 34) (ai i))) (fun i=>i≤rows.length) (fun i=>rows.length-i) 0 (Nat.zero_le _) ?_
 rintro i L1 hi
 refine bJ ?_
 refine an rfl (fun h35r h35=>?_) (fun h35r h35=>?_)
 ·have hi2:i<rows.length:=by omega
  have hrm:=cm hi2
  have hrl:=hm _ hrm
  refine dI ?_
  refine cp bf (Dj 162 (fun _=>false) (rows.getD i []) (by omega) (fun x hx=>BF x ((hq _ hrm x hx).le (by decide)))) ?_
  refine bG ?_
  refine bb (b:=_) rfl (by first | rfl | exact lD _) ?_
  refine bw ?_
  refine ab rfl (.bin rfl rfl (a9 (by omega))) ?_
  refine bx ?_
  exact fA (i+1) (by omega)
 ·obtain rfl:i=rows.length:=by omega
  refine cg ?_
  refine cp bf (ya 163 (fun _=>false) (pA kU kV rows.flatten) (by omega) (fun x hx=>Br x (hR x hx))) ?_
  refine bG ?_
  refine bb (b:=_) rfl (by first | rfl | exact lD _) ?_
  refine cx ?_
  exact aS rfl (.pure rfl)
namespace Lp
theorem bQ {p q:Prop} (k:q) (e:p=q:=by simp only [e1,e2,e3,e4,p1,p2,p3,q1,q2,q3,l1,t0,t1,r1,r2,r3,r4,Nat.zero_add,Nat.reduceMul,Nat.reduceAdd,b1,b2,b3,b4,b5,b6,i1,i2,i3,i4,i5,i6,Nat.reduceBEq,bu,dE,List.length_map,cb,ae dW,dE,dU,aQ,bo,aW,List.length_cons,List.length_nil,List.nil_append,List.map_nil,List.take_nil,List.append_nil,List.set_cons_zero,List.set_cons_succ,Nat.reduceEqDiff,reduceIte,if_true,if_false,aN,aM,ae cT,ae cA,ae ah,ax,aC,LV.kill,aH];exact rfl):p:=e.mpr k
end Lp
open Lp in
theorem zV (U V:Nat) (kU kV:List Rat) (rows:List (List PoR)) (hkU:kOK kU U) (hkV:kOK kV V) (hn:rows.length=kU.length-U-1) (hm:∀ r∈rows,r.length=kV.length-V-1) (hq:∀ r∈rows,∀ q∈r,jN 64 q) (hpn:rows.length=U+1) (hpm:(rows.getD 0 []).length=V+1):ap Tryz.prog 29 [.agg [ai U,ai V,.list 3 (kU.map ratL),.list 3 (kV.map ratL),.list 1 (rows.map bu)]] (iL 0):=by
 have hsp:LV.pure (.agg [ai U,ai V,.list 3 (kU.map ratL),.list 3 (kV.map ratL),.list 1 (rows.map bu)])=true:=by simp [LV.pure,aD,al ah,al dW]
 have hU1:=hkU.d1
 have hU6:=hkU.d6
 have hUl:=hkU.len
 have hUm:=hkU.max
 have hV1:=hkV.d1
 have hV6:=hkV.d6
 have hVl:=hkV.len
 have hVm:=hkV.max
 refine bS Tryz.func29 ?_
 refine bv ?_
 refine cp bK (rL U V kU kV rows hkU hkV hn hm hq) ?_
 refine cg ?_
 refine bb (b:=_) rfl (rfl) ?_
 refine bw ?_
 refine au 18 (by decide +kernel) ?_
 refine ca ?_
 refine ab rfl (.bin rfl rfl (a9 (by omega))) ?_
 refine bG ?_
 refine ab (ao (v:=false) rfl rfl ((bne_eq_false_iff_eq.2 (by first | omega | (simp only [List.length_map];omega)))) rfl) gI ?_
 refine ab (ao (v:=false) rfl rfl ((bne_eq_false_iff_eq.2 (by first | omega | (simp only [List.length_map];omega)))) rfl) fS ?_
 refine ab (ao (v:=false) rfl rfl ((bne_eq_false_iff_eq.2 (by first | omega | (simp only [List.length_map];omega)))) rfl) qN ?_
 refine ab (ao (v:=false) rfl rfl ((bne_eq_false_iff_eq.2 (by first | omega | (simp only [List.length_map];omega)))) rfl) fS ?_
 refine ab (ao (v:=false) rfl rfl ((bne_eq_false_iff_eq.2 (by first | omega | (simp only [List.length_map];omega)))) rfl) vp ?_
 refine ab (ao (v:=false) rfl rfl ((bne_eq_false_iff_eq.2 (by first | omega | (simp only [List.length_map];omega)))) rfl) gI ?_
 refine ab (ao (v:=false) rfl rfl ((bne_eq_false_iff_eq.2 (by first | omega | (simp only [List.length_map];omega)))) rfl) fS ?_
 refine ab (ao (v:=false) rfl rfl ((bne_eq_false_iff_eq.2 (by first | omega | (simp only [List.length_map];omega)))) rfl) (.bin rfl rfl (a9 (by omega))) ?_
 refine ab (ao (v:=false) rfl rfl ((bne_eq_false_iff_eq.2 (by first | omega | (simp only [List.length_map];omega)))) rfl) (.bin rfl rfl rfl) ?_
 refine ab rfl (.pickF rfl ((bne_eq_false_iff_eq.2 (by first | omega | (simp only [List.length_map];omega))))) ?_
 refine bG ?_
 refine bb (b:=_) rfl (bne_eq_false_iff_eq.2 (by first | omega | (simp only [List.length_map,bu,dE,t0,hpm];omega))) ?_
 refine cx ?_
 exact aS rfl (.pure rfl)
def sW:List Rat:=[0,0,1,1]
def GE:List PoR:=[⟨⟨0,0,0⟩,1⟩,⟨⟨0,1,0⟩,1⟩]
def Gt:List PoR:=[⟨⟨1,0,0⟩,1⟩,⟨⟨1,1,1⟩,1⟩]
def ka:List (List PoR):=[GE,Gt]
theorem DI:iF 1 0 1=sW:=by decide +kernel
theorem za:∀ r∈ka,∀ q∈r,jN 1 q:=fun r hr q hq=>by
 simp only [ka,List.mem_cons,List.not_mem_nil,or_false] at hr
 rcases hr with rfl | rfl<;>simp only [GE,Gt,List.mem_cons,List.not_mem_nil,or_false] at hq<;>rcases hq with rfl | rfl<;>exact⟨⟨by decide +kernel,by decide +kernel,by decide +kernel⟩,by decide +kernel,by decide +kernel⟩
theorem xx:∀ r∈ka,r.length=2:=fun r hr=>by
 simp only [ka,List.mem_cons,List.not_mem_nil,or_false] at hr
 rcases hr with rfl | rfl<;>rfl
theorem uE:pf 1 1 1 ka:=⟨by decide,by decide,by decide,by decide,by decide,by decide,rfl,xx,za⟩
theorem Cc:kOK sW 1:=by
 have:=CY (d:=1) (T:=0) (by decide) (by decide) (by decide +kernel) (by decide +kernel)
 rwa [show wE 1 0=sW from by decide +kernel] at this
theorem C5 {p q:V3} (h1:p.x=q.x) (h2:p.y=q.y) (h3:p.z=q.z):p=q:=by
 obtain⟨a,b,c⟩:=p
 obtain⟨d,e,f⟩:=q
 simp only at h1 h2 h3
 rw [h1,h2,h3]
theorem D9:Eo (DA 1 1 (1-1) 1 (oH 1 1) ka.flatten (1-0) 0 0) (DA 1 1 1 (1-1) (oL 1 1) ka.flatten (1-0) 0 0)=⟨0,0,1⟩ :=
 C5 (by decide +kernel) (by decide +kernel) (by decide +kernel)
theorem Bs:gF (cn ((ka.getD 0 []).getD 0 default).p ((ka.getD 1 []).getD 0 default).p ((ka.getD 0 []).getD 1 default).p) ⟨0,0,0⟩=false:=by decide +kernel
theorem Bg:oM (cn ((ka.getD 0 []).getD 0 default).p ((ka.getD 1 []).getD 0 default).p ((ka.getD 0 []).getD 1 default).p) (cZ (cn ((ka.getD 0 []).getD 0 default).p ((ka.getD 1 []).getD 0 default).p ((ka.getD 0 []).getD 1 default).p) ((ka.getD 0 []).getD 0 default).p) (ka.flatten.map (·.p)) /
  cZ (cn ((ka.getD 0 []).getD 0 default).p ((ka.getD 1 []).getD 0 default).p ((ka.getD 0 []).getD 1 default).p) (cn ((ka.getD 0 []).getD 0 default).p ((ka.getD 1 []).getD 0 default).p ((ka.getD 0 []).getD 1 default).p)=1:=by decide +kernel
namespace LW
theorem bQ {p q:Prop} (k:q) (e:p=q:=by simp only [e1,e2,e3,e4,p1,p2,p3,q1,q2,q3,l1,t0,t1,r1,r2,r3,r4,Nat.zero_add,Nat.reduceMul,Nat.reduceAdd,b1,b2,b3,b4,b5,b6,i1,i2,i3,i4,i5,i6,Nat.reduceBEq,List.set_cons_zero,List.set_cons_succ,Nat.reduceEqDiff,reduceIte,if_true,if_false,aN,aM,ae cT,ae cA,ae ah,ax,aC,LV.kill,aH];exact rfl):p:=e.mpr k
end LW
open LW in
theorem At :ap Tryz.prog 53 [iL 2] (cQ ⟨0,0,1⟩):=by
 have hI1:ap Tryz.prog 60 [iL 1] (ratL 1):=eO 1 (by decide) (by decide)
 refine bS Tryz.func53 (ht:=(fun r=>LV.ren_pure r _ (cT.pure _))) ?_
 refine ct ?_
 refine cp bK (hI1) ?_
 refine bD ?_
 exact b9 [] rfl rfl rfl cs (bX cs rfl) lq (.pure pu)
namespace MA
theorem bQ {p q:Prop} (k:q) (e:p=q:=by simp only [e1,e2,e3,e4,p1,p2,p3,q1,q2,q3,l1,t0,t1,r1,r2,r3,r4,Nat.zero_add,Nat.reduceMul,Nat.reduceAdd,b1,b2,b3,b4,b5,b6,i1,i2,i3,i4,i5,i6,Nat.reduceBEq,List.set_cons_zero,List.set_cons_succ,Nat.reduceEqDiff,reduceIte,if_true,if_false,aN,aM,ae cT,ae cA,ae ah,ax,aC,LV.kill,aH];exact rfl):p:=e.mpr k
end MA
open MA in
theorem Bo :ap Tryz.prog 52 [] (.agg [ai 1,ai 1,.list 3 (sW.map ratL),.list 3 (sW.map ratL),.list 1 (ka.map bu)]):=by
 have hI1:ap Tryz.prog 60 [iL 1] (ratL 1):=eO 1 (by decide) (by decide)
 refine bS Tryz.func52 (ht:=(fun g=>LV.ren_pure g _ (by simp [LV.pure,aD,al ah,al dW]))) ?_
 refine bV ?_
 refine cp bK (BD) ?_
 refine cp bK (Aq) ?_
 refine cx ?_
 refine cp bK (hI1) ?_
 refine bJ ?_
 refine ab rfl (.build0 lU cz) ?_
 refine ab rfl (.build0 lU cz) ?_
 refine bG ?_
 refine bM rfl rfl (.lit4 (a:=0) (b:=0) (c:=1) (f:=1) ah Tryz.underlying36 (cL ▸ cz) bF rfl rfl rfl rfl (by decide) (by decide)) ?_
 refine cx ?_
 refine jc (Ja rfl) ?_
 refine bG ?_
 refine jc (ou (p:=⟨0,1,0⟩) (r:=1) rfl rfl) ?_
 refine bM rfl rfl (.lit2 (a:=⟨⟨0,0,0⟩,1⟩) (b:=⟨⟨0,1,0⟩,1⟩) (z:=⟨⟨0,0,0⟩,0⟩) cA Tryz.underlying60 (show aT _ _ (dX ⟨⟨0,0,0⟩,0⟩) from ta) me rfl rfl (by decide) (by decide)) ?_
 refine bG ?_
 refine jc (ou (p:=⟨1,0,0⟩) (r:=1) rfl rfl) ?_
 refine ca ?_
 refine jc (ou (p:=⟨1,1,1⟩) (r:=1) rfl rfl) ?_
 refine bM rfl rfl (.lit2 (a:=⟨⟨1,0,0⟩,1⟩) (b:=⟨⟨1,1,1⟩,1⟩) (z:=⟨⟨0,0,0⟩,0⟩) cA Tryz.underlying60 (show aT _ _ (dX ⟨⟨0,0,0⟩,0⟩) from ta) me rfl rfl (by decide) (by decide)) ?_
 refine bM rfl rfl (.lit (z:=bu []) (sz:=1) Tryz.underlying37 En rf rfl (by decide) (by decide) (by decide) (by intro p hp;simp only [List.mem_cons,List.not_mem_nil,or_false] at hp;rcases hp with rfl | rfl<;>exact⟨by decide,rfl,(fun h=>by cases h),(fun _ h=>by cases h)⟩)) ?_
 refine ab rfl (.build (zs:=[.v (.int .i64 0),.v (.int .i64 0),.v (.slice none 0 0),.v (.slice none 0 0),.v (.slice none 0 0)]) FD IB (by simp only [List.forall_mem_cons];exact⟨⟨_,rfl,rfl,mT⟩,⟨_,rfl,rfl,mT⟩,⟨_,rfl,rfl,mT⟩,⟨_,rfl,rfl,mT⟩,⟨_,rfl,rfl,mT⟩,fun _ h=>by cases h⟩)) ?_
 refine bw ?_
 exact b9 [12,20,30,31] rfl rfl rfl cs (bX cs rfl) Ew (.agg (.cons (.pure rfl) (.cons (.pure rfl) (.cons (bg (l:=sW) ah rfl rfl rfl) (.cons (bg (l:=sW) ah rfl rfl rfl) (.cons (.refI (blk:=⟨1,_,false⟩) rfl rfl (by decide) rfl (.cons (bg (l:=GE) cA rfl rfl rfl) (.cons (bg (l:=Gt) cA rfl rfl rfl) .nil))) .nil))))))
namespace Mb
theorem bQ {p q:Prop} (k:q) (e:p=q:=by simp only [e1,e2,e3,e4,p1,p2,p3,q1,q2,q3,l1,t0,t1,r1,r2,r3,r4,Nat.zero_add,Nat.reduceMul,Nat.reduceAdd,b1,b2,b3,b4,b5,b6,i1,i2,i3,i4,i5,i6,Nat.reduceBEq,List.set_cons_zero,List.set_cons_succ,Nat.reduceEqDiff,reduceIte,if_true,if_false,aN,aM,ae cT,ae cA,ae ah,ax,aC,LV.kill,aH];exact rfl):p:=e.mpr k
end Mb
open Mb in
theorem oW :ap Tryz.prog 8 [] (bL true):=by
 have hsp:LV.pure (.agg [ai 1,ai 1,.list 3 (sW.map ratL),.list 3 (sW.map ratL),.list 1 (ka.map bu)])=true:=by simp [LV.pure,aD,al ah,al dW]
 have hb1:eN 210000000 (DA 1 1 (1-1) 1 (oH 1 1) ka.flatten (1-0) 0 0):=(pP uE (CI (U:=1) (V:=1) (by decide) (by decide)) (by decide) (wd:=1-0) (by decide +kernel) (lA (by decide +kernel)) (lA (by decide +kernel))).2.2
 have hb2:eN 210000000 (DA 1 1 1 (1-1) (oL 1 1) ka.flatten (1-0) 0 0):=(pP uE (BZ (U:=1) (V:=1) (by decide) (by decide)) (by decide) (wd:=1-0) (by decide +kernel) (lA (by decide +kernel)) (lA (by decide +kernel))).2.2
 have hD:=Df 1 1 1 0 1 0 1 ka uE (by decide +kernel) (by decide +kernel) (by decide +kernel) (by decide +kernel) (by decide +kernel) (by decide +kernel) 0 0 0 0 (by decide +kernel) (by decide +kernel) (lA (by decide +kernel)) (lA (by decide +kernel)) (by decide +kernel) (by decide +kernel) (by decide) (by decide +kernel) (by decide +kernel)
 rw [DI] at hD
 have hN:=DV 1 1 sW sW ka 0 0 _ _ 0 hb1 hb2 hD
 rw [D9] at hN
 have hF:=vk 1 1 1 sW sW ka uE (by decide) Bs
 rw [Bg] at hF
 have hC:ap Tryz.prog 29 [.agg [ai 1,ai 1,.list 3 (sW.map ratL),.list 3 (sW.map ratL),.list 1 (ka.map bu)]] (iL 0):=zV 1 1 sW sW ka Cc Cc rfl xx (fun r hr q hq=>(za r hr q hq).le (by decide)) rfl rfl
 have hS:ap Tryz.prog 20 [cQ ⟨0,0,1⟩,cQ ⟨0,0,1⟩] (bL true):=vT ⟨0,0,1⟩ ⟨by decide +kernel,by decide +kernel,by decide +kernel⟩
 refine bS Tryz.func8 ?_
 refine bV ?_
 refine cp Gc (Bo) ?_
 refine bV ?_
 refine ab rfl (.build0 lU cz) ?_
 refine ab rfl (.build0 lU cz) ?_
 refine cp jt (hN) ?_
 refine bD ?_
 refine cp bK (hF) ?_
 refine cg ?_
 refine au 22 (by decide +kernel) ?_
 refine aL ?_
 refine cp bK (hC) ?_
 refine bG ?_
 refine ab (ao (v:=true) rfl rfl ((by decide +kernel)) rfl) (.move _) ?_
 refine ab (ao (v:=true) rfl rfl ((by decide +kernel)) rfl) (.bin rfl rfl rfl) ?_
 refine ab rfl (.pickT rfl ((by decide +kernel))) ?_
 refine aL ?_
 refine ab (ao (v:=true) rfl rfl ((by decide +kernel)) rfl) fS ?_
 refine ci (ao (v:=true) rfl rfl ((by decide +kernel)) rfl) (.cons fR .nil) (At) ?_
 refine ci (ao (v:=true) rfl rfl ((by decide +kernel)) rfl) (.cons fR (.cons fR .nil)) (hS) ?_
 refine ab rfl (.pickT rfl ((by decide +kernel))) ?_
 refine aL ?_
 refine ab (ao (v:=true) rfl rfl ((by decide +kernel)) rfl) (.move _) ?_
 refine ab (ao (v:=true) rfl rfl ((by decide +kernel)) rfl) (.bin rfl rfl rfl) ?_
 refine ab rfl (.pickT rfl ((by decide +kernel))) ?_
 refine aL ?_
 refine ab (ao (v:=true) rfl rfl ((by decide +kernel)) rfl) fS ?_
 refine ci (ao (v:=true) rfl rfl ((by decide +kernel)) rfl) (.cons fR .nil) (EX) ?_
 refine ab (ao (v:=true) rfl rfl ((by decide +kernel)) rfl) (.eqS rfl rfl) ?_
 refine ab rfl (.pickT rfl ((by decide +kernel))) ?_
 refine bw ?_
 refine aS (x:=bL ((⟨#[49]⟩:ByteArray).toList==(⟨#[49]⟩:ByteArray).toList)) rfl ?_
 have hbb:((⟨#[49]⟩:ByteArray).toList==(⟨#[49]⟩:ByteArray).toList)=true:=beq_self_eq_true _
 rw [hbb]
 exact .pure rfl
def wX (l:List Int) (k n:Nat):Rat:=o7 l (uK l k)
def wV (l:List Int) (k n:Nat):Rat:=o7 l (uX l k n 0)
theorem r7 (l:List Int) (k:Nat):yi l k 0=0:=Nat.le_zero.1 (lJ l k 0).2
theorem B6 (l:List Int) (d k:Nat):yT l d k 0=iF d (o7 l k) (o7 l k+1):=by
 unfold yT Ae
 rw [r7];rfl
theorem xF (l:List Int) (k n:Nat):s6 l k n 0=iF (sU l k n) (wX l k n) (wX l k n+1):=B6 ..
theorem yh (l:List Int) (k n:Nat):s8 l k n 0=iF (sV l k n) (wV l k n) (wV l k n+1):=B6 ..
theorem Fv {l:List Int} {k n:Nat} (hl:l.length≤500) (hk:k≤500) (hn:0<n) (hn3:n≤3):pf 4 (sU l k n) (sV l k n) (sR l k n 0):=by
 have h:=wz l hl hk hn (show n≤6 by omega) (show 0≤2 by omega)
 have h1:=h.un
 have h2:=h.vn
 have ha:sA l k n 0=sU l k n+1:=by unfold sA;rw [r7]
 have hb:sB l k n 0=sV l k n+1:=by unfold sB;rw [r7]
 exact⟨by decide,by decide,h.u1,by omega,h.v1,by omega,by rw [h.rl,ha],fun r hr=>by rw [(h.rk r hr).1,hb],fun r hr=>(h.rk r hr).2⟩
theorem Eu.le {R S:Nat} {b:Bx3} (h:Eu R b) (k:R≤S):Eu S b:=⟨h.1.le k,h.2.1.le k,h.2.2.le k⟩
end Go.Proofs.YtfpdccbgngdhkaaGreat
end
section
set_option linter.unusedVariables false
set_option linter.unusedSimpArgs false
namespace Go.Lg
theorem aP.boxp {L:St} {t b sz:Nat} {y:LV} {m:Bool} (h:L.slot t=.eptr b sz 0 0) (hb:L.heap b=some ⟨sz,[y],m⟩) (hs:y.csize=sz) (ha:y.isAgg=true) (hp:y.pure=true) (h0:b≠0:=by decide):aP L ((L.put (some t) (.boxp y)).kill b):=by
 have h0':([b]:List Nat).contains 0=false:=by simp;omega
 have e1:=(aP.frz [b] h0' h (.eptr (blk:=⟨sz,[y],m && !([b]:List Nat).contains b⟩) (x:=y) (n:=sz) (ag:=true) (by simp only [St.frz,hb,Option.map_some]) rfl rfl hs (bX hs ha) hp (by simp))).trans (aP.kill _ b h0)
 have e2:((L.frz [b]).put (some t) (.boxp y)).kill b=(L.put (some t) (.boxp y)).kill b:=by
  unfold St.kill
  congr 1
  funext c
  rw [cw,cw]
  by_cases hcb:c=b
  ·simp [hcb]
  ·simp only [St.frz,if_neg hcb]
   cases L.heap c with
   | none=>rfl
   | some blk=>simp [hcb]
 rw [←e2]
 exact e1
theorem x9 {P:Program} {L L0:St} {Q:LEx→St→Prop} {ops:Array Oper} {id:Nat} (hw:aP L L0) (h:ff P ops ops.size (Array.replicate ops.size false) L0 (Q .normal)):wpL P (.region id ops true) Q L:=⟨L0,hw,.inr (.inl ⟨rfl,h⟩)⟩
def rt:List (Nat × Blk)→List (Nat × Blk)→Prop
 | [],_=>True
 | (b,x) :: t,l=>hp l b=some x∧rt t l
theorem tF {l':List (Nat × Blk)}:∀ {l:List (Nat × Blk)},rt l l'→∀ c x,hp l c=some x→hp l' c=some x
 | [],_,c,x,h=>by cases h
 | (b,y) :: t,h,c,x,hc=>by
  simp only [hp] at hc
  by_cases hb:c=b
  ·subst hb
   simp only [Nat.beq_refl,cond_true,Option.some.injEq] at hc
   subst hc
   exact h.1
  ·have:Nat.beq c b=false:=by rw [←Bool.not_eq_true,Nat.beq_eq];exact hb
   rw [this] at hc
   exact tF h.2 c x hc
theorem ew {l l':List (Nat × Blk)} (h:rt l l') (h':rt l' l):hp l=hp l':=by
 funext c
 cases hc:hp l c with
 | some x=>exact(tF h c x hc).symm
 | none =>
  cases hc':hp l' c with
  | none=>rfl
  | some x=>rw [tF h' c x hc'] at hc;cases hc
def kw:Op→Bool
 | .store ..=>true
 | .build ..=>true
 | .box ..=>true
 | .alloc ..=>true
 | .buildSlice ..=>true
 | .makeSlice ..=>true
 | .call ⟨.value (.func _),_,_⟩=>true
 | .call ⟨.builtin .append,_,_⟩=>true
 | op=>dd op
section
variable {P:Program} {H:bI} {ρ ρ':Operand→LV}
theorem xO {ps:Array (Nat × Operand)} (hr:∀ p∈ps.toList,ρ' p.2=ρ p.2):(ps.toList.map fun p=>(p.1,ρ p.2))=ps.toList.map fun p=>(p.1,ρ' p.2) :=
 List.map_congr_left fun p hp=>by rw [hr p hp]
theorem OpA.cong {d:Nat} {op:Op} {r:LV} {blk:Blk} (h:OpA P ρ d op r blk) (hr:∀ x∈op.operands,ρ' x=ρ x):OpA P ρ' d op r blk:=by
 cases h with
 | make hT hz hE hzs hb hl hc hnm hm hm2=>exact .make hT hz hE hzs hb ((hr _ (by simp [Op.operands])).trans hl) ((hr _ (by simp [Op.operands])).trans hc) hnm hm hm2
 | @lit T E n ps z sz hT hz hE hzs hn h0 hs0 hp =>
  have hq:∀ p∈ps.toList,ρ' p.2=ρ p.2:=fun p hp=>hr _ (by simp only [Op.operands,List.mem_toArray];exact List.mem_map.2 ⟨p,hp,rfl⟩)
  rw [xO hq]
  exact .lit hT hz hE hzs hn h0 hs0 fun p hp'=>by rw [hq p hp'];exact hp p hp'
 | lit0 hT hE=>exact .lit0 hT hE
 | @box T x hne =>
  have e:=hr x (by simp [Op.operands])
  rw [←e]
  rw [←e] at hne
  exact .box hne
 | alloc hz=>exact .alloc hz
theorem OpP.congB {T:TypeId} {ps:Array (Nat × Operand)} {r:LV} (h:OpP P H ρ (.build T ps) r) (hr:∀ x∈(Op.build T ps).operands,ρ' x=ρ x):OpP P H ρ' (.build T ps) r:=by
 have hq:∀ p∈ps.toList,ρ' p.2=ρ p.2:=fun p hp=>hr _ (by simp only [Op.operands,List.mem_toArray];exact List.mem_map.2 ⟨p,hp,rfl⟩)
 cases h with
 | buildA hT hE hf hz hp =>
  rw [xO hq]
  exact .buildA hT hE hf hz fun p hp'=>by rw [hq p hp'];exact hp p hp'
 | build hT hz hp =>
  rw [xO hq]
  exact .build hT hz fun p hp'=>by rw [hq p hp'];exact hp p hp'
end
theorem xb (L:St) {d:Nat} {v:LV} (hv:∀ b,v.kill b=v) (b:Nat):(L.put (some d) v).kill b=(L.kill b).put (some d) v:=by
 have h1:∀ t,((L.put (some d) v).kill b).slot t=((L.kill b).put (some d) v).slot t:=fun t=>by
  rw [bz]
  show (((L.put (some d) v).slot t).kill b)=_
  rw [bz]
  split
  ·exact hv b
  ·rfl
 exact congrArg (fun f=>St.mk f (L.kill b).heap) (funext h1)
section
variable {P:Program} {ops:Array Oper}
theorem uw {L L2:St} {d:Nat} {v:LV} {o:Oper} (hv:∀ b,v.kill b=v) (hk:kw o.op=true) (hl:d∉o.looksAt ops) (hd:o.dst≠some d) (h:Step P false ops o (L.put (some d) v) L2) :
  ∃ L1,Step P false ops o L L1∧L2=L1.put (some d) v∧∀ t,o.dst≠some t→(∀ b,(L.slot t).kill b=L.slot t)→L1.slot t=L.slot t:=by
 have hev:=yK (L:=L) (v:=v) hl
 have hsl:∀ (M:St) (r:LV) t,M.slot t=L.slot t→o.dst≠some t→(M.put o.dst r).slot t=L.slot t:=fun M r t hM hne=>by
  cases hh:o.dst with
  | none=>exact hM
  | some e=>rw [bz,if_neg (fun q=>hne (by rw [hh,q]))];exact hM
 cases h with
 | skip hg hL=>exact⟨L.put o.dst (.tup []),.skip (eb hl hg) rfl,by rw [hL,d9 L hd],fun t ht _=>hsl L _ t rfl ht⟩
 | @val r fr H1 hg hle hfr hov hL =>
  obtain⟨dst,op,ty,pos,after,gd⟩:=o
  have hev':∀ x∈op.operands,L.ev x=(L.put (some d) v).ev x:=fun x hx=>(hev x hx).symm
  have hov2:OpV P H1 L.ev (dst.getD 0) op r fr:=by
   cases hov with
   | pure hp =>
    by_cases hpl:dd op=true
    ·exact .pure (hp.cong hpl hev')
    ·by_cases hbq:∃ T ps,op=.build T ps
     ·obtain⟨T,ps,rfl⟩:=hbq
      exact .pure (hp.congB hev')
     ·cases hp with
      | ext2 hf hname hb hn he hx hr h1 h2 =>
       refine .pure (.ext2 hf hname hb hn he ?_ hr h1 h2)
       rw [←hx]
       exact List.map_congr_left fun x hxm=>hev' x (iv hxm)
      | build=>exact absurd ⟨_,_,rfl⟩ hbq
      | buildA=>exact absurd ⟨_,_,rfl⟩ hbq
      | _=>first | (exfalso;exact hpl rfl) | (exfalso;revert hk hpl;simp [kw,dd])
   | alloc ha=>exact .alloc (ha.cong hev')
   | call hc =>
    cases hc with
    | func ha hkk hlen hpu =>
     refine .call (.func ?_ hkk hlen hpu)
     rw [show (_:Array Operand).toList.map L.ev=_ from List.map_congr_left fun x hxm=>hev' x (iv hxm)]
     exact ha
    | clo=>exfalso;revert hk;simp [kw,dd]
    | mk=>exfalso;revert hk;simp [kw,dd]
  refine⟨⟨(L.put dst r).slot,H1⟩,.val (eb hl hg) hle hfr hov2 rfl,?_,fun t ht _=>hsl L r t rfl ht⟩
  rw [hL]
  have:=d9 L hd v r
  exact congrArg (fun M=>St.mk (St.slot M) H1) this
 | st hg hot =>
  obtain⟨dst,op,ty,pos,after,gd⟩:=o
  cases hot with
  | store hp hb hs hm hi hy hput hT hne =>
   rename_i T p x b sz i o' blk y y'
   have e1:=hev p (by simp [Op.operands])
   have e2:=hev x (by simp [Op.operands])
   rw [e1] at hp
   rw [e2] at hput hT hne
   refine⟨_,.st (eb hl hg) (.store hp hb hs hm hi hy hput hT hne),?_,fun t ht _=>?_⟩
   ·exact d9 (L.setB b _) hd v .any
   ·exact hsl (L.setB b _) .any t rfl ht
  | appX hx hb hs hm hlen hbd hb0 hT hU hz hE hzs hby hy hsz h63 hs0 =>
   rename_i T U E E' d' b sz len blk x y news z by_
   have e1:=hev x (by simp [Op.operands,Call.operands])
   have e2:=hev y (by simp [Op.operands,Call.operands])
   rw [e1] at hx
   rw [e2] at hy
   refine⟨_,.st (eb hl hg) (.appX hx hb hs hm hlen hbd hb0 hT hU hz hE hzs hby hy hsz h63 hs0),?_,fun t ht hf=>?_⟩
   ·rw [xb L hv]
    exact d9 ((L.kill b).setB d' _) hd v _
   ·exact hsl ((L.kill b).setB d' _) _ t (hf b) ht
  | app0X hx hbd hT hU hz hE hzs hby hy hn hsz h63 hs0 =>
   rename_i T U E E' d' sz x y news z by_
   have e1:=hev x (by simp [Op.operands,Call.operands])
   have e2:=hev y (by simp [Op.operands,Call.operands])
   rw [e1] at hx
   rw [e2] at hy
   refine⟨_,.st (eb hl hg) (.app0X hx hbd hT hU hz hE hzs hby hy hn hsz h63 hs0),?_,fun t ht hf=>?_⟩
   ·exact d9 (L.setB d' _) hd v _
   ·exact hsl (L.setB d' _) _ t rfl ht
  | _=>exfalso;revert hk;simp [kw,dd]
 | stM hdr hg hom =>
  obtain⟨dst,op,ty,pos,after,gd⟩:=o
  cases hom with
  | call hb hm hp ha hn hkk hm' hp' =>
   rename_i f xs ats args r b blk blk'
   have em:xs.toList.map (L.put (some d) v).ev=xs.toList.map L.ev:=List.map_congr_left fun x hxm=>hev x (iv hxm)
   rw [em] at ha hn
   refine⟨_,.stM hdr (eb hl hg) (.call hb hm hp ha hn hkk hm' hp'),?_,fun t ht _=>?_⟩
   ·exact d9 (L.setB b _) hd v _
   ·exact hsl (L.setB b _) _ t rfl ht
  | appz hT hU hz hE hzs hb hx hy hbd h0 hs0 hm h63 =>
   rename_i T U E x y z k kl sz by_ n d'
   have e1:=hev x (by simp [Op.operands,Call.operands])
   have e2:=hev y (by simp [Op.operands,Call.operands])
   rw [e1] at hx
   rw [e2] at hy
   refine⟨_,.stM hdr (eb hl hg) (.appz hT hU hz hE hzs hb hx hy hbd h0 hs0 hm h63),?_,fun t ht _=>?_⟩
   ·exact d9 (L.setB d' _) hd v _
   ·exact hsl (L.setB d' _) _ t rfl ht
def rg (ops:Array Oper) (i:Nat) (D:Array Bool):Bool :=
 D.size==ops.size && !D.getD i true && (fB (ops.getD i default)).all (fun j=>D.getD j false) && (ops.getD i default).guard.isNone && dd (ops.getD i default).op &&
 (List.range ops.size).all fun j=>j==i || D.getD j true || (kw (ops.getD j default).op && ((ops.getD j default).dst != (ops.getD i default).dst) &&
  (match (ops.getD i default).dst with | some d=>!((ops.getD j default).looksAt ops).contains d || (fB (ops.getD j default)).contains i | none=>false) &&
  (match (ops.getD j default).dst with | some e=>!((ops.getD i default).looksAt ops).contains e | none=>true))
def qV (L:St):List Operand→Prop
 | []=>True
 | x :: xs=>(∀ b,(L.ev x).kill b=L.ev x)∧qV L xs
theorem mb {L:St}:∀ {l:List Operand},qV L l→∀ x∈l,∀ b,(L.ev x).kill b=L.ev x
 | _ :: _,h,_,.head _=>h.1
 | _ :: _,h,_,.tail _ hx=>mb h.2 _ hx
theorem Cu {p:Prop} (h:p:=by first | exact And.intro (fun _=>rfl) trivial | exact And.intro (fun _=>rfl) (And.intro (fun _=>rfl) trivial) | exact And.intro (fun b=>LV.kill_pure b _ pu) trivial):p:=h
theorem Ci {p:Prop} (h:p:=by first | exact(fun _=>rfl) | exact(fun b=>LV.kill_pure b _ pu) | exact(fun b=>LV.kill_pure b _ (by assumption))):p:=h
theorem eQ {m:Nat} {K:St→Prop} {L:St} {D:Array Bool} {d:Nat} {v:LV} (i:Nat) {o:Oper} (ho:ops[i]?=some o) (hdst:o.dst=some d) (hok:rg ops i D=true) (hv:OpP P (fun _=>none) L.ev o.op v)
  (hfv:∀ b,v.kill b=v) (hfo:qV L o.op.operands.toList)
  (h:ff P ops m (D.setIfInBounds i true) (L.put (some d) v) K):ff P ops (m+1) D L K:=by
 have getD_of:∀ i o,ops[i]?=some o→ops.getD i default=o:=fun i o h=>by rw [Array.getD_eq_getD_getElem?,h];rfl
 have hin:i<ops.size:=(Array.getElem?_eq_some_iff.1 ho).1
 let C:Array Bool→Prop:=fun D=>D.size=ops.size∧D.getD i false=false∧(∀ j∈fB o,D.getD j false=true)∧∀ j oj,ops[j]?=some oj→j≠i→D.getD j false=false →
  kw oj.op=true∧oj.dst≠some d∧(d∈oj.looksAt ops→i∈fB oj)∧∀ e,oj.dst=some e→e∉o.looksAt ops
 unfold rg at hok
 rw [getD_of i o ho,hdst] at hok
 simp only [Bool.and_eq_true,List.all_eq_true,List.mem_range,Bool.or_eq_true,beq_iff_eq,Bool.not_eq_true',Option.isNone_iff_eq_none,bne_iff_ne,ne_eq] at hok
 obtain⟨⟨⟨⟨⟨hsz,hni⟩,hrd⟩,hgd⟩,hslim⟩,hall⟩:=hok
 have hC:C D:=by
  refine⟨hsz,by rw [eW (by omega) false true];exact hni,hrd,fun j oj hj hne hDj=>?_⟩
  have hjl:j<ops.size:=(Array.getElem?_eq_some_iff.1 hj).1
  have:=hall j hjl
  rw [getD_of j oj hj] at this
  rcases this with(q | q) | q
  ·exact absurd q hne
  ·rw [eW (by omega) true false,hDj] at q;cases q
  ·obtain⟨⟨⟨q1,q2⟩,q3⟩,q4⟩:=q
   refine⟨q1,q2,fun hm=>?_,fun e he hm=>?_⟩
   ·rcases q3 with q | q
    ·rw [List.contains_iff_mem.2 hm] at q;cases q
    ·exact List.contains_iff_mem.1 q
   ·rw [he] at q4
    simp only [Bool.not_eq_true'] at q4
    rw [List.contains_iff_mem.2 hm] at q4;cases q4
 have hstepi:∀ L:St,OpP P (fun _=>none) L.ev o.op v→Step P false ops o L (L.put (some d) v):=fun L hv=>by
  refine .val (fr:=[]) (H1:=L.heap) (r:=v) (by unfold bc;rw [hgd]) (bI.le_refl _) (fun _ _ hh=>by cases hh) (.pure (hv.le fun b blk h=>by cases h)) ?_
  rw [hdst];rfl
 clear hsz hni hrd hall
 have hfo':∀ x∈o.op.operands,∀ b,(L.ev x).kill b=L.ev x:=fun x hx=>mb hfo x (Array.mem_toList_iff.2 hx)
 clear hfo
 have main:∀ (n:Nat) (D:Array Bool) (L:St),C D→OpP P (fun _=>none) L.ev o.op v→(∀ x∈o.op.operands,∀ b,(L.ev x).kill b=L.ev x)→ff P ops n (D.setIfInBounds i true) (L.put (some d) v) K→ff P ops (n+1) D L K:=by
  intro n
  induction n with
  | zero =>
   intro D L ⟨c1,c2,c3,c4⟩ hv _ hh
   have hri:i∈Region.ready .any ops D:=(co c1).2 ⟨o,ho,by rw [eW (by omega) true false];exact c2,c3⟩
   refine⟨fun hr=>(by rw [hr] at hri;cases hri),fun j hj=>?_⟩
   by_cases hji:j=i
   ·subst hji
    exact⟨o,_,ho,hstepi L hv,hh⟩
   ·exfalso
    obtain⟨oj,h1,h2,h3⟩:=(co c1).1 hj
    have:j∈Region.ready .any ops (D.setIfInBounds i true):=(co (by simpa using c1)).2 ⟨oj,h1,by
     rw [Array.getD_eq_getD_getElem?,Array.getElem?_setIfInBounds_ne (Ne.symm hji),←Array.getD_eq_getD_getElem?];exact h2,fun k hk=>by
     by_cases hki:i=k
     ·subst hki
      rw [Array.getD_eq_getD_getElem?,Array.getElem?_setIfInBounds_self_of_lt (by omega)];rfl
     ·rw [Array.getD_eq_getD_getElem?,Array.getElem?_setIfInBounds_ne hki,←Array.getD_eq_getD_getElem?];exact h3 k hk⟩
    rw [hh.1] at this;cases this
  | succ n ih =>
   intro D L ⟨c1,c2,c3,c4⟩ hv hfo hh
   have hri:i∈Region.ready .any ops D:=(co c1).2 ⟨o,ho,by rw [eW (by omega) true false];exact c2,c3⟩
   refine⟨fun hr=>(by rw [hr] at hri;cases hri),fun j hj=>?_⟩
   by_cases hji:j=i
   ·subst hji
    exact⟨o,_,ho,hstepi L hv,hh⟩
   ·obtain⟨oj,h1,h2,h3⟩:=(co c1).1 hj
    have hjl:j<ops.size:=(Array.getElem?_eq_some_iff.1 h1).1
    have hDj:D.getD j false=false:=by rw [eW (by omega) false true];exact h2
    have hji2:j∈Region.ready .any ops (D.setIfInBounds i true):=(co (by simpa using c1)).2 ⟨oj,h1,by
     rw [Array.getD_eq_getD_getElem?,Array.getElem?_setIfInBounds_ne (Ne.symm hji),←Array.getD_eq_getD_getElem?];exact h2,fun k hk=>by
     by_cases hki:i=k
     ·subst hki
      rw [Array.getD_eq_getD_getElem?,Array.getElem?_setIfInBounds_self_of_lt (by omega)];rfl
     ·rw [Array.getD_eq_getD_getElem?,Array.getElem?_setIfInBounds_ne hki,←Array.getD_eq_getD_getElem?];exact h3 k hk⟩
    obtain⟨oj',L2,g1,g2,g3⟩:=hh.2 j hji2
    rw [h1] at g1;cases g1
    obtain⟨k1,k2,k3,k4⟩:=c4 j oj h1 hji hDj
    have hnl:d∉oj.looksAt ops:=fun hm=>by
     have:=h3 i (k3 hm)
     rw [c2] at this;cases this
    obtain⟨L1,s1,s2,s3⟩:=uw hfv k1 hnl k2 g2
    have hsame:∀ x∈o.op.operands,L1.ev x=L.ev x:=fun x hx=>by
     cases x with
     | tmp t =>
      have ht:t∈o.looksAt ops:=by
       unfold Oper.looksAt
       simp only [List.mem_append,List.mem_filterMap]
       exact .inl ⟨.tmp t,by simpa using hx,rfl⟩
      exact s3 t (fun q=>k4 t q ht) (hfo _ hx)
     | const v=>rfl
     | func f=>rfl
     | global f=>rfl
    refine⟨oj,L1,h1,s1,ih (D.setIfInBounds j true) L1 ⟨by simpa using c1,?_,fun k hk=>?_,fun k ok hk hne hDk=>?_⟩ (hv.cong hslim hsame) (fun x hx b=>by rw [hsame x hx];exact hfo x hx b) ?_⟩
    ·rw [Array.getD_eq_getD_getElem?,Array.getElem?_setIfInBounds_ne hji,←Array.getD_eq_getD_getElem?];exact c2
    ·by_cases hjk:j=k
     ·subst hjk
      rw [Array.getD_eq_getD_getElem?,Array.getElem?_setIfInBounds_self_of_lt (by omega)];rfl
     ·rw [Array.getD_eq_getD_getElem?,Array.getElem?_setIfInBounds_ne hjk,←Array.getD_eq_getD_getElem?];exact c3 k hk
    ·by_cases hjk:j=k
     ·subst hjk
      rw [Array.getD_eq_getD_getElem?,Array.getElem?_setIfInBounds_self_of_lt (by omega)] at hDk
      cases hDk
     ·rw [Array.getD_eq_getD_getElem?,Array.getElem?_setIfInBounds_ne hjk,←Array.getD_eq_getD_getElem?] at hDk
      exact c4 k ok hk hne hDk
    ·rw [←s2]
     have:(D.setIfInBounds j true).setIfInBounds i true=(D.setIfInBounds i true).setIfInBounds j true:=by
      refine Array.ext_getElem? fun k=>?_
      by_cases q1:i=k
      ·subst q1
       rw [Array.getElem?_setIfInBounds_self_of_lt (by simp;omega),Array.getElem?_setIfInBounds_ne hji,Array.getElem?_setIfInBounds_self_of_lt (by omega)]
      ·by_cases q2:j=k
       ·subst q2
        rw [Array.getElem?_setIfInBounds_ne q1,Array.getElem?_setIfInBounds_self_of_lt (by omega),Array.getElem?_setIfInBounds_self_of_lt (by simp;omega)]
       ·rw [Array.getElem?_setIfInBounds_ne q1,Array.getElem?_setIfInBounds_ne q2,Array.getElem?_setIfInBounds_ne q2,Array.getElem?_setIfInBounds_ne q1]
     rw [this];exact g3
 exact main m D L hC hv hfo' h
end
end Go.Lg
end
section
set_option linter.unusedVariables false
set_option linter.unusedSimpArgs false
set_option maxHeartbeats 8000000
set_option maxRecDepth 100000
attribute [local irreducible] Go.Lg.opsL Go.Lg.wpL Go.Lg.thenL Go.Lg.blockL
namespace Go.Proofs.YtfpdccbgngdhkaaGreat
open Go.Lg
def rd (V:Nat) (rows:List (List PoR)):List (List PoR):=(List.range (V+1)).map fun j=>rows.map fun r=>r.getD j default
theorem qh (V:Nat) (rows:List (List PoR)):(rd V rows).length=V+1:=by simp [rd]
theorem zS {V:Nat} (rows:List (List PoR)) {j:Nat} (h:j<V+1):(rd V rows)[j]?=some (rows.map fun r=>r.getD j default):=by
 rw [rd,List.getElem?_map,List.getElem?_range h];rfl
theorem rR {V:Nat} (rows:List (List PoR)) {j:Nat} (h:j<V+1):(rd V rows).getD j []=rows.map fun r=>r.getD j default:=by
 rw [List.getD_eq_getElem?_getD,zS rows h];rfl
theorem zt {V:Nat} (rows:List (List PoR)) {j:Nat} (h:j<V+1):(rd V rows).take j++[rows.map fun r=>r.getD j default]=(rd V rows).take (j+1):=by
 rw [List.take_add_one,zS rows h];rfl
theorem Ho {α β:Type} [Inhabited α] (f:α→β) (l:List α) (d:α) {i:Nat} (h:i<l.length):(l.map f).take i++[f (l.getD i d)]=(l.map f).take (i+1):=by
 rw [List.take_add_one,List.getElem?_map,List.getD_eq_getElem?_getD,List.getElem?_eq_getElem h];rfl
namespace KE
theorem bQ {p q:Prop} (k:q) (e:p=q:=by simp only [e1,e2,e3,e4,p1,p2,p3,q1,q2,q3,l1,t0,t1,r1,r2,r3,r4,Nat.zero_add,Nat.reduceMul,Nat.reduceAdd,b1,b2,b3,b4,b5,b6,i1,i2,i3,i4,i5,i6,Nat.reduceBEq,bu,etk,eto,esw,egr,ae ah,ae dW,List.length_map,List.take_nil,List.nil_append,aW,cb,ae dW,dE,dU,aQ,bo,aW,List.length_cons,List.length_nil,List.nil_append,List.map_nil,List.take_nil,List.append_nil,List.set_cons_zero,List.set_cons_succ,Nat.reduceEqDiff,reduceIte,if_true,if_false,aN,aM,ae cT,ae cA,ae ah,ax,aC,LV.kill,aH];exact rfl):p:=e.mpr k
end KE
open KE in
theorem AD (R U V:Nat) (kU kV:List Rat) (rows:List (List PoR)) (h:pf R U V rows) (hku:kU.length≤100) (hkv:kV.length≤100):ap Tryz.prog 15 [.agg [ai U,ai V,.list 3 (kU.map ratL),.list 3 (kV.map ratL),.list 1 (rows.map bu)]] (.agg [ai V,ai U,.list 3 (kV.map ratL),.list 3 (kU.map ratL),.list 1 ((rd V rows).map bu)]):=by
 have hsp:LV.pure (.agg [ai U,ai V,.list 3 (kU.map ratL),.list 3 (kV.map ratL),.list 1 (rows.map bu)])=true:=by simp [LV.pure,aD,al ah,al dW]
 have hpv:=al ah kV
 have hpu:=al ah kU
 have hpr:=al dW rows
 have hu3:=h.u3
 have hv3:=h.v3
 have hrn:=h.n
 have hr0:=h.r0 (Nat.zero_le U)
 have hsl:=qh V rows
 refine bS Tryz.func15 (ht:=(fun g=>LV.ren_pure g _ (by simp [LV.pure,aD,al ah,al dW]))) ?_
 have etk:True:=trivial
 have eto:True:=trivial
 have esw:True:=trivial
 have egr:True:=trivial
 refine bV ?_
 refine cr (fun L=>∃  (L1:St),(True)∧L=((((St.mk L1.slot (hp [(2,⟨5,[.agg [.v (.int .i64 0),.v (.int .i64 0),.v (.slice none 0 0),.v (.slice none 0 0),.v (.slice none 0 0)]],true⟩),(3,⟨5,[.agg [ai V,ai U,.ref 11 3 0 kV.length,.ref 15 3 0 kU.length,.v (.slice none 0 0)]],true⟩),(11,⟨3,kV.map ratL,true⟩),(15,⟨3,kU.map ratL,true⟩)])).put (some 1) (.boxp (.agg [ai U,ai V,.list 3 (kU.map ratL),.list 3 (kV.map ratL),.list 1 (rows.map bu)]))).put (some 2) (.eptr 2 5 0 0)).put (some 3) (.eptr 3 5 0 0))) ?_ ?_
 ·refine x9 (aP.boxp (t:=1) (b:=1) rfl rfl cs rfl hsp) ?_
  refine eQ 0 rfl rfl (by decide +kernel) gI Ci Cu ?_
  refine eQ 1 rfl rfl (by decide +kernel) fS Ci Cu ?_
  refine eQ 2 rfl rfl (by decide +kernel) gI Ci Cu ?_
  refine eQ 3 rfl rfl (by decide +kernel) fS Ci Cu ?_
  refine eQ 5 rfl rfl (by decide +kernel) gI Ci Cu ?_
  refine eQ 6 rfl rfl (by decide +kernel) (.ldbx rfl (ak ah 3 kV) rfl rfl) Ci Cu ?_
  refine eQ 9 rfl rfl (by decide +kernel) gI Ci Cu ?_
  refine eQ 10 rfl rfl (by decide +kernel) (.ldbx rfl (ak ah 3 kU) rfl rfl) Ci Cu ?_
  refine nx 4 8 13 _ _ _ (by decide +kernel) rfl rfl rfl ?_ ?_ ?_
  ·refine aL ?_
   refine aj ?_
   refine nx 7 8 13 _ _ _ (by decide +kernel) rfl rfl rfl ?_ ?_ ?_
   ·refine aK rfl (.appX (d:=11) (news:=kV.map ratL) rfl rfl rfl rfl (by simp) (.inl rfl) (by decide) Tryz.underlying36 Tryz.underlying36 cz bF rfl f3 (.inr (.inl rfl)) (by simp;omega) (by simp;omega) (by decide)) ?_
    refine aj ?_
    refine bY 8 13 _ _ (by decide +kernel) rfl rfl ?_ ?_
    ·refine aL ?_
     refine aj ?_
     refine bY 11 13 _ _ (by decide +kernel) rfl rfl ?_ ?_
     ·refine aK rfl (.appX (d:=15) (news:=kU.map ratL) rfl rfl rfl rfl (by simp) (.inl rfl) (by decide) Tryz.underlying36 Tryz.underlying36 cz bF rfl f3 (.inr (.inl rfl)) (by simp;omega) (by simp;omega) (by decide)) ?_
      refine aj ?_
      refine bY 12 13 _ _ (by decide +kernel) rfl rfl ?_ ?_
      ·refine aL ?_
       refine aj ?_
       refine aq 13 _ (by decide +kernel) rfl ?_
       refine aL ?_
       refine aj ?_
       refine aq 14 _ (by decide +kernel) rfl ?_
       refine aL ?_
       refine aj ?_
       refine bq (by decide +kernel) ?_
       refine aL ?_
       exact⟨_,trivial,((aa (aa (aa (aJ (by first | exact cl | (refine bQ ?_;refine ew ?_ ?_<;>repeat (first | exact trivial | refine And.intro rfl ?_)))) cl) cl) cl)).symm⟩
      ·refine aL ?_
       refine aj ?_
       refine aq 12 _ (by decide +kernel) rfl ?_
       refine aL ?_
       refine aj ?_
       refine aq 14 _ (by decide +kernel) rfl ?_
       refine aL ?_
       refine aj ?_
       refine bq (by decide +kernel) ?_
       refine aL ?_
       exact⟨_,trivial,((aa (aa (aa (aJ (by first | exact cl | (refine bQ ?_;refine ew ?_ ?_<;>repeat (first | exact trivial | refine And.intro rfl ?_)))) cl) cl) cl)).symm⟩
     ·refine aL ?_
      refine aj ?_
      refine aq 11 _ (by decide +kernel) rfl ?_
      refine aK rfl (.appX (d:=15) (news:=kU.map ratL) rfl rfl rfl rfl (by simp) (.inl rfl) (by decide) Tryz.underlying36 Tryz.underlying36 cz bF rfl f3 (.inr (.inl rfl)) (by simp;omega) (by simp;omega) (by decide)) ?_
      refine aj ?_
      refine aq 12 _ (by decide +kernel) rfl ?_
      refine aL ?_
      refine aj ?_
      refine aq 14 _ (by decide +kernel) rfl ?_
      refine aL ?_
      refine aj ?_
      refine bq (by decide +kernel) ?_
      refine aL ?_
      exact⟨_,trivial,((aa (aa (aa (aJ (by first | exact cl | (refine bQ ?_;refine ew ?_ ?_<;>repeat (first | exact trivial | refine And.intro rfl ?_)))) cl) cl) cl)).symm⟩
    ·refine aL ?_
     refine aj ?_
     refine aq 8 _ (by decide +kernel) rfl ?_
     refine aL ?_
     refine aj ?_
     refine aq 11 _ (by decide +kernel) rfl ?_
     refine aK rfl (.appX (d:=15) (news:=kU.map ratL) rfl rfl rfl rfl (by simp) (.inl rfl) (by decide) Tryz.underlying36 Tryz.underlying36 cz bF rfl f3 (.inr (.inl rfl)) (by simp;omega) (by simp;omega) (by decide)) ?_
     refine aj ?_
     refine aq 12 _ (by decide +kernel) rfl ?_
     refine aL ?_
     refine aj ?_
     refine aq 14 _ (by decide +kernel) rfl ?_
     refine aL ?_
     refine aj ?_
     refine bq (by decide +kernel) ?_
     refine aL ?_
     exact⟨_,trivial,((aa (aa (aa (aJ (by first | exact cl | (refine bQ ?_;refine ew ?_ ?_<;>repeat (first | exact trivial | refine And.intro rfl ?_)))) cl) cl) cl)).symm⟩
   ·refine aL ?_
    refine aj ?_
    refine bY 7 13 _ _ (by decide +kernel) rfl rfl ?_ ?_
    ·refine aK rfl (.appX (d:=11) (news:=kV.map ratL) rfl rfl rfl rfl (by simp) (.inl rfl) (by decide) Tryz.underlying36 Tryz.underlying36 cz bF rfl f3 (.inr (.inl rfl)) (by simp;omega) (by simp;omega) (by decide)) ?_
     refine aj ?_
     refine bY 11 13 _ _ (by decide +kernel) rfl rfl ?_ ?_
     ·refine aK rfl (.appX (d:=15) (news:=kU.map ratL) rfl rfl rfl rfl (by simp) (.inl rfl) (by decide) Tryz.underlying36 Tryz.underlying36 cz bF rfl f3 (.inr (.inl rfl)) (by simp;omega) (by simp;omega) (by decide)) ?_
      refine aj ?_
      refine bY 12 13 _ _ (by decide +kernel) rfl rfl ?_ ?_
      ·refine aL ?_
       refine aj ?_
       refine aq 13 _ (by decide +kernel) rfl ?_
       refine aL ?_
       refine aj ?_
       refine aq 14 _ (by decide +kernel) rfl ?_
       refine aL ?_
       refine aj ?_
       refine bq (by decide +kernel) ?_
       refine aL ?_
       exact⟨_,trivial,((aa (aa (aa (aJ (by first | exact cl | (refine bQ ?_;refine ew ?_ ?_<;>repeat (first | exact trivial | refine And.intro rfl ?_)))) cl) cl) cl)).symm⟩
      ·refine aL ?_
       refine aj ?_
       refine aq 12 _ (by decide +kernel) rfl ?_
       refine aL ?_
       refine aj ?_
       refine aq 14 _ (by decide +kernel) rfl ?_
       refine aL ?_
       refine aj ?_
       refine bq (by decide +kernel) ?_
       refine aL ?_
       exact⟨_,trivial,((aa (aa (aa (aJ (by first | exact cl | (refine bQ ?_;refine ew ?_ ?_<;>repeat (first | exact trivial | refine And.intro rfl ?_)))) cl) cl) cl)).symm⟩
     ·refine aL ?_
      refine aj ?_
      refine aq 11 _ (by decide +kernel) rfl ?_
      refine aK rfl (.appX (d:=15) (news:=kU.map ratL) rfl rfl rfl rfl (by simp) (.inl rfl) (by decide) Tryz.underlying36 Tryz.underlying36 cz bF rfl f3 (.inr (.inl rfl)) (by simp;omega) (by simp;omega) (by decide)) ?_
      refine aj ?_
      refine aq 12 _ (by decide +kernel) rfl ?_
      refine aL ?_
      refine aj ?_
      refine aq 14 _ (by decide +kernel) rfl ?_
      refine aL ?_
      refine aj ?_
      refine bq (by decide +kernel) ?_
      refine aL ?_
      exact⟨_,trivial,((aa (aa (aa (aJ (by first | exact cl | (refine bQ ?_;refine ew ?_ ?_<;>repeat (first | exact trivial | refine And.intro rfl ?_)))) cl) cl) cl)).symm⟩
    ·refine aL ?_
     refine aj ?_
     refine aq 7 _ (by decide +kernel) rfl ?_
     refine aK rfl (.appX (d:=11) (news:=kV.map ratL) rfl rfl rfl rfl (by simp) (.inl rfl) (by decide) Tryz.underlying36 Tryz.underlying36 cz bF rfl f3 (.inr (.inl rfl)) (by simp;omega) (by simp;omega) (by decide)) ?_
     refine aj ?_
     refine aq 11 _ (by decide +kernel) rfl ?_
     refine aK rfl (.appX (d:=15) (news:=kU.map ratL) rfl rfl rfl rfl (by simp) (.inl rfl) (by decide) Tryz.underlying36 Tryz.underlying36 cz bF rfl f3 (.inr (.inl rfl)) (by simp;omega) (by simp;omega) (by decide)) ?_
     refine aj ?_
     refine aq 12 _ (by decide +kernel) rfl ?_
     refine aL ?_
     refine aj ?_
     refine aq 14 _ (by decide +kernel) rfl ?_
     refine aL ?_
     refine aj ?_
     refine bq (by decide +kernel) ?_
     refine aL ?_
     exact⟨_,trivial,((aa (aa (aa (aJ (by first | exact cl | (refine bQ ?_;refine ew ?_ ?_<;>repeat (first | exact trivial | refine And.intro rfl ?_)))) cl) cl) cl)).symm⟩
   ·refine aL ?_
    refine aj ?_
    refine bY 7 8 _ _ (by decide +kernel) rfl rfl ?_ ?_
    ·refine aK rfl (.appX (d:=11) (news:=kV.map ratL) rfl rfl rfl rfl (by simp) (.inl rfl) (by decide) Tryz.underlying36 Tryz.underlying36 cz bF rfl f3 (.inr (.inl rfl)) (by simp;omega) (by simp;omega) (by decide)) ?_
     refine aj ?_
     refine aq 8 _ (by decide +kernel) rfl ?_
     refine aL ?_
     refine aj ?_
     refine aq 11 _ (by decide +kernel) rfl ?_
     refine aK rfl (.appX (d:=15) (news:=kU.map ratL) rfl rfl rfl rfl (by simp) (.inl rfl) (by decide) Tryz.underlying36 Tryz.underlying36 cz bF rfl f3 (.inr (.inl rfl)) (by simp;omega) (by simp;omega) (by decide)) ?_
     refine aj ?_
     refine aq 12 _ (by decide +kernel) rfl ?_
     refine aL ?_
     refine aj ?_
     refine aq 14 _ (by decide +kernel) rfl ?_
     refine aL ?_
     refine aj ?_
     refine bq (by decide +kernel) ?_
     refine aL ?_
     exact⟨_,trivial,((aa (aa (aa (aJ (by first | exact cl | (refine bQ ?_;refine ew ?_ ?_<;>repeat (first | exact trivial | refine And.intro rfl ?_)))) cl) cl) cl)).symm⟩
    ·refine aL ?_
     refine aj ?_
     refine aq 7 _ (by decide +kernel) rfl ?_
     refine aK rfl (.appX (d:=11) (news:=kV.map ratL) rfl rfl rfl rfl (by simp) (.inl rfl) (by decide) Tryz.underlying36 Tryz.underlying36 cz bF rfl f3 (.inr (.inl rfl)) (by simp;omega) (by simp;omega) (by decide)) ?_
     refine aj ?_
     refine aq 11 _ (by decide +kernel) rfl ?_
     refine aK rfl (.appX (d:=15) (news:=kU.map ratL) rfl rfl rfl rfl (by simp) (.inl rfl) (by decide) Tryz.underlying36 Tryz.underlying36 cz bF rfl f3 (.inr (.inl rfl)) (by simp;omega) (by simp;omega) (by decide)) ?_
     refine aj ?_
     refine aq 12 _ (by decide +kernel) rfl ?_
     refine aL ?_
     refine aj ?_
     refine aq 14 _ (by decide +kernel) rfl ?_
     refine aL ?_
     refine aj ?_
     refine bq (by decide +kernel) ?_
     refine aL ?_
     exact⟨_,trivial,((aa (aa (aa (aJ (by first | exact cl | (refine bQ ?_;refine ew ?_ ?_<;>repeat (first | exact trivial | refine And.intro rfl ?_)))) cl) cl) cl)).symm⟩
  ·refine aL ?_
   refine aj ?_
   refine bY 4 13 _ _ (by decide +kernel) rfl rfl ?_ ?_
   ·refine aL ?_
    refine aj ?_
    refine bY 7 13 _ _ (by decide +kernel) rfl rfl ?_ ?_
    ·refine aK rfl (.appX (d:=11) (news:=kV.map ratL) rfl rfl rfl rfl (by simp) (.inl rfl) (by decide) Tryz.underlying36 Tryz.underlying36 cz bF rfl f3 (.inr (.inl rfl)) (by simp;omega) (by simp;omega) (by decide)) ?_
     refine aj ?_
     refine bY 11 13 _ _ (by decide +kernel) rfl rfl ?_ ?_
     ·refine aK rfl (.appX (d:=15) (news:=kU.map ratL) rfl rfl rfl rfl (by simp) (.inl rfl) (by decide) Tryz.underlying36 Tryz.underlying36 cz bF rfl f3 (.inr (.inl rfl)) (by simp;omega) (by simp;omega) (by decide)) ?_
      refine aj ?_
      refine bY 12 13 _ _ (by decide +kernel) rfl rfl ?_ ?_
      ·refine aL ?_
       refine aj ?_
       refine aq 13 _ (by decide +kernel) rfl ?_
       refine aL ?_
       refine aj ?_
       refine aq 14 _ (by decide +kernel) rfl ?_
       refine aL ?_
       refine aj ?_
       refine bq (by decide +kernel) ?_
       refine aL ?_
       exact⟨_,trivial,((aa (aa (aa (aJ (by first | exact cl | (refine bQ ?_;refine ew ?_ ?_<;>repeat (first | exact trivial | refine And.intro rfl ?_)))) cl) cl) cl)).symm⟩
      ·refine aL ?_
       refine aj ?_
       refine aq 12 _ (by decide +kernel) rfl ?_
       refine aL ?_
       refine aj ?_
       refine aq 14 _ (by decide +kernel) rfl ?_
       refine aL ?_
       refine aj ?_
       refine bq (by decide +kernel) ?_
       refine aL ?_
       exact⟨_,trivial,((aa (aa (aa (aJ (by first | exact cl | (refine bQ ?_;refine ew ?_ ?_<;>repeat (first | exact trivial | refine And.intro rfl ?_)))) cl) cl) cl)).symm⟩
     ·refine aL ?_
      refine aj ?_
      refine aq 11 _ (by decide +kernel) rfl ?_
      refine aK rfl (.appX (d:=15) (news:=kU.map ratL) rfl rfl rfl rfl (by simp) (.inl rfl) (by decide) Tryz.underlying36 Tryz.underlying36 cz bF rfl f3 (.inr (.inl rfl)) (by simp;omega) (by simp;omega) (by decide)) ?_
      refine aj ?_
      refine aq 12 _ (by decide +kernel) rfl ?_
      refine aL ?_
      refine aj ?_
      refine aq 14 _ (by decide +kernel) rfl ?_
      refine aL ?_
      refine aj ?_
      refine bq (by decide +kernel) ?_
      refine aL ?_
      exact⟨_,trivial,((aa (aa (aa (aJ (by first | exact cl | (refine bQ ?_;refine ew ?_ ?_<;>repeat (first | exact trivial | refine And.intro rfl ?_)))) cl) cl) cl)).symm⟩
    ·refine aL ?_
     refine aj ?_
     refine aq 7 _ (by decide +kernel) rfl ?_
     refine aK rfl (.appX (d:=11) (news:=kV.map ratL) rfl rfl rfl rfl (by simp) (.inl rfl) (by decide) Tryz.underlying36 Tryz.underlying36 cz bF rfl f3 (.inr (.inl rfl)) (by simp;omega) (by simp;omega) (by decide)) ?_
     refine aj ?_
     refine aq 11 _ (by decide +kernel) rfl ?_
     refine aK rfl (.appX (d:=15) (news:=kU.map ratL) rfl rfl rfl rfl (by simp) (.inl rfl) (by decide) Tryz.underlying36 Tryz.underlying36 cz bF rfl f3 (.inr (.inl rfl)) (by simp;omega) (by simp;omega) (by decide)) ?_
     refine aj ?_
     refine aq 12 _ (by decide +kernel) rfl ?_
     refine aL ?_
     refine aj ?_
     refine aq 14 _ (by decide +kernel) rfl ?_
     refine aL ?_
     refine aj ?_
     refine bq (by decide +kernel) ?_
     refine aL ?_
     exact⟨_,trivial,((aa (aa (aa (aJ (by first | exact cl | (refine bQ ?_;refine ew ?_ ?_<;>repeat (first | exact trivial | refine And.intro rfl ?_)))) cl) cl) cl)).symm⟩
   ·refine aL ?_
    refine aj ?_
    refine aq 4 _ (by decide +kernel) rfl ?_
    refine aL ?_
    refine aj ?_
    refine aq 7 _ (by decide +kernel) rfl ?_
    refine aK rfl (.appX (d:=11) (news:=kV.map ratL) rfl rfl rfl rfl (by simp) (.inl rfl) (by decide) Tryz.underlying36 Tryz.underlying36 cz bF rfl f3 (.inr (.inl rfl)) (by simp;omega) (by simp;omega) (by decide)) ?_
    refine aj ?_
    refine aq 11 _ (by decide +kernel) rfl ?_
    refine aK rfl (.appX (d:=15) (news:=kU.map ratL) rfl rfl rfl rfl (by simp) (.inl rfl) (by decide) Tryz.underlying36 Tryz.underlying36 cz bF rfl f3 (.inr (.inl rfl)) (by simp;omega) (by simp;omega) (by decide)) ?_
    refine aj ?_
    refine aq 12 _ (by decide +kernel) rfl ?_
    refine aL ?_
    refine aj ?_
    refine aq 14 _ (by decide +kernel) rfl ?_
    refine aL ?_
    refine aj ?_
    refine bq (by decide +kernel) ?_
    refine aL ?_
    exact⟨_,trivial,((aa (aa (aa (aJ (by first | exact cl | (refine bQ ?_;refine ew ?_ ?_<;>repeat (first | exact trivial | refine And.intro rfl ?_)))) cl) cl) cl)).symm⟩
  ·refine aL ?_
   refine aj ?_
   refine bY 4 8 _ _ (by decide +kernel) rfl rfl ?_ ?_
   ·refine aL ?_
    refine aj ?_
    refine bY 7 8 _ _ (by decide +kernel) rfl rfl ?_ ?_
    ·refine aK rfl (.appX (d:=11) (news:=kV.map ratL) rfl rfl rfl rfl (by simp) (.inl rfl) (by decide) Tryz.underlying36 Tryz.underlying36 cz bF rfl f3 (.inr (.inl rfl)) (by simp;omega) (by simp;omega) (by decide)) ?_
     refine aj ?_
     refine aq 8 _ (by decide +kernel) rfl ?_
     refine aL ?_
     refine aj ?_
     refine aq 11 _ (by decide +kernel) rfl ?_
     refine aK rfl (.appX (d:=15) (news:=kU.map ratL) rfl rfl rfl rfl (by simp) (.inl rfl) (by decide) Tryz.underlying36 Tryz.underlying36 cz bF rfl f3 (.inr (.inl rfl)) (by simp;omega) (by simp;omega) (by decide)) ?_
     refine aj ?_
     refine aq 12 _ (by decide +kernel) rfl ?_
     refine aL ?_
     refine aj ?_
     refine aq 14 _ (by decide +kernel) rfl ?_
     refine aL ?_
     refine aj ?_
     refine bq (by decide +kernel) ?_
     refine aL ?_
     exact⟨_,trivial,((aa (aa (aa (aJ (by first | exact cl | (refine bQ ?_;refine ew ?_ ?_<;>repeat (first | exact trivial | refine And.intro rfl ?_)))) cl) cl) cl)).symm⟩
    ·refine aL ?_
     refine aj ?_
     refine aq 7 _ (by decide +kernel) rfl ?_
     refine aK rfl (.appX (d:=11) (news:=kV.map ratL) rfl rfl rfl rfl (by simp) (.inl rfl) (by decide) Tryz.underlying36 Tryz.underlying36 cz bF rfl f3 (.inr (.inl rfl)) (by simp;omega) (by simp;omega) (by decide)) ?_
     refine aj ?_
     refine aq 11 _ (by decide +kernel) rfl ?_
     refine aK rfl (.appX (d:=15) (news:=kU.map ratL) rfl rfl rfl rfl (by simp) (.inl rfl) (by decide) Tryz.underlying36 Tryz.underlying36 cz bF rfl f3 (.inr (.inl rfl)) (by simp;omega) (by simp;omega) (by decide)) ?_
     refine aj ?_
     refine aq 12 _ (by decide +kernel) rfl ?_
     refine aL ?_
     refine aj ?_
     refine aq 14 _ (by decide +kernel) rfl ?_
     refine aL ?_
     refine aj ?_
     refine bq (by decide +kernel) ?_
     refine aL ?_
     exact⟨_,trivial,((aa (aa (aa (aJ (by first | exact cl | (refine bQ ?_;refine ew ?_ ?_<;>repeat (first | exact trivial | refine And.intro rfl ?_)))) cl) cl) cl)).symm⟩
   ·refine aL ?_
    refine aj ?_
    refine aq 4 _ (by decide +kernel) rfl ?_
    refine aL ?_
    refine aj ?_
    refine aq 7 _ (by decide +kernel) rfl ?_
    refine aK rfl (.appX (d:=11) (news:=kV.map ratL) rfl rfl rfl rfl (by simp) (.inl rfl) (by decide) Tryz.underlying36 Tryz.underlying36 cz bF rfl f3 (.inr (.inl rfl)) (by simp;omega) (by simp;omega) (by decide)) ?_
    refine aj ?_
    refine aq 11 _ (by decide +kernel) rfl ?_
    refine aK rfl (.appX (d:=15) (news:=kU.map ratL) rfl rfl rfl rfl (by simp) (.inl rfl) (by decide) Tryz.underlying36 Tryz.underlying36 cz bF rfl f3 (.inr (.inl rfl)) (by simp;omega) (by simp;omega) (by decide)) ?_
    refine aj ?_
    refine aq 12 _ (by decide +kernel) rfl ?_
    refine aL ?_
    refine aj ?_
    refine aq 14 _ (by decide +kernel) rfl ?_
    refine aL ?_
    refine aj ?_
    refine bq (by decide +kernel) ?_
    refine aL ?_
    exact⟨_,trivial,((aa (aa (aa (aJ (by first | exact cl | (refine bQ ?_;refine ew ?_ ?_<;>repeat (first | exact trivial | refine And.intro rfl ?_)))) cl) cl) cl)).symm⟩
 ·rintro _ ⟨LR1,-,rfl⟩
  refine cx ?_
  refine cN ((aP.cell 3 rfl (fun Z μ w cs h=>qk 100 1 _ _ _ _ Z μ w cs h)).trans (aP.newB _ 100 1 rfl)) ?_
  refine gE (fun(j:Nat) L=>(((((St.mk L.slot (hp [(2,⟨5,[.agg [.v (.int .i64 0),.v (.int .i64 0),.v (.slice none 0 0),.v (.slice none 0 0),.v (.slice none 0 0)]],true⟩),(3,⟨5,[.agg [ai V,ai U,.ref 11 3 0 kV.length,.ref 15 3 0 kU.length,.ref 100 1 0 j]],true⟩),(11,⟨3,kV.map ratL,true⟩),(15,⟨3,kU.map ratL,true⟩),(100,⟨1,((rd V rows).take j).map bu,true⟩)])).put (some 1) (.boxp (.agg [ai U,ai V,.list 3 (kU.map ratL),.list 3 (kV.map ratL),.list 1 (rows.map bu)]))).put (some 2) (.eptr 2 5 0 0)).put (some 3) (.eptr 3 5 0 0)).put (some 4) (ai j))) (fun j=>j≤V+1) (fun j=>V+1-j) 0 (Nat.zero_le _) ?_
  rintro j L1 hj
  refine bE ?_
  refine an rfl (fun h26r h26=>?_) (fun h26r h26=>?_)
  ·have hj2:j<V+1:=by omega
   have eto:(((rd V rows).take j).map bu).take j=((rd V rows).take j).map bu:=List.take_of_length_le (by simp;omega)
   have esw:((rd V rows).take j).map bu++[LV.list 12 ((rows.map fun r=>r.getD j default).map dX)]=((rd V rows).take (j+1)).map bu:=by
    show ((rd V rows).take j).map bu++[bu (rows.map fun r=>r.getD j default)]=_
    rw [bo,zt rows hj2]
   refine ie ?_
   refine cN (aP.own (t:=5) 95 12 rfl rfl) ?_
   refine gE (fun(i:Nat) L=>(((((((St.mk L.slot (hp [(2,⟨5,[.agg [.v (.int .i64 0),.v (.int .i64 0),.v (.slice none 0 0),.v (.slice none 0 0),.v (.slice none 0 0)]],true⟩),(3,⟨5,[.agg [ai V,ai U,.ref 11 3 0 kV.length,.ref 15 3 0 kU.length,.ref 100 1 0 j]],true⟩),(11,⟨3,kV.map ratL,true⟩),(15,⟨3,kU.map ratL,true⟩),(100,⟨1,((rd V rows).take j).map bu,true⟩),(95,⟨12,((rows.map fun r=>r.getD j default).take i).map dX,true⟩)])).put (some 1) (.boxp (.agg [ai U,ai V,.list 3 (kU.map ratL),.list 3 (kV.map ratL),.list 1 (rows.map bu)]))).put (some 2) (.eptr 2 5 0 0)).put (some 3) (.eptr 3 5 0 0)).put (some 4) (ai j)).put (some 5) (.ref 95 12 0 i)).put (some 6) (ai i))) (fun i=>i≤U+1) (fun i=>U+1-i) 0 (Nat.zero_le _) ?_
   rintro i L2 hi
   refine bv ?_
   refine an rfl (fun h33r h33=>?_) (fun h33r h33=>?_)
   ·have hi2:i<U+1:=by omega
    have hri:=h.r0 (Nat.le_of_lt_succ hi2)
    have etk:(((rows.map fun r=>r.getD j default).take i).map dX).take i=((rows.map fun r=>r.getD j default).take i).map dX:=List.take_of_length_le (by simp;omega)
    have egr:=Ho (fun r:List PoR=>r.getD j default) rows [] (i:=i) (by omega)
    refine en ?_
    refine aK rfl (.appX (d:=95) (news:=[dX ((rows.getD i []).getD j default)]) rfl rfl rfl rfl (by simp;omega) (.inl rfl) (by decide) Tryz.underlying60 Tryz.underlying60 ta me cs wS (.inl ⟨45,0,_,rfl,by decide,rfl,rfl,by simp,rfl,by simp [aD,cA.pure]⟩) (by simp;omega) (by simp;omega) (by decide)) ?_
    refine bw ?_
    refine aY (aP.kill _ 45) ?_
    refine aL ?_
    refine ab rfl (.bin rfl rfl (a9 (by omega))) ?_
    refine bx ?_
    exact fA (i+1) (by omega)
   ·obtain rfl:i=U+1:=by omega
    rw [(List.take_of_length_le (by rw [List.length_map];omega):(rows.map fun r=>r.getD j default).take (U+1)=(rows.map fun r=>r.getD j default))]
    refine ca ?_
    refine aY (aP.hand (t:=5) (b:=95) cA rfl rfl (by simp;omega)) ?_
    refine bw ?_
    refine aK rfl (.appX (d:=100) (news:=[bu (rows.map fun r=>r.getD j default)]) rfl rfl rfl rfl (by simp only [ae dW,List.length_map,List.length_take,List.length_cons,List.length_nil];omega) (.inl rfl) (by decide) Tryz.underlying37 Tryz.underlying37 En rf cs Gd (.inl ⟨50,0,_,rfl,by decide,rfl,rfl,by simp,rfl,by simp [aD,dW.pure]⟩) (by simp only [ae dW,List.length_map,List.length_take,List.length_cons,List.length_nil];omega) (by simp only [ae dW,List.length_map,List.length_take,List.length_cons,List.length_nil];omega) (by decide)) ?_
    refine ca ?_
    refine aY (aP.kill _ 50) ?_
    refine aL ?_
    refine ab rfl (.bin rfl rfl (a9 (by omega))) ?_
    refine bx ?_
    exact fA (j+1) (by omega)
  ·obtain rfl:j=V+1:=by omega
   rw [List.take_of_length_le (by omega:(rd V rows).length≤V+1)]
   refine bE ?_
   exact b9 [11,15,100] rfl rfl rfl cs (bX cs rfl) Ew (.agg (.cons (.pure rfl) (.cons (.pure rfl) (.cons (bg ah rfl rfl rfl) (.cons (bg ah rfl rfl rfl) (.cons (bg dW rfl rfl (qh V rows).symm) .nil))))))
theorem cvR.wp {po:List PoR} {d R:Nat} (h:cvR po d R) {x:Rat} (h0:0≤x) (h1:x≤1):0<uI (dL po) x:=by
 have hl:=f5 po
 have hp:0<(dL po).length:=by rw [hl,h.hl];omega
 have hb:=D4 (p:=dL po) h0 h1 hp
 unfold mg at hb
 simp only [Bool.and_eq_true,decide_eq_true_eq] at hb
 refine sN ?_ hb.1
 obtain⟨i,hi,e⟩:=((pS (dL po) (dL po).length).2 hp).1
 show 0<(Aa (dL po) (dL po).length).1
 rw [e]
 obtain⟨q,hq,hw⟩:=List.mem_map.1 (bi (p:=dL po) hi)
 rw [←hw]
 exact(h.ok q hq).2.2
section
variable {R U V:Nat} {rows:List (List PoR)} (h:pf R U V rows)
include h
theorem pf.cv {i:Nat} (hi:i≤U):cvR (rows.getD i []) V R where
 hl:=h.r0 hi
 hd:=h.v1
 h6:=by have:=h.v3;omega
 ok:=fun q hq=>h.ok _ (cm (by rw [h.n];omega)) q hq
end
section
variable {R U V:Nat} {rows:List (List PoR)} (h:pf R U V rows) {x:Rat} (x0:0≤x) (x1:x≤1)
include h x0 x1
end
end Go.Proofs.YtfpdccbgngdhkaaGreat
end
section
set_option linter.unusedVariables false
set_option linter.unusedSimpArgs false
namespace Go.Lg
section
variable {P:Program} {ops:Array Oper}
inductive StepV (P:Program) (ops:Array Oper) (o:Oper) (L L':St):Prop
 | base (h:Step P false ops o L L')
 | hand {M:St} {t b sz len:Nat} {vals:List LV} {m:Bool} (h:Step P false ops o L M) (ht:M.slot t=.ref b sz 0 len) (hb:M.heap b=some ⟨sz,vals,m⟩) (hp:aD vals=true) (hl:len=vals.length) (h0:b≠0)
   (e:L'=(M.put (some t) (.list sz vals)).kill b)
section
variable {D:Array Bool} {L:St} {K:St→Prop} {fuel:Nat}
end
section
variable {W w:World} {X Z0:Nat→Prop} {a:Act} {n:Nat}
end
end
end Go.Lg
end
section
set_option linter.unusedVariables false
set_option linter.unusedSimpArgs false
set_option maxHeartbeats 8000000
set_option maxRecDepth 100000
attribute [local irreducible] Go.Lg.opsL Go.Lg.wpL Go.Lg.thenL Go.Lg.blockL
namespace Go.Proofs.YtfpdccbgngdhkaaGreat
open Go.Lg
structure M3 where
 a:V3
 b:V3
 c:V3
 t:V3
 deriving Inhabited
def Fo (m:M3):LV:=.agg [.agg [cQ m.a,cQ m.b,cQ m.c],cQ m.t]
theorem Iu:EncOK Fo 36 true:=⟨fun m=>by simp [Fo,LV.csize,ay,cT.csize],fun _=>rfl,fun m=>by simp [Fo,LV.pure,aD,cT.pure]⟩
instance:EC Tryz.prog 34 Fo 36 true ⟨⟨0,0,0⟩,⟨0,0,0⟩,⟨0,0,0⟩,⟨0,0,0⟩⟩:=⟨Iu,F4,Iv⟩
section
variable {P:Program} {H:bI} {ρ:Operand→LV} {T E:TypeId}
end
instance:ZI Tryz.prog 32 (.agg [cQ ⟨0,0,0⟩,cQ ⟨0,0,0⟩,cQ ⟨0,0,0⟩]):=⟨Iz⟩
instance:ZI Tryz.prog 34 (.agg [.agg [cQ ⟨0,0,0⟩,cQ ⟨0,0,0⟩,cQ ⟨0,0,0⟩],cQ ⟨0,0,0⟩]):=⟨F4⟩
instance:AE Tryz.prog 34 Fo 36 true ⟨⟨0,0,0⟩,⟨0,0,0⟩,⟨0,0,0⟩,⟨0,0,0⟩⟩:=⟨Iu,F4⟩
end Go.Proofs.YtfpdccbgngdhkaaGreat
end
section
set_option linter.unusedVariables false
set_option linter.unusedSimpArgs false
namespace Go.Lg
section
variable {P:Program} {W w w':World} {X Z0 Z Zr:Nat→Prop} {μ μr:Nat→Option Nat} {H:bI} {a:Act} {L L':St} {n:Nat} {ops:Array Oper}
def jW (P:Program) (ops:Array Oper) (o:Oper) (L L':St):Prop :=
 ∀ (n:Nat) (W:World) (X Z0:Nat→Prop) (a:Act) (w:World) (K:Act→World→Prop) (Q:Exit→Act→World→Prop),gR n W X Z0 L a w→(∀ t,o.dst=some t→t<n) →
  (∀ a' w',gR n W X Z0 L' a' w'→K a' w')→if Region.wanted o (yielded ops a.tmps) then o.wp P a w K Q else K (a.put o.dst undef) w
def oN (P:Program) (ops:Array Oper):List Oper→St→(St→Prop)→Prop
 | [],L,K=>K L
 | o :: r,L,K=>∃ L',jW P ops o L L'∧oN P ops r L' K
theorem o8 {K K':St→Prop} (h:∀ L,K L→K' L):∀ (l:List Oper) (L:St),oN P ops l L K→oN P ops l L K'
 | [],L,k=>h L k
 | o :: r,L,⟨L',h1,h2⟩=>⟨L',h1,o8 h r L' h2⟩
theorem rF {K:St→Prop}:∀ (l m:List Oper) (L:St),oN P ops l L (fun L'=>oN P ops m L' K)→oN P ops (l++m) L K
 | [],m,L,h=>h
 | o :: r,m,L,⟨L',h1,h2⟩=>⟨L',h1,rF r m L' h2⟩
theorem pZ {dr:Bool} {K:St→Prop}:∀ (l:List Oper) (L:St),opsL P dr ops l L K→oN P ops l L K
 | [],L,h=>by unfold opsL at h;exact h
 | o :: r,L,h=>by
   unfold opsL at h
   obtain⟨L',h1,h2⟩:=h
   exact⟨L',fun n W X Z0 a w K' Q hs hd hK=>fu hs h1 hd hK,pZ r L' h2⟩
theorem mZ {Q:Exit→Act→World→Prop} {K:St→Prop}:∀ (l:List Oper) (L:St) (a:Act) (w:World),gR n W X Z0 L a w→oN P ops l L K→(∀ o∈l,∀ t,o.dst=some t→t<n) →
  (∀ L' a' w',K L'→gR n W X Z0 L' a' w'→Q .normal a' w')→wpList P ops Q l a w
 | [],L,a,w,hs,hk,_,hq=>hq L a w hk hs
 | o :: r,L,a,w,hs,⟨L',h1,h2⟩,hd,hq=>by
   have:=h1 n W X Z0 a w (wpList P ops Q r) Q hs (hd o (by simp)) (fun a' w' hs'=>mZ r L' a' w' hs' h2 (fun o' ho'=>hd o' (by simp [ho'])) hq)
   unfold wpList
   split
   ·rename_i h;rw [if_pos h] at this;exact .inl this
   ·rename_i h;rw [if_neg h] at this;exact this
variable {Q:LEx→St→Prop}
def DT (P:Program) (l:List Oper) (k:Nat) (K:St→Prop) (L:St):Prop:=∃ o L2,l[k]?=some o∧jW P l.toArray o L L2∧opsL P false l.toArray (l.drop (k+1)) L2 K
theorem qO {l:List Oper} {id:Nat} (k:Nat) (h:opsL P false l.toArray (l.take k) L (DT P l k (Q .normal))):wpL P (.region id l.toArray false) Q L:=by
 refine qu fun n W X Z0 a w hs hd id=>?_
 have hd':∀ o'∈l,∀ t,o'.dst=some t→t<n:=fun o' ho t ht=>by
  simp only [da,List.all_eq_true] at hd
  have:=hd o' (by simpa using ho)
  rw [ht] at this
  simpa using this
 have hx:oN P l.toArray l L (Q .normal):=by
  have h1:oN P l.toArray (l.take k++l.drop k) L (Q .normal) :=
   rF (l.take k) _ L (o8 (fun L1 ⟨o,L2,h0,h1,h2⟩=>by
    obtain⟨hk,e⟩:=List.getElem?_eq_some_iff.1 h0
    rw [List.drop_eq_getElem_cons hk,e]
    exact⟨L2,h1,pZ _ _ h2⟩) _ _ (pZ _ _ h))
  rwa [List.take_append_drop] at h1
 exact wp_region_list (mZ _ _ _ _ hs hx hd' (fun L' a' w' hk hs'=>⟨L',hk,hs'⟩))
theorem zi {l:List Oper} {id:Nat} {L0:St} (k:Nat) (hw:aP L L0) (h:opsL P false l.toArray (l.take k) L0 (DT P l k (Q .normal))):wpL P (.region id l.toArray false) Q L:=by
 have:=qO (id:=id) (Q:=Q) k h
 obtain⟨L1,h1,h2⟩:=this
 exact⟨L1,hw.trans h1,h2⟩
theorem pO {l:List Oper} {k:Nat} {K:St→Prop} {ops:Array Oper} {o:Oper} {L2:St} (h1:l[k]?=some o) (h2:jW P l.toArray o L L2) (h3:opsL P false l.toArray (l.drop (k+1)) L2 K):opsL P false ops [] L (DT P l k K):=by
 unfold opsL
 exact⟨o,L2,h1,h2,h3⟩
theorem ug {T U E E' ty:TypeId} {d b sz len:Nat} {blk:Blk} {x y:Operand} {news:List LV} {z:LV} {by_:Nat} (hc:Core W X Z0 μ Z L.heap w) (hr:∀ t,be Z μ w (L.slot t) (a.tmps.getD t undef))
  (hx:L.ev x=.ref b sz 0 len) (hb:L.heap b=some blk) (hs:blk.sz=sz) (hm:blk.mt=true) (hlen:len≤blk.vals.length) (hbd:d=b∨L.heap d=none) (hb0:b≠0)
  (hT:P.underlying T=some (.slice E)) (hU:P.underlying U=some (.slice E')) (hz:aT P E z) (hE:bj P E sz z.isAgg) (hzs:z.csize=sz) (hby:a7 P E by_)
  {newc:List Value} (hsrc:Src P sz U (a.eval y) news.length newc w) (hnews:av Z μ w sz news newc)
  (hsz:(len+news.length)*by_≤140737488355328) (h63:len+news.length≤4611686018427387904) :
  ∃ v w' μ' Z',(Builtin.append_ #[T,U] ty #[a.eval x,a.eval y]).run P w=.ok v w' ∧
   Core W X Z0 μ' Z' ((L.kill b).setB d (some ⟨sz,aH b (blk.vals.take len++news),true⟩)).heap w' ∧
   (∀ t,be Z' μ' w' ((L.kill b).slot t) (a.tmps.getD t undef))∧be Z' μ' w' (.ref d sz 0 (len+news.length)) v:=by
 have e1:=dV (L:=L) hr x
 rw [hx] at e1
 have e2:=e1.2 rfl
 simp only [bt] at e2
 have hkd:(L.kill b).heap d=none:=by
  rcases hbd with rfl | h
  ·simp [St.kill]
  ·simp only [St.kill];split
   ·rfl
   ·rw [h];rfl
 rcases e2 with⟨q1,rfl⟩ | ⟨id,cap,c,U',fz,q1,q2,q3,q4,q5⟩
 ·simp only [List.cons.injEq,and_true] at q1
  have hk:=hc.kill b hb0
  have hkr:=ix b hr
  have hkl:(aH b news).length=news.length:=er b news
  cases hnw:news with
  | nil =>
   subst hnw
   obtain⟨i,zv,z1,z2,z3,z4⟩:=hz
   have hsi:i.size=sz:=by have:=hE.1;rw [z1] at this;simpa using this
   have hcells:newc=[]:=by simpa [av] using hnews
   subst hcells
   have hrun:=run_append_nothing (P:=P) w T U ty E i hT z1 none 0 0 (Nat.le_refl _) (a.eval y) (hsi ▸ hsrc)
   refine⟨_,w,ec μ b,Z,by rw [q1];exact hrun,?_,hkr,⟨by simp [LV.isAgg],fun _=>by simp [bt]⟩⟩
   exact hk.reheap fun c id hcd=>by
    have:c≠d:=by rintro rfl;rw [eH hk hkd] at hcd;cases hcd
    simp [St.setB,this]
  | cons x0 xs0 =>
   rw [←hnw]
   have hpos:0<news.length:=by rw [hnw];simp
   obtain⟨v,w',μ',Z',r1,r2,r3,r4,r5,r6⟩:=gz (P:=P) (ty:=ty) (U:=U) (olds:=[]) (news:=aH b news) (oldc:=[]) (sLen:=0) (sCap:=0) hk hkd hT hz hE hzs hby q1 (by simp [Builtin.firstCells]) (by rw [hkl];exact hsrc)
    (by simp [av]) rfl (av.kill' _ _ hnews) (by rw [hkl];omega) (by rw [hkl];exact hsz) (by rw [hkl];exact h63)
   rw [List.nil_append] at r2
   rw [hkl] at r6
   exact⟨v,w',μ',Z',r1,by simpa [St.setB] using r2,fun t=>(hkr t).mono r3 r4 r5,r6⟩
 simp only [List.cons.injEq,and_true,Nat.zero_mul] at q1
 obtain⟨bk,g1,c',T',part,rest,g2,g3,g4⟩:=hc.heap b id q2
 rw [hb] at g1;cases g1
 rw [q4] at g2;cases g2
 simp only [Nat.zero_add] at q5
 obtain⟨p1,p2,d1,d2,d3⟩:=av.split (blk.vals.take len) (blk.vals.drop len) part (by rw [List.take_append_drop];exact g4)
 rw [hs] at d2
 have hp1:=av.length _ _ d2
 rw [List.length_take,Nat.min_eq_left hlen] at hp1
 have hk:=hc.kill b hb0
 have hkr:=ix b hr
 have hno:∀ k,ec μ b k≠some id:=fun k h=>by
  unfold ec at h;split at h
  ·cases h
  ·rename_i hne;exact hne (hc.inj k b id h q2)
 have hlo:W.heap.size≤id:=by
  rcases hc.own b id q2 with h | h
  ·exact h
  ·exact absurd (hc.x0 b id q2 h) hb0
 have hnz:=hc.mutz b id blk q2 hb hm
 have hnl:=av.length _ _ hnews
 by_cases hroom:len+news.length≤cap
 ·have hfit:len*sz+newc.length≤c.size:=by
   rw [hnl,←Nat.add_mul]
   exact Nat.le_trans (Nat.mul_le_mul_right _ hroom) q5
  have hc1:∀ j,j<newc.length→(w.cell? ⟨id,0+len*sz+j,none⟩).isSome=true:=fun j hj=>by
   rw [cell_of_row w id _ c _ _ q4,Array.getElem?_eq_getElem (by omega)];rfl
  have hc2:∀ j,j<newc.length→w.frozen? ⟨id,0+len*sz+j,none⟩=false:=fun j hj=>by simp [World.frozen?,q4]
  obtain⟨i,zv,z1,z2,z3,z4⟩:=hz
  have hsi:i.size=sz:=by have:=hE.1;rw [z1] at this;simpa using this
  have hrun:=run_append_room_src (P:=P) w T U ty E i hT z1 id 0 len cap (a.eval y) news.length newc (by rw [hsi];exact hsrc) hroom (by rw [hsi];exact hc1) (by rw [hsi];exact hc2)
  rw [hsi,Nat.zero_add,gj q4 hfit hsrc.one] at hrun
  have hold:=(av.kill' (b:=b) _ _ d2)
  have hnew:=(av.kill' (b:=b) _ _ hnews)
  have hall:=av.append _ _ _ _ hold hnew
  rw [←et] at hall
  have hsplit:c.toList.take (len*sz)++newc++c.toList.drop (len*sz+newc.length)=(p1++newc)++c.toList.drop (len*sz+newc.length):=by
   rw [g3,d1,←hp1];simp
  rw [hsplit] at hrun
  obtain⟨k1,k2,k3,k4⟩:=hk.attach (d:=d) (id:=id) (blk:=⟨sz,aH b (blk.vals.take len++news),true⟩) (c':=((p1++newc)++c.toList.drop (len*sz+newc.length)).toArray)
   (part:=p1++newc) (rest:=c.toList.drop (len*sz+newc.length)) (eH hk hkd) rfl hno hnz hlo q4 (by simp) hall rfl
  refine⟨_,_,_,Z,by rw [q1];exact hrun,k1,fun t=>(hkr t).mono (fun _ h=>h) k3 k2,⟨by simp [LV.isAgg],fun _=>?_⟩⟩
  simp only [bt]
  refine .inr ⟨id,cap,_,U',(0,0),by simp,by simp [rc],hroom,k4,?_⟩
  rw [Nat.zero_add]
  simp only [List.size_toArray,List.length_append,hp1,List.length_drop,Array.length_toList]
  omega
 ·have hold:(Builtin.firstCells sz len (.slice (some ⟨id,0,none⟩) len cap)).run P w.drew=.ok p1.toArray w.drew:=by
   refine run_firstCells_some w.drew sz len ⟨id,0,none⟩ len cap p1 hp1 (fun j v hj=>?_)
   rw [Addr.add_mid]
   have hrange:=jF (w:=w) (off:=0) (part:=p1) (rest:=p2++rest) q4 (by rw [List.drop_zero,g3,d1];simp)
   exact hrange j v hj
  have hkl:(aH b news).length=news.length:=er b news
  obtain⟨v,w',μ',Z',r1,r2,r3,r4,r5,r6⟩:=gz (P:=P) (ty:=ty) (U:=U) (olds:=aH b (blk.vals.take len)) (news:=aH b news) hk hkd hT hz hE hzs hby q1 hold (by rw [hkl];exact hsrc)
   (av.kill' _ _ d2) (by rw [er,List.length_take];omega) (av.kill' _ _ hnews) (by rw [hkl];omega) (by rw [hkl];exact hsz) (by rw [hkl];exact h63)
  rw [←et] at r2
  rw [hkl] at r6
  exact⟨v,w',μ',Z',r1,r2,fun t=>(hkr t).mono r3 r4 r5,r6⟩
theorem Bf {T U E E':TypeId} {d b sz len:Nat} {blk:Blk} {x y:Operand} {news:List LV} {z:LV} {by_:Nat} {dst:Option Tmp} {ty:TypeId} {pos:String} {af:Array Edge} {g:Option (Nat × Bool)}
  (hg:bc ops L ⟨dst,.call ⟨.builtin .append,#[x,y],#[T,U]⟩,ty,pos,af,g⟩ true)
  (hx:L.ev x=.ref b sz 0 len) (hb:L.heap b=some blk) (hs:blk.sz=sz) (hm:blk.mt=true) (hlen:len≤blk.vals.length) (hbd:d=b∨L.heap d=none) (hb0:b≠0)
  (hT:P.underlying T=some (.slice E)) (hU:P.underlying U=some (.slice E')) (hz:aT P E z) (hE:bj P E sz z.isAgg) (hzs:z.csize=sz) (hby:a7 P E by_)
  (hy:∃ c off blk2,L.ev y=.ref c sz off news.length∧c≠b∧L.heap c=some blk2∧blk2.sz=sz∧off+news.length≤blk2.vals.length∧news=(blk2.vals.drop off).take news.length)
  (hsz:(len+news.length)*by_≤140737488355328) (h63:len+news.length≤4611686018427387904) :
  jW P ops ⟨dst,.call ⟨.builtin .append,#[x,y],#[T,U]⟩,ty,pos,af,g⟩ L (((L.kill b).setB d (some ⟨sz,aH b (blk.vals.take len++news),true⟩)).put dst (.ref d sz 0 (len+news.length))):=by
 intro n W X Z0 a w K Q ⟨hdf,hsz',μ,Z,hc,hr⟩ hd hK
 rw [dy hr hg]
 simp only [if_true]
 have hd':∀ t,dst=some t→t<a.tmps.size:=fun t h=>by rw [hsz'];exact hd t h
 obtain⟨newc,hsrc,hnews⟩:=ui (P:=P) hc hr hU (y:=y) (news:=news) (sz:=sz) (by
  obtain⟨c,off,b2,q1,_,q3,q4,q5,q6⟩:=hy
  exact .inl ⟨c,off,b2,q1,q3,q4,q5,q6⟩)
 have key:∃ v w' μ' Z',(Builtin.append_ #[T,U] ty #[a.eval x,a.eval y]).run P w=.ok v w' ∧
   Core W X Z0 μ' Z' ((L.kill b).setB d (some ⟨sz,aH b (blk.vals.take len++news),true⟩)).heap w' ∧
   (∀ t,be Z' μ' w' ((L.kill b).slot t) (a.tmps.getD t undef))∧be Z' μ' w' (.ref d sz 0 (len+news.length)) v:=by
  exact ug hc hr hx hb hs hm hlen hbd hb0 hT hU hz hE hzs hby hsrc hnews hsz h63
 obtain⟨v,w',μ',Z',r1,r2,r3,r4⟩:=key
 have hrun:(execOp a.eval ⟨dst,.call ⟨.builtin .append,#[x,y],#[T,U]⟩,ty,pos,af,g⟩).run P w=.ok (.value v) w':=by
  simp only [execOp,resolve,Sem.run_bind,Sem.run_pure,Result.andThen_ok,invoke,builtin]
  simp only [List.map_toArray,List.map_cons,List.map_nil,r1,Result.andThen_ok]
 unfold Oper.wp
 rw [hrun,Oper.upon_value]
 refine hK _ _ ⟨by rw [cX];exact hdf,by rw [dS];exact hsz',μ',Z',by rw [cw];exact r2,?_⟩
 exact eG hd' r3 r4
end
end Go.Lg
namespace Go.Lg
section
variable {P:Program} {W w w':World} {X X0 Z0 Z Zr:Nat→Prop} {μ μr:Nat→Option Nat} {H H' Hr:bI} {a:Act} {L L':St} {n d:Nat} {ops:Array Oper} {σ:Nat→Nat}
def eU (μ μr:Nat→Option Nat) (d:Nat):Nat→Option Nat:=fun c=>if 1000000+d*16<c∧c<1000000+d*16+16 then(μr (c-(1000000+d*16))).or (μ c) else μ c
theorem Core.callN (hc:Core W X Z0 μ Z H w) (hr:Core w X0 Z μr Zr Hr w') (hσ:∀ k id,μr k=some id→k≠0→k<16∧σ k=aV d k∧μ (aV d k)=none)
  (hb:∀ id,X0 id→μ (σ 0)=some id∧¬ Z id) (h0:∀ id,μr 0=some id→X0 id) (hH:∀ k id blk,μr k=some id→Hr k=some blk→H' (σ k)=some ⟨blk.sz,cB σ blk.vals,blk.mt⟩)
  (hold:∀ c id,μ c=some id→¬ X0 id→H' c=H c) :
  Core W X Z0 (eU μ μr d) Zr H' w'∧(∀ c id,μ c=some id→eU μ μr d c=some id)∧Frame Z μ w w'∧(∀ k id,μr k=some id→eU μ μr d (σ k)=some id):=by
 have hold':∀ c id,μ c=some id→eU μ μr d c=some id:=fun c id h=>by
  unfold eU
  split
  ·rename_i hb'
   cases hq:μr (c-(1000000+d*16)) with
   | none=>simpa using h
   | some id' =>
    have:=(hσ _ _ hq (by omega)).2.2
    have e:aV d (c-(1000000+d*16))=c:=by unfold aV;omega
    rw [e,h] at this;cases this
  ·exact h
 have hnew1:∀ k id,μr k=some id→k≠0→eU μ μr d (aV d k)=some id:=fun k id h hk=>by
  have:=(hσ _ _ h hk).1
  unfold eU aV
  rw [if_pos (by omega)]
  have e:1000000+d*16+k-(1000000+d*16)=k:=by omega
  rw [e,h];rfl
 have hnew:∀ k id,μr k=some id→eU μ μr d (σ k)=some id:=fun k id h=>by
  by_cases hk:k=0
  ·subst hk;exact hold' _ _ (hb id (h0 id h)).1
  ·rw [(hσ _ _ h hk).2.1];exact hnew1 k id h hk
 have hinv:∀ c id,eU μ μr d c=some id→(∃ k,k≠0∧c=aV d k∧μr k=some id)∨μ c=some id:=fun c id h=>by
  unfold eU at h
  split at h
  ·rename_i hb'
   cases hq:μr (c-(1000000+d*16)) with
   | none=>rw [hq] at h;exact .inr (by simpa using h)
   | some id' =>
    rw [hq] at h
    simp only [Option.some_or,Option.some.injEq] at h
    subst h
    exact .inl ⟨c-(1000000+d*16),by omega,by unfold aV;omega,hq⟩
  ·exact .inr h
 have hlo:∀ k id,μr k=some id→k≠0→w.heap.size≤id:=fun k id h hk=>(hr.own k id h).resolve_right (fun hx=>hk (hr.x0 k id h hx))
 have hkeep:∀ k,k<w.heap.size→¬ X0 k→w'.heap[k]?=w.heap[k]?:=fun k hk hx=>hr.keep.block k hk hx
 have hfr:Frame Z μ w w':=by
  refine⟨fun id h=>hkeep id (hc.zone id h) (fun e=>(hb id e).2 h),fun c id h cc T fz hcc=>?_⟩
  by_cases e:X0 id
  ·exact hr.keep.xsz id e cc T fz hcc
  ·exact⟨cc,(hkeep id (hc.lt h) e).trans hcc,rfl⟩
 have hX:∀ k,k<W.heap.size→¬ X k→¬ X0 k:=fun k hk hx e=>by
  rcases hc.own (σ 0) k (hb k e).1 with h | h
  ·omega
  ·exact hx h
 refine⟨⟨?_,hr.zone,fun id h=>hr.zsup id (hc.zsup id h),?_,?_,?_,?_,hc.xlt,fun id h=>hold' 0 id (hc.x1 id h),?_,?_,?_⟩,hold',hfr,hnew⟩
 ·refine⟨hr.keep.os.trans hc.keep.os,hr.keep.tape.trans hc.keep.tape,hr.keep.output.trans hc.keep.output,Nat.le_trans hc.keep.size hr.keep.size,fun k hk hx=>?_,fun k hx c T fz h=>?_⟩
  ·exact(hkeep k (by have:=hc.keep.size;omega) (hX k hk hx)).trans (hc.keep.block k hk hx)
  ·obtain⟨c',g1,g2⟩:=hc.keep.xsz k hx c T fz h
   by_cases e:X0 k
   ·obtain⟨c2,g3,g4⟩:=hr.keep.xsz k e c' T fz g1
    exact⟨c2,g3,g4.trans g2⟩
   ·exact⟨c',(hkeep k (Array.getElem?_eq_some_iff.1 g1).1 e).trans g1,g2⟩
 ·intro id h
  rcases hr.zsub id h with h | h
  ·exact hc.zsub id h
  ·exact .inr (Nat.le_trans hc.keep.size h)
 ·intro c c' id h h'
  rcases hinv c id h with⟨k,k0,rfl,h1⟩ | h1<;>rcases hinv c' id h' with⟨k',k0',rfl,h2⟩ | h2
  ·rw [hr.inj k k' id h1 h2]
  ·have:=hlo k id h1 k0;have:=hc.lt h2;omega
  ·have:=hlo k' id h2 k0';have:=hc.lt h1;omega
  ·exact hc.inj c c' id h1 h2
 ·intro c id h
  rcases hinv c id h with⟨k,k0,rfl,h1⟩ | h1
  ·exact .inl (Nat.le_trans hc.keep.size (hlo k id h1 k0))
  ·exact hc.own c id h1
 ·intro c id h hx
  rcases hinv c id h with⟨k,k0,rfl,h1⟩ | h1
  ·have:=hlo k id h1 k0;have:=hc.xlt id hx;have:=hc.keep.size;omega
  ·exact hc.x0 c id h1 hx
 all_goals
  have hcase:∀ c id,eU μ μr d c=some id→(∃ k blk,c=σ k∧μr k=some id∧Hr k=some blk∧fH Zr μr w' blk id)∨(¬ X0 id∧μ c=some id):=fun c id h=>by
   rcases hinv c id h with⟨k,k0,rfl,h1⟩ | h1
   ·obtain⟨blk,g1,g2⟩:=hr.heap k id h1
    exact .inl ⟨k,blk,(hσ k id h1 k0).2.1.symm,h1,g1,g2⟩
   ·by_cases e:X0 id
    ·have hc0:=hc.inj c (σ 0) id h1 (hb id e).1
     have h2:=hr.x1 id e
     obtain⟨blk,g1,g2⟩:=hr.heap 0 id h2
     exact .inl ⟨0,blk,hc0,h2,g1,g2⟩
    ·exact .inr ⟨e,h1⟩
 ·intro c id blk h g hmt hz
  rcases hcase c id h with⟨k,b0,rfl,h1,g1,g2⟩ | ⟨e,h1⟩
  ·rw [hH k id b0 h1 g1] at g;cases g
   exact hr.mutz k id b0 h1 g1 hmt hz
  ·rw [hold c id h1 e] at g
   rcases hr.zsub id hz with hz | hz
   ·exact hc.mutz c id blk h1 g hmt hz
   ·have:=hc.lt h1;omega
 ·intro c id blk h g hmt
  rcases hcase c id h with⟨k,b0,rfl,h1,g1,g2⟩ | ⟨e,h1⟩
  ·rw [hH k id b0 h1 g1] at g;cases g
   exact hr.frz k id b0 h1 g1 hmt
  ·rw [hold c id h1 e] at g
   exact hr.zsup id (hc.frz c id blk h1 g hmt)
 ·intro c id h
  rcases hcase c id h with⟨k,b0,rfl,h1,g1,cc,T,part,rest,q1,q2,q3⟩ | ⟨e,h1⟩
  ·exact⟨_,hH k id b0 h1 g1,cc,T,part,rest,q1,q2,av.ren σ hnew _ _ _ q3⟩
  ·obtain⟨bk,g1,g2⟩:=hc.heap c id h1
   exact⟨bk,by rw [hold c id h1 e];exact g1,g2.mono hr.zsup hold' hfr (hkeep id (hc.lt h1) e)⟩
def kp (blk:Blk) (bs:List Blk):bI:=fun n=>if n=0 then some blk else bs[n-1]?
def kO (P:Program) (f:FuncId) (blk:Blk) (args:List LV) (r:LV) (blk':Blk) (bs:List Blk):Prop :=
 kW P f∧∀ (W:World) (Z0:Nat→Prop) (vs:List Value) (i0:Nat),(∀ id,Z0 id→id<W.heap.size)→¬ Z0 i0→fH Z0 (qY i0) W blk i0→cC Z0 (qY i0) W args vs →
  Calls P f vs.toArray W fun e w'=>∃ v μ Z,e=.returned v∧Core W (fun k=>k=i0) Z0 μ Z (kp blk' bs) w'∧be Z μ w' r v
def jm (σ:Nat→Nat):Nat→List Blk→St→St
 | _,[],L=>L
 | k,b :: bs,L=>jm σ (k+1) bs (L.setB (σ k) (some ⟨b.sz,cB σ b.vals,b.mt⟩))
theorem lB:∀ (bs:List Blk) (k:Nat) (L:St),(jm σ k bs L).slot=L.slot
 | [],_,_=>rfl
 | b :: bs,k,L=>by rw [jm,lB bs];rfl
theorem jy:∀ (bs:List Blk) (k:Nat) (L:St) (c:Nat),(∀ j,k≤j→j<k+bs.length→c≠σ j)→(jm σ k bs L).heap c=L.heap c
 | [],_,_,_,_=>rfl
 | b :: bs,k,L,c,h=>by
   rw [jm,jy bs (k+1) _ c (fun j h1 h2=>h j (by omega) (by simp only [List.length_cons];omega))]
   show (if c=σ k then _ else L.heap c)=_
   rw [if_neg (h k (Nat.le_refl _) (by simp only [List.length_cons];omega))]
theorem nw:∀ (bs:List Blk) (k:Nat) (L:St) (i:Nat) (b:Blk),(∀ j j',k≤j→j<j'→j'<k+bs.length→σ j≠σ j')→bs[i]?=some b→(jm σ k bs L).heap (σ (k+i))=some ⟨b.sz,cB σ b.vals,b.mt⟩
 | [],_,_,i,_,_,h=>by simp at h
 | x :: xs,k,L,0,b,hi,h=>by
   simp only [List.getElem?_cons_zero,Option.some.injEq] at h;subst h
   show (jm σ k (x :: xs) L).heap (σ k)=_
   rw [jm,jy xs (k+1) _ _ (fun j h1 h2=>hi k j (Nat.le_refl _) (by omega) (by simp only [List.length_cons];omega))]
   simp [St.setB]
 | x :: xs,k,L,i+1,b,hi,h=>by
   rw [jm]
   have:=nw xs (k+1) (L.setB (σ k) (some ⟨x.sz,cB σ x.vals,x.mt⟩)) i b (fun j j' h1 h2 h3=>hi j j' (by omega) h2 (by simp only [List.length_cons];omega)) (by simpa using h)
   rwa [show k+1+i=k+(i+1) by omega] at this
def dg (b d:Nat):Nat→Nat:=fun k=>if k=0 then b else aV d k
theorem uo {f:FuncId} {xs:Array Operand} {as:Array TypeId} {args:List LV} {r:LV} {b:Nat} {blk blk':Blk} {bs:List Blk} {dst:Option Tmp} {ty:TypeId} {pos:String} {af:Array Edge} {g:Option (Nat × Bool)} (d:Nat)
  (hg:bc ops L ⟨dst,.call ⟨.value (.func f),xs,as⟩,ty,pos,af,g⟩ true) (hb:L.heap b=some blk) (hm:blk.mt=true) (hp:aD blk.vals=true) (ha:ArgML L.heap b (xs.toList.map L.ev) args) (hn:Names b (xs.toList.map L.ev))
  (hk:kO P f blk args r blk' bs) (hp':aD blk'.vals=true) (hlen:bs.length<16) (hf:∀ k,k<16→L.heap (aV d k)=none) :
  jW P ops ⟨dst,.call ⟨.value (.func f),xs,as⟩,ty,pos,af,g⟩ L ((jm (dg b d) 1 bs (L.setB b (some blk'))).put dst (r.ren (dg b d))):=by
 intro n W X Z0 a w K Q ⟨hdf,hsz',μ,Z,hc,hr⟩ hd hK
 rw [dy hr hg]
 simp only [if_true]
 have hd':∀ t,dst=some t→t<a.tmps.size:=fun t h=>by rw [hsz'];exact hd t h
 obtain⟨i0,hi0⟩:=Names.mu (μ:=μ) (Z:=Z) (w:=w) (a:=a) xs.toList hn (fun x _=>dV (L:=L) hr x)
 have hargs:=ko (a:=a) hc hi0 xs.toList args ha (fun x _=>dV (L:=L) hr x)
 have hrun:(execOp a.eval (Oper.mk dst (.call ⟨.value (.func f),xs,as⟩) ty pos af g)).run P w=.ok (.enter f (xs.map a.eval)) w:=by
  have:=fO (P:=P) (w:=w) (args:=xs.map a.eval) hk.1
  simp only [execOp,resolve,Act.eval,Deferred.ofValue,Sem.run_bind,Sem.run_pure,Result.andThen_ok,invoke]
  simpa using this
 unfold Oper.wp
 rw [hrun,Oper.upon_enter]
 obtain⟨blk1,g1,g2⟩:=hc.heap b i0 hi0
 rw [hb] at g1;cases g1
 have hbr:fH Z (qY i0) w blk i0:=by
  obtain⟨c,T,part,rest,q1,q2,q3⟩:=g2
  exact⟨c,T,part,rest,q1,q2,av.repure (fun _ h=>h) (fun _ _=>rfl) _ _ _ hp q3⟩
 have hnz:=hc.mutz b i0 blk hi0 hb hm
 have:=hk.2 w Z (xs.toList.map a.eval) i0 hc.zone hnz hbr hargs
 rw [show (xs.toList.map a.eval).toArray=xs.map a.eval from by apply Array.ext';simp] at this
 refine this.mono ?_
 rintro e w' ⟨v,μr,Zr,rfl,hrr,hv⟩
 have hinj:∀ j j',1≤j→j<j'→j'<1+bs.length→dg b d j≠dg b d j':=fun j j' h1 h2 _ e=>by
  unfold dg at e
  rw [if_neg (by omega),if_neg (by omega)] at e
  unfold aV at e;omega
 have hk16:∀ k id,μr k=some id→k≠0→k<16∧∃ blk,bs[k-1]?=some blk:=fun k id h h0=>by
  obtain⟨bk,q1,_⟩:=hrr.heap k id h
  simp only [kp,if_neg h0] at q1
  have:=(List.getElem?_eq_some_iff.1 q1).1
  exact⟨by omega,bk,q1⟩
 obtain⟨h1,h2,h3,h4⟩:=hc.callN (d:=d) (σ:=dg b d) (H':=(jm (dg b d) 1 bs (L.setB b (some blk'))).heap) hrr
  (fun k id h h0=>⟨(hk16 k id h h0).1,by unfold dg;rw [if_neg h0],eH hc (hf k (hk16 k id h h0).1)⟩)
  (fun id e=>by subst e;exact⟨hi0,hnz⟩)
  (fun id h=>by have:=hrr.x1 i0 rfl;rw [h] at this;cases this;rfl)
  (fun k id bk h g=>by
   by_cases h0:k=0
   ·subst h0
    simp only [kp,if_true,Option.some.injEq] at g;subst g
    rw [jy _ _ _ _ (fun j h1 h2 e=>by
     unfold dg at e
     rw [if_pos rfl,if_neg (by omega)] at e
     have:=hf j (by omega)
     rw [←e,hb] at this;cases this),dM _ _ hp']
    simp [St.setB,dg]
   ·simp only [kp,if_neg h0] at g
    have:=nw (σ:=dg b d) bs 1 (L.setB b (some blk')) (k-1) bk hinj g
    rwa [show 1+(k-1)=k by omega] at this)
  (fun c id h e=>by
   have hcb:c≠b:=by rintro rfl;rw [hi0] at h;cases h;exact e rfl
   rw [jy _ _ _ _ (fun j h1 h2 ej=>by
    have hj:=hf j (by omega)
    unfold dg at ej
    rw [if_neg (by omega)] at ej
    subst ej
    rw [eH hc hj] at h;cases h)]
   simp [St.setB,hcb])
 refine hK _ _ ⟨by rw [cX];exact hdf,by rw [dS];exact hsz',_,Zr,by rw [cw];exact h1,?_⟩
 refine eG (L:=jm (dg b d) 1 bs (L.setB b (some blk'))) hd' (fun t=>?_) (hv.ren _ h4)
 rw [lB]
 exact(hr t).mono hrr.zsup h2 h3
theorem wo {f:FuncId} {xs:Array Operand} {as:Array TypeId} {args:List LV} {r:LV} {bs:List Blk} {dst:Option Tmp} {ty:TypeId} {pos:String} {af:Array Edge} {g:Option (Nat × Bool)} (d:Nat)
  (hg:bc ops L ⟨dst,.call ⟨.value (.func f),xs,as⟩,ty,pos,af,g⟩ true) (ha:ImmL L.heap (xs.toList.map L.ev) args) (hk:dB P f args r bs) (hlen:bs.length<16) (hf:∀ k,k<16→L.heap (aV d k)=none) :
  jW P ops ⟨dst,.call ⟨.value (.func f),xs,as⟩,ty,pos,af,g⟩ L ((jm (dg 0 d) 1 bs L).put dst (r.ren (dg 0 d))):=by
 intro n W X Z0 a w K Q ⟨hdf,hsz',μ,Z,hc,hr⟩ hd hK
 rw [dy hr hg]
 simp only [if_true]
 have hd':∀ t,dst=some t→t<a.tmps.size:=fun t h=>by rw [hsz'];exact hd t h
 have hargs:=iu (a:=a) hc xs.toList args ha (fun x _=>dV (L:=L) hr x)
 have hrun:(execOp a.eval (Oper.mk dst (.call ⟨.value (.func f),xs,as⟩) ty pos af g)).run P w=.ok (.enter f (xs.map a.eval)) w:=by
  have:=fO (P:=P) (w:=w) (args:=xs.map a.eval) hk.1
  simp only [execOp,resolve,Act.eval,Deferred.ofValue,Sem.run_bind,Sem.run_pure,Result.andThen_ok,invoke]
  simpa using this
 unfold Oper.wp
 rw [hrun,Oper.upon_enter]
 have:=hk.2 w Z (xs.toList.map a.eval) hc.zone hargs
 rw [show (xs.toList.map a.eval).toArray=xs.map a.eval from by apply Array.ext';simp] at this
 refine this.mono ?_
 rintro e w' ⟨v,μr,Zr,rfl,hrr,hv⟩
 have h00:∀ id,μr 0=some id→False:=fun id h=>by
  obtain⟨bk,q1,_⟩:=hrr.heap 0 id h
  simp [cE] at q1
 have hinj:∀ j j',1≤j→j<j'→j'<1+bs.length→dg 0 d j≠dg 0 d j':=fun j j' h1 h2 _ e=>by
  unfold dg at e
  rw [if_neg (by omega),if_neg (by omega)] at e
  unfold aV at e;omega
 have hk16:∀ k id,μr k=some id→k≠0→k<16∧∃ blk,bs[k-1]?=some blk:=fun k id h h0=>by
  obtain⟨bk,q1,_⟩:=hrr.heap k id h
  simp only [cE,if_neg h0] at q1
  have:=(List.getElem?_eq_some_iff.1 q1).1
  exact⟨by omega,bk,q1⟩
 obtain⟨h1,h2,h3,h4⟩:=hc.callN (d:=d) (σ:=dg 0 d) (H':=(jm (dg 0 d) 1 bs L).heap) hrr
  (fun k id h h0=>⟨(hk16 k id h h0).1,by unfold dg;rw [if_neg h0],eH hc (hf k (hk16 k id h h0).1)⟩)
  (fun id e=>e.elim)
  (fun id h=>h00 id h)
  (fun k id bk h g=>by
   by_cases h0:k=0
   ·subst h0;exact(h00 id h).elim
   ·simp only [cE,if_neg h0] at g
    have:=nw (σ:=dg 0 d) bs 1 L (k-1) bk hinj g
    rwa [show 1+(k-1)=k by omega] at this)
  (fun c id h e=>jy _ _ _ _ (fun j h1 h2 ej=>by
    have hj:=hf j (by omega)
    unfold dg at ej
    rw [if_neg (by omega)] at ej
    subst ej
    rw [eH hc hj] at h;cases h))
 refine hK _ _ ⟨by rw [cX];exact hdf,by rw [dS];exact hsz',_,Zr,by rw [cw];exact h1,?_⟩
 refine eG (L:=jm (dg 0 d) 1 bs L) hd' (fun t=>?_) (hv.ren _ h4)
 rw [lB]
 exact(hr t).mono hrr.zsup h2 h3
end
end Go.Lg
namespace Go.Lg
section
variable {P:Program} {W w w':World} {X X0 Z0 Z Zr:Nat→Prop} {μ μr:Nat→Option Nat} {H H' Hr:bI} {a:Act} {L L':St} {n d:Nat} {ops:Array Oper} {σ:Nat→Nat}
def f9 (own:List Nat):Nat→Nat:=fun b=>if b=0 then 0 else own.idxOf b+1
def gp (μ:Nat→Option Nat) (own:List Nat):Nat→Option Nat:=fun k=>if k=0 then μ 0 else(own[k-1]?).bind μ
theorem so {own:List Nat} {k id:Nat} (hnd:own.Nodup) (h:gp μ own k=some id):(k=0∧μ 0=some id)∨∃ b,k≠0∧own[k-1]?=some b∧μ b=some id:=by
 unfold gp at h
 split at h
 ·rename_i e;exact .inl ⟨e,h⟩
 ·rename_i e
  rw [Option.bind_eq_some_iff] at h
  obtain⟨b,g1,g2⟩:=h
  exact .inr ⟨b,e,g1,g2⟩
theorem su {own:List Nat} {H:bI} (hc:∀ c id,μ c=some id→H c≠none) (hdom:∀ c,c≠0→H c≠none→c∈own):∀ c id,μ c=some id→gp μ own (f9 own c)=some id:=fun c id h=>by
 by_cases h0:c=0
 ·subst h0;simpa [f9,gp] using h
 ·have hm:=hdom c h0 (hc c id h)
  have hl:=List.idxOf_lt_length_of_mem hm
  have he:own[own.idxOf c]?=some c:=by rw [List.getElem?_eq_getElem hl,List.getElem_idxOf hl]
  simp [f9,gp,h0,he,h]
theorem gx {μ':Nat→Option Nat} (f:Nat→Nat) (hm:∀ c id,μ c=some id→μ' (f c)=some id) (hc:Core W X Z0 μ Z L.heap w) (hr:∀ t,be Z μ w (L.slot t) (a.tmps.getD t undef)) :
  ∀ (rs:List ResultVar) (xs:List LV),ResL P L rs xs→(∀ x∈xs,x≠.any∧∀ l,x≠.tup l)→∃ us,(rs.mapM (ig a.tmps)).run P w=.ok us w∧cC Z μ' w (cB f xs) us
 | _,_,.nil,_=>⟨[],rfl,rfl⟩
 | _,_,.cons (vs:=vs) (xs:=xs) h t,hx=>by
   obtain⟨u,q1,q2⟩:=jv hc hr h (hx _ (by simp))
   obtain⟨us,q3,q4⟩:=gx f hm hc hr _ _ t (fun y hy=>hx y (by simp [hy]))
   refine⟨u :: us,?_,u,us,rfl,q2.ren f hm,q4⟩
   rw [List.mapM_cons,Sem.run_bind,q1]
   simp only [Result.andThen_ok,Sem.run_bind,q3,Sem.run_pure]
theorem l7 {ys:List LV} {us:List Value} (h:cC Z μ w ys us):be Z μ w (gH ys) (if h:us.toArray.size=1 then us.toArray[0] else .tuple us.toArray):=by
 have hyl:=dR _ _ h
 match ys,us,h,hyl with
 | [y],[u],q2,_ =>
  obtain⟨v,vs',e,g1,g2⟩:=q2
  simp only [List.cons.injEq] at e
  obtain⟨rfl,_⟩:=e
  have hnt:∀ l,y≠.tup l:=fun l e=>by subst e;have:=g1.2 rfl;simp [bt] at this
  exact be.of1 hnt g1
 | [],[],q2,_=>exact⟨_,rfl,by simpa using q2⟩
 | y :: y' :: ys,u :: u' :: us,q2,_=>exact⟨(u :: u' :: us).toArray,by simp,by simpa using q2⟩
def AF (P:Program) (rs:List ResultVar) (L:St) (r:LV) (bs:List Blk):Prop :=
 ∃ (xs:List LV) (own:List Nat),L.heap 0=none∧ResL P L rs xs∧(∀ x∈xs,x≠.any∧∀ l,x≠.tup l)∧own.Nodup∧0∉own∧(∀ c,c≠0→L.heap c≠none→c∈own) ∧
  (∀ (k b:Nat),own[k]?=some b→∃ blk:Blk,L.heap b=some blk∧bs[k]?=some ⟨blk.sz,cB (f9 own) blk.vals,blk.mt⟩)∧r=gH (cB (f9 own) xs)
theorem Core.outN {own:List Nat} {Hr:bI} {bs:List Blk} (hc:Core W X Z0 μ Z H w) (hnd:own.Nodup) (hn0:0∉own) (hdom:∀ c,c≠0→H c≠none→c∈own)
  (hbs:∀ (k b:Nat),own[k]?=some b→∃ blk:Blk,H b=some blk∧bs[k]?=some ⟨blk.sz,cB (f9 own) blk.vals,blk.mt⟩)
  (hr1:∀ k,k≠0→Hr k=bs[k-1]?) (hr0:∀ id blk,μ 0=some id→H 0=some blk→Hr 0=some ⟨blk.sz,cB (f9 own) blk.vals,blk.mt⟩) :
  Core W X Z0 (gp μ own) Z Hr w∧∀ c id,μ c=some id→gp μ own (f9 own c)=some id:=by
 have hhm:∀ c id,μ c=some id→H c≠none:=fun c id h e=>by obtain⟨bk,g,_⟩:=hc.heap c id h;rw [e] at g;cases g
 have hm:=su (μ:=μ) (own:=own) hhm hdom
 have hcase:∀ k id,gp μ own k=some id→∃ c blk,μ c=some id∧H c=some blk∧fH Z μ w blk id∧Hr k=some ⟨blk.sz,cB (f9 own) blk.vals,blk.mt⟩∧((k=0∧c=0)∨(k≠0∧c≠0∧own[k-1]?=some c)):=fun k id h=>by
  rcases so hnd h with⟨rfl,h0⟩ | ⟨b,k0,g1,g2⟩
  ·obtain⟨blk,q1,q2⟩:=hc.heap 0 id h0
   exact⟨0,blk,h0,q1,q2,hr0 id blk h0 q1,.inl ⟨rfl,rfl⟩⟩
  ·obtain⟨blk,q1,q2⟩:=hc.heap b id g2
   obtain⟨blk',j1,j2⟩:=hbs _ _ g1
   rw [q1] at j1;cases j1
   exact⟨b,blk,g2,q1,q2,by rw [hr1 k k0];exact j2,.inr ⟨k0,fun e=>hn0 (e ▸ List.mem_of_getElem? g1),g1⟩⟩
 refine⟨⟨hc.keep,hc.zone,hc.zsup,hc.zsub,?_,?_,?_,hc.xlt,fun id h=>by simpa [gp] using hc.x1 id h,?_,?_,?_⟩,hm⟩
 ·intro k k' id h h'
  obtain⟨c,_,g1,_,_,_,g2⟩:=hcase k id h
  obtain⟨c',_,g1',_,_,_,g2'⟩:=hcase k' id h'
  have e:=hc.inj c c' id g1 g1'
  subst e
  rcases g2 with⟨rfl,c0⟩ | ⟨k0,c0,q⟩<;>rcases g2' with⟨rfl,c0'⟩ | ⟨k0',c0',q'⟩
  ·rfl
  ·exact absurd c0 c0'
  ·exact absurd c0' c0
  ·obtain⟨l1,e1⟩:=List.getElem?_eq_some_iff.1 q
   obtain⟨l2,e2⟩:=List.getElem?_eq_some_iff.1 q'
   have hp:=List.pairwise_iff_getElem.1 hnd
   rcases Nat.lt_trichotomy (k-1) (k'-1) with h | h | h
   ·exact absurd (e1.trans e2.symm) (hp _ _ l1 l2 h)
   ·omega
   ·exact absurd (e2.trans e1.symm) (hp _ _ l2 l1 h)
 ·intro k id h
  obtain⟨c,_,g1,_⟩:=hcase k id h
  exact hc.own c id g1
 ·intro k id h hx
  obtain⟨c,_,g1,_,_,_,g2⟩:=hcase k id h
  have:=hc.x0 c id g1 hx
  rcases g2 with⟨rfl,_⟩ | ⟨_,c0,_⟩
  ·rfl
  ·exact absurd this c0
 ·intro k id blk h g hmt
  obtain⟨c,b0,g1,g2,g3,g4,_⟩:=hcase k id h
  rw [g4] at g;cases g
  exact hc.mutz c id b0 g1 g2 hmt
 ·intro k id blk h g hmt
  obtain⟨c,b0,g1,g2,g3,g4,_⟩:=hcase k id h
  rw [g4] at g;cases g
  exact hc.frz c id b0 g1 g2 hmt
 ·intro k id h
  obtain⟨c,b0,g1,g2,⟨cc,T,part,rest,j1,j2,j3⟩,g4,_⟩:=hcase k id h
  exact⟨_,g4,cc,T,part,rest,j1,j2,av.ren _ hm _ _ _ j3⟩
theorem tw {f:FuncId} {fn:Func} {c:Code} {args:List LV} {r:LV} {bs:List Blk} (hfol:P.follows .mixedOrders=true) (hf:P.funcs[f]?=some fn) (hb:fn.body=some c)
  (hn:(fn.name== "runtime.NumGoroutine")=false) (hd:da fn.ntmps c=true) (hlen:args.length≤fn.ntmps)
  (h:wpL P c (fun e L=>match e with | .exit _=>False | _=>AF P fn.results.toList L r bs) (vN args)):dB P f args r bs:=by
 refine⟨⟨fn,hf,by rw [hb];rfl,hn⟩,fun W Z0 vs hz hargs=>?_⟩
 have hvl:=dR _ _ hargs
 refine calls_of_wp hf hb ?_
 have hsim:gR fn.ntmps W (fun _=>False) Z0 (vN args) ⟨vs.toArray++Array.replicate (fn.ntmps-vs.toArray.size) undef,[]⟩ W:=by
  have hn0:∀ {p:Prop} (b id:Nat),(fun _:Nat=>(none:Option Nat)) b=some id→p:=fun b id h=>by cases h
  refine⟨rfl,by simp;omega,fun _=>none,Z0,⟨Kept.refl _ _,hz,fun _ h=>h,fun _ h=>.inl h,fun b _ id h _=>hn0 b id h,fun b id h=>hn0 b id h,fun b id h _=>hn0 b id h,fun _ h=>False.elim h,fun _ h=>False.elim h,
   fun b id _ h _ _=>hn0 b id h,fun b id _ h _ _=>hn0 b id h,fun b id h=>hn0 b id h⟩,fun t=>?_⟩
  have e:vs.toArray++Array.replicate (fn.ntmps-vs.toArray.size) undef=(vs++List.replicate (fn.ntmps-vs.toArray.size) undef).toArray:=by apply Array.ext';simp
  show be Z0 (fun _=>none) W ((vN args).slot t) ((vs.toArray++Array.replicate (fn.ntmps-vs.toArray.size) undef).getD t undef)
  rw [e]
  exact kK (Z:=Z0) (μ:=fun _=>none) (w:=W) args vs _ hargs t
 refine wp_mono (eC hfol c _ _ _ _ hsim h hd) fun e a w q=>?_
 have main:∀ L,AF P fn.results.toList L r bs→gR fn.ntmps W (fun _=>False) Z0 L a w →
   a.defers=[]∧∃ v,(results fn a.tmps).run P w=.ok v w∧∃ v' μ Z,Ending.returned v=.returned v'∧Core W (fun _=>False) Z0 μ Z (cE bs) w∧be Z μ w r v':=by
  rintro L ⟨xs,own,h0,h1,hx,h2,h3,h4,h5,h6⟩ ⟨hdf,hsz,μ,Z,hc,hr⟩
  have hno0:∀ id,μ 0≠some id:=fun id e=>by obtain⟨bk,g,_⟩:=hc.heap 0 id e;rw [h0] at g;cases g
  obtain⟨k1,k2⟩:=hc.outN (Hr:=cE bs) h2 h3 h4 h5 (fun k hk=>by simp [cE,hk]) (fun id blk e=>absurd e (hno0 id))
  obtain⟨us,q1,q2⟩:=gx (f9 own) k2 hc hr _ _ h1 hx
  have hrs:(fn.results.mapM (ig a.tmps)).run P w=.ok us.toArray w:=by
   rw [Array.mapM_eq_mapM_toList,Sem.run_map,q1];rfl
  refine⟨hdf,(if h:us.toArray.size=1 then us.toArray[0] else .tuple us.toArray),?_,_,_,Z,rfl,k1,?_⟩
  ·rw [iT,Sem.run_bind,hrs]
   rfl
  ·subst h6;exact l7 q2
 cases e with
 | normal=>obtain⟨L,q1,q2⟩:=q;exact main L q1 q2
 | ret=>obtain⟨L,q1,q2⟩:=q;exact main L q1 q2
 | exit id=>obtain⟨L,q1,q2⟩:=q;exact q1.elim
 | _=>exact q.elim
def uW (P:Program) (rs:List ResultVar) (L:St) (r:LV) (blk':Blk) (bs:List Blk):Prop :=
 ∃ (xs:List LV) (own:List Nat),L.heap 0=some blk'∧aD blk'.vals=true∧ResL P L rs xs∧(∀ x∈xs,x≠.any∧∀ l,x≠.tup l)∧own.Nodup∧0∉own∧(∀ c,c≠0→L.heap c≠none→c∈own) ∧
  (∀ (k b:Nat),own[k]?=some b→∃ blk:Blk,L.heap b=some blk∧bs[k]?=some ⟨blk.sz,cB (f9 own) blk.vals,blk.mt⟩)∧r=gH (cB (f9 own) xs)
theorem sX {f:FuncId} {fn:Func} {c:Code} {args:List LV} {r:LV} {blk blk':Blk} {bs:List Blk} (hfol:P.follows .mixedOrders=true) (hf:P.funcs[f]?=some fn) (hb:fn.body=some c)
  (hn:(fn.name== "runtime.NumGoroutine")=false) (hd:da fn.ntmps c=true) (hlen:args.length≤fn.ntmps) (hmt:blk.mt=true)
  (h:wpL P c (fun e L=>match e with | .exit _=>False | _=>uW P fn.results.toList L r blk' bs) (Ab args blk)):kO P f blk args r blk' bs:=by
 refine⟨⟨fn,hf,by rw [hb];rfl,hn⟩,fun W Z0 vs i0 hz hnz hbr hargs=>?_⟩
 have hvl:=dR _ _ hargs
 refine calls_of_wp hf hb ?_
 have hm0:∀ b id,qY i0 b=some id→b=0∧id=i0:=fun b id h=>by
  unfold qY at h;split at h
  ·cases h;exact⟨by assumption,rfl⟩
  ·cases h
 have hlt:i0<W.heap.size:=by
  obtain⟨c,T,part,rest,h1,_⟩:=hbr
  exact(Array.getElem?_eq_some_iff.1 h1).1
 have hsim:gR fn.ntmps W (fun k=>k=i0) Z0 (Ab args blk) ⟨vs.toArray++Array.replicate (fn.ntmps-vs.toArray.size) undef,[]⟩ W:=by
  refine⟨rfl,by simp;omega,qY i0,Z0,⟨Kept.refl _ _,hz,fun _ h=>h,fun _ h=>.inl h,fun b b' id h h'=>(hm0 b id h).1.trans (hm0 b' id h').1.symm,fun b id h=>.inr (hm0 b id h).2,
   fun b id h _=>(hm0 b id h).1,fun id h=>by subst h;exact hlt,fun id h=>by subst h;rfl,fun b id bk h _ _=>by rw [(hm0 b id h).2];exact hnz,
   fun b id bk h g hm=>?_,fun b id h=>?_⟩,fun t=>?_⟩
  ·obtain⟨rfl,rfl⟩:=hm0 b id h
   simp only [Ab,if_true] at g;cases g
   rw [hmt] at hm;cases hm
  ·obtain⟨rfl,rfl⟩:=hm0 b id h
   exact⟨blk,rfl,hbr⟩
  ·have e:vs.toArray++Array.replicate (fn.ntmps-vs.toArray.size) undef=(vs++List.replicate (fn.ntmps-vs.toArray.size) undef).toArray:=by apply Array.ext';simp
   show be Z0 (qY i0) W ((vN args).slot t) ((vs.toArray++Array.replicate (fn.ntmps-vs.toArray.size) undef).getD t undef)
   rw [e]
   exact kK args vs _ hargs t
 refine wp_mono (eC hfol c _ _ _ _ hsim h hd) fun e a w q=>?_
 have main:∀ L,uW P fn.results.toList L r blk' bs→gR fn.ntmps W (fun k=>k=i0) Z0 L a w →
   a.defers=[]∧∃ v,(results fn a.tmps).run P w=.ok v w∧∃ v' μ Z,Ending.returned v=.returned v'∧Core W (fun k=>k=i0) Z0 μ Z (kp blk' bs) w∧be Z μ w r v':=by
  rintro L ⟨xs,own,h0,hp0,h1,hx,h2,h3,h4,h5,h6⟩ ⟨hdf,hsz,μ,Z,hc,hr⟩
  obtain⟨k1,k2⟩:=hc.outN (Hr:=kp blk' bs) h2 h3 h4 h5 (fun k hk=>by simp [kp,hk]) (fun id blk e g=>by rw [h0] at g;cases g;rw [dM _ _ hp0];rfl)
  obtain⟨us,q1,q2⟩:=gx (f9 own) k2 hc hr _ _ h1 hx
  have hrs:(fn.results.mapM (ig a.tmps)).run P w=.ok us.toArray w:=by
   rw [Array.mapM_eq_mapM_toList,Sem.run_map,q1];rfl
  refine⟨hdf,(if h:us.toArray.size=1 then us.toArray[0] else .tuple us.toArray),?_,_,_,Z,rfl,k1,?_⟩
  ·rw [iT,Sem.run_bind,hrs]
   rfl
  ·subst h6;exact l7 q2
 cases e with
 | normal=>obtain⟨L,q1,q2⟩:=q;exact main L q1 q2
 | ret=>obtain⟨L,q1,q2⟩:=q;exact main L q1 q2
 | exit id=>obtain⟨L,q1,q2⟩:=q;exact q1.elim
 | _=>exact q.elim
def iE (b b':Nat):Nat→Nat:=fun k=>if k=b then b' else k
def St.move (L:St) (b b':Nat):St :=
 ⟨fun t=>(L.slot t).ren (iE b b'),fun c=>if c=b' then(L.heap b).map fun x=>⟨x.sz,cB (iE b b') x.vals,x.mt⟩ else if c=b then none else(L.heap c).map fun x=>⟨x.sz,cB (iE b b') x.vals,x.mt⟩⟩
theorem aP.move0 {L:St} {b b':Nat} (hb:b≠0) (hb':b'≠0) (hne:b≠b') (hf:L.heap b'=none):aP L (L.move b b'):=by
 rintro n W X Z0 a w ⟨hdf,hsz,μ,Z,hc,hr⟩
 have hμ:μ b'=none:=eH hc hf
 let μ':Nat→Option Nat:=fun c=>if c=b' then μ b else if c=b then none else μ c
 have hm:∀ c id,μ c=some id→μ' (iE b b' c)=some id:=fun c id h=>by
  by_cases e:c=b
  ·subst e;simp [μ',iE,h]
  ·have e':c≠b':=by rintro rfl;rw [hμ] at h;cases h
   simp [μ',iE,e,e',h]
 have hinv:∀ c id,μ' c=some id→∃ c0,μ c0=some id∧c=iE b b' c0:=fun c id h=>by
  simp only [μ'] at h
  split at h
  ·rename_i e;exact⟨b,h,by simp [iE,e]⟩
  ·split at h
   ·cases h
   ·rename_i e1 e2;exact⟨c,h,by simp [iE,e2]⟩
 have hmi:∀ c c' id id',μ c=some id→μ c'=some id'→iE b b' c=iE b b' c'→c=c':=fun c c' id id' h h' e=>by
  have e1:c≠b':=by rintro rfl;rw [hμ] at h;cases h
  have e2:c'≠b':=by rintro rfl;rw [hμ] at h';cases h'
  unfold iE at e
  split at e<;>split at e<;>first | omega | (subst_vars;first | rfl | (exact absurd rfl (by assumption)) | (exfalso;apply e2;exact e.symm) | (exfalso;apply e1;exact e))
 have hH:∀ c id blk,μ c=some id→L.heap c=some blk→(L.move b b').heap (iE b b' c)=some ⟨blk.sz,cB (iE b b') blk.vals,blk.mt⟩:=fun c id blk h g=>by
  by_cases e:c=b
  ·subst e;simp [St.move,iE,g]
  ·have e':c≠b':=by rintro rfl;rw [hμ] at h;cases h
   simp [St.move,iE,e,e',g]
 refine⟨hdf,hsz,μ',Z,⟨hc.keep,hc.zone,hc.zsup,hc.zsub,?_,?_,?_,hc.xlt,?_,?_,?_,?_⟩,fun t=>be.ren _ hm (hr t)⟩
 ·intro c c' id h h'
  obtain⟨d,g1,rfl⟩:=hinv c id h
  obtain⟨d',g2,rfl⟩:=hinv c' id h'
  rw [hc.inj d d' id g1 g2]
 ·intro c id h
  obtain⟨d,g1,rfl⟩:=hinv c id h
  exact hc.own d id g1
 ·intro c id h hx
  obtain⟨d,g1,rfl⟩:=hinv c id h
  have:=hc.x0 d id g1 hx
  subst this
  simp [iE,Ne.symm hb]
 ·intro id h
  have:=hm 0 id (hc.x1 id h)
  simpa [iE,Ne.symm hb] using this
 ·intro c id blk h g hmt
  obtain⟨d,g1,rfl⟩:=hinv c id h
  obtain⟨b0,j1,j2⟩:=hc.heap d id g1
  rw [hH d id b0 g1 j1] at g;cases g
  exact hc.mutz d id b0 g1 j1 hmt
 ·intro c id blk h g hmt
  obtain⟨d,g1,rfl⟩:=hinv c id h
  obtain⟨b0,j1,j2⟩:=hc.heap d id g1
  rw [hH d id b0 g1 j1] at g;cases g
  exact hc.frz d id b0 g1 j1 hmt
 ·intro c id h
  obtain⟨d,g1,rfl⟩:=hinv c id h
  obtain⟨b0,j1,cc,T,part,rest,q1,q2,q3⟩:=hc.heap d id g1
  exact⟨_,hH d id b0 g1 j1,cc,T,part,rest,q1,q2,av.ren _ hm _ _ _ q3⟩
theorem Ck {b b':Nat} (f:Blk→Blk) (hne:b≠b'):∀ (l:List (Nat × Blk)),(∀ p∈l,p.1≠b')→∀ c,hp (l.map fun p=>(iE b b' p.1,f p.2)) c=if c=b' then(hp l b).map f else if c=b then none else(hp l c).map f
 | [],_,c=>by simp [hp]
 | (d,y) :: t,hl,c=>by
   have ih:=Ck f hne t (fun p hp=>hl p (by simp [hp])) c
   have hd:d≠b':=hl (d,y) (by simp)
   have hpc:∀ (e:Nat) (z:Blk) (u:List (Nat × Blk)) (x:Nat),hp ((e,z) :: u) x=if x=e then some z else hp u x:=fun e z u x=>by
    simp only [hp]
    by_cases h:x=e
    ·simp [h]
    ·have:Nat.beq x e=false:=by rw [←Bool.not_eq_true,Nat.beq_eq];exact h
     rw [this,if_neg h];rfl
   simp only [List.map_cons,hpc,ih]
   by_cases h1:d=b
   ·subst h1
    simp only [iE,if_true]
    by_cases h2:c=b'
    ·simp [h2]
    ·by_cases h3:c=d
     ·subst h3;simp [h2]
     ·simp [h2,h3]
   ·have e1:iE b b' d=d:=by simp [iE,h1]
    rw [e1]
    by_cases h2:c=b'
    ·subst h2
     have:c≠d:=fun e=>hd e.symm
     simp [this,Ne.symm h1]
    ·by_cases h3:c=b
     ·subst h3
      simp [h2,Ne.symm h1]
     ·by_cases h4:c=d
      ·subst h4;simp [h2,h3]
      ·simp [h2,h3,h4]
theorem aP.moveH {L:St} {b b':Nat} {l:List (Nat × Blk)} (hl:L.heap=hp l) (hb:b≠0) (hb':b'≠0) (hne:b≠b') :
  aP L ⟨fun t=>((L.slot t).kill b').ren (iE b b'),hp ((fy b' l).map fun p=>(iE b b' p.1,(⟨p.2.sz,cB (iE b b') p.2.vals,p.2.mt⟩:Blk)))⟩:=by
 have hk:(L.kill b').heap=hp (fy b' l):=by
  funext c
  rw [mM]
  simp only [St.kill,hl]
 have hn:∀ p∈fy b' l,p.1≠b':=by
  clear hk hl
  induction l with
  | nil=>simp [fy]
  | cons q t ih =>
   obtain⟨d,y⟩:=q
   simp only [fy]
   by_cases h:d=b'
   ·subst h;simpa using ih
   ·have:Nat.beq d b'=false:=by rw [←Bool.not_eq_true,Nat.beq_eq];exact h
    rw [this]
    simp only [cond_false,List.mem_cons]
    rintro p (rfl | hp)
    ·exact h
    ·exact ih p hp
 refine(aP.kill L b' hb').trans ((aP.move0 (b:=b) (b':=b') hb hb' hne (by simp [St.kill])).trans (aP.of_eq ?_))
 simp only [St.move,St.mk.injEq]
 refine⟨rfl,?_⟩
 funext c
 rw [Ck (fun x=>⟨x.sz,cB (iE b b') x.vals,x.mt⟩) hne _ hn c,hk]
end
end Go.Lg
end
section
set_option linter.unusedVariables false
set_option linter.unusedSimpArgs false
set_option maxHeartbeats 8000000
set_option maxRecDepth 100000
attribute [local irreducible] Go.Lg.opsL Go.Lg.wpL Go.Lg.thenL Go.Lg.blockL
namespace Go.Proofs.YtfpdccbgngdhkaaGreat
open Go.Lg
section
variable {f:FuncId} {fn:Func} {c:Code} {args:List LV} {r:LV}
theorem Hm {bs:List Blk} (hf:Tryz.prog.funcs[f]?=some fn)
  (h:wpL Tryz.prog c (fun e L=>match e with | .exit _=>False | _=>AF Tryz.prog fn.results.toList L r bs) (St.mk (fun t=>args.getD t .any) (hp [])))
  (hb:fn.body=some c:=by exact rfl) (hn:(fn.name== "runtime.NumGoroutine")=false:=by decide +kernel) (hd:da fn.ntmps c=true:=by decide +kernel) (hlen:args.length≤fn.ntmps:=by exact Nat.le_of_ble_eq_true rfl):dB Tryz.prog f args r bs:=by
 refine tw EM hf hb hn hd hlen ?_
 have:vN args=St.mk (fun t=>args.getD t .any) (hp []):=by
  simp only [vN,St.mk.injEq,true_and]
  rfl
 rw [this];exact h
theorem HD {blk blk':Blk} {bs:List Blk} (hf:Tryz.prog.funcs[f]?=some fn)
  (h:wpL Tryz.prog c (fun e L=>match e with | .exit _=>False | _=>uW Tryz.prog fn.results.toList L r blk' bs) (St.mk (fun t=>args.getD t .any) (hp [(0,blk)])))
  (hb:fn.body=some c:=by exact rfl) (hn:(fn.name== "runtime.NumGoroutine")=false:=by decide +kernel) (hd:da fn.ntmps c=true:=by decide +kernel) (hlen:args.length≤fn.ntmps:=by exact Nat.le_of_ble_eq_true rfl) (hmt:blk.mt=true:=by exact rfl):kO Tryz.prog f blk args r blk' bs:=by
 refine sX EM hf hb hn hd hlen hmt ?_
 have:Ab args blk=St.mk (fun t=>args.getD t .any) (hp [(0,blk)]):=by
  simp only [Ab,St.mk.injEq,true_and]
  funext c
  simp only [hp]
  by_cases h:c=0
  ·simp [h]
  ·have:Nat.beq c 0=false:=by rw [←Bool.not_eq_true,Nat.beq_eq];exact h
   rw [this,if_neg h];rfl
 rw [this];exact h
end
def fP (B n i:Nat):List LV:=(List.range i).map fun j=>.ref (B+j) 12 0 n
theorem kP (B n i:Nat):(fP B n i).length=i:=by simp [fP]
theorem jk (B n i:Nat):fP B n (i+1)=fP B n i++[.ref (B+i) 12 0 n]:=by simp [fP,List.range_succ]
theorem rP (B n i:Nat):(fP B n i).take i=fP B n i:=List.take_of_length_le (by rw [kP];exact Nat.le_refl _)
theorem jL {B n i k:Nat} (h:k<i):(fP B n i)[k]?=some (.ref (B+k) 12 0 n):=by simp [fP,h]
theorem lQ (b:Nat) (l m:List LV):aH b (l++m)=aH b l++aH b m:=et b l m
theorem gB {b B n:Nat}:∀ (i:Nat),b<B∨B+i≤b→aH b (fP B n i)=fP B n i
 | 0,_=>rfl
 | i+1,h=>by
   rw [jk,lQ,gB i (by omega)]
   have:¬ (B+i=b):=by omega
   simp [aH,LV.kill,this]
theorem nW (g:Nat→Nat):∀ (l m:List LV),cB g (l++m)=cB g l++cB g m
 | [],m=>rfl
 | x :: xs,m=>by simp [cB,nW g xs m]
theorem mH {B B' n:Nat} {g:Nat→Nat}:∀ (i:Nat),(∀ j,j<i→g (B+j)=B'+j)→cB g (fP B n i)=fP B' n i
 | 0,_=>rfl
 | i+1,h=>by
   rw [jk,jk,nW,mH i (fun j hj=>h j (by omega))]
   simp [cB,LV.ren,h i (by omega)]
def bU (o:List (List PoR)) (j:Nat):Blk:=⟨12,(o.getD j []).map dX,true⟩
theorem D0 (o:List (List PoR)) (j:Nat):aD (bU o j).vals=true:=al cA _
theorem pG (o:List (List PoR)) (j b:Nat):aH b (bU o j).vals=(bU o j).vals:=ae cA ..
theorem qg (o:List (List PoR)) (j b:Nat):(⟨(bU o j).sz,aH b (bU o j).vals,(bU o j).mt⟩:Blk)=bU o j:=by rw [pG]
theorem nC (o:List (List PoR)) (j:Nat) (g:Nat→Nat):cB g (bU o j).vals=(bU o j).vals:=dM g _ (D0 o j)
theorem zr {o:List (List PoR)} {r:List PoR} {i:Nat} (h:o.length=i):bU (o++[r]) i=⟨12,r.map dX,true⟩:=by subst h;simp [bU,List.getD]
theorem yA {o:List (List PoR)} {r:List PoR} {i j:Nat} (h:o.length=i) (hj:j≠i):bU (o++[r]) j=bU o j:=by
 subst h
 rcases Nat.lt_or_ge j o.length with h | h
 ·simp [bU,List.getD,List.getElem?_append_left h]
 ·have e1:(o++[r])[j]?=none:=by simp;omega
  have e2:o[j]?=none:=by simp [h]
  simp [bU,List.getD,e1,e2]
theorem wO {L:St} {b0 b6 b7:Blk} {o:List (List PoR)} {r:List PoR} {i n:Nat} (hi:i<4) (ho:o.length=i)
  (hL:L.heap=hp [(0,b0),(6,b6),(7,b7),(201,bU o 0),(202,bU o 1),(203,bU o 2),(204,bU o 3),(95,⟨12,r.map dX,true⟩),(100,⟨1,fP 201 n i++[.ref 95 12 0 n],true⟩)])
  (h0:∀ c,200<c→cB (iE 95 c) (aH c b0.vals)=b0.vals) (h6:∀ c,200<c→cB (iE 95 c) (aH c b6.vals)=b6.vals) (h7:∀ c,200<c→cB (iE 95 c) (aH c b7.vals)=b7.vals) :
  aP L ⟨fun t=>((L.slot t).kill (201+i)).ren (iE 95 (201+i)),hp [(0,b0),(6,b6),(7,b7),(201,bU (o++[r]) 0),(202,bU (o++[r]) 1),(203,bU (o++[r]) 2),(204,bU (o++[r]) 3),(100,⟨1,fP 201 n (i+1),true⟩)]⟩:=by
 refine(aP.moveH (b:=95) (b':=201+i) hL (by omega) (by omega) (by omega)).trans (aP.of_eq ?_)
 simp only [St.mk.injEq,true_and]
 have hr100:cB (iE 95 (201+i)) (aH (201+i) (fP 201 n i++[.ref 95 12 0 n]))=fP 201 n (i+1):=by
  rw [lQ,gB i (.inr (by omega)),nW,mH (B':=201) i (fun j hj=>by unfold iE;rw [if_neg (by omega)]),jk]
  have:¬ (95=201+i):=by omega
  simp [aH,LV.kill,cB,LV.ren,iE,this]
 have hrr:∀ c,cB (iE 95 c) (aH c (r.map dX))=r.map dX:=fun c=>by rw [ae cA,dM _ _ (al cA _)]
 have hro:∀ j c,cB (iE 95 c) (aH c (bU o j).vals)=(bU o j).vals:=fun j c=>by rw [pG,nC]
 have blkEta:∀ b:Blk,(⟨b.sz,b.vals,b.mt⟩:Blk)=b:=fun _=>rfl
 have hbq:∀ a b:Nat,Nat.beq a b=(a==b):=fun a b=>by rw [Bool.eq_iff_iff,Nat.beq_eq,beq_iff_eq]
 rcases(show i=0∨i=1∨i=2∨i=3 by omega) with rfl | rfl | rfl | rfl
 all_goals
  refine ew ?_ ?_
  all_goals
   simp only [fy,hbq,Nat.reduceAdd,Nat.reduceBEq,Nat.reduceEqDiff,cond_false,cond_true,List.map_cons,List.map_nil] at hr100 hrr hro h0 h6 h7 ⊢
   simp only [h0,h6,h7,hr100,hrr,hro,blkEta,zr ho,yA ho,ne_eq,Nat.reduceEqDiff,not_false_eq_true,Nat.reduceLT]
   simp only [iE,Nat.reduceEqDiff,reduceIte,rt,hp,hbq,Nat.reduceBEq,cond_false,cond_true,and_self]
theorem Ep {b n i:Nat} (h:Nat.blt b 201=true):aH b (fP 201 n i)=fP 201 n i:=gB i (.inl (by simpa [Nat.blt_eq] using h))
theorem Fk (n i:Nat):aH 12 (fP 201 n i)=fP 201 n i:=Ep rfl
theorem FR (n i:Nat):aH 94 (fP 201 n i)=fP 201 n i:=Ep rfl
theorem FM (n i:Nat):aH 95 (fP 201 n i)=fP 201 n i:=Ep rfl
theorem EJ (n i:Nat):aH 99 (fP 201 n i)=fP 201 n i:=Ep rfl
theorem DK (n i:Nat):aH 100 (fP 201 n i)=fP 201 n i:=Ep rfl
theorem y5 {b sz i o c:Nat} (h:b<95) (hc:200<c):((LV.eptr b sz i o).kill c).ren (iE 95 c)=.eptr b sz i o:=by
 have h1:¬ (b=c):=by omega
 have h2:¬ (b=95):=by omega
 simp [LV.kill,LV.ren,iE,h1,h2]
theorem Cp {x:LV} {c:Nat} {g:Nat→Nat} (h:x.pure=true):(x.kill c).ren g=x:=by rw [LV.kill_pure c x h,LV.ren_pure g x h]
theorem Fr {x y z u:LV} {i c:Nat} (hx:x.pure=true) (hy:y.pure=true) (hz:z.pure=true) (hu:u.pure=true) (hc:200<c):cB (iE 95 c) (aH c [.agg [x,y,z,u,.ref 100 1 0 i]])=[.agg [x,y,z,u,.ref 100 1 0 i]]:=by
 have h1:¬ (100=c):=by omega
 simp only [aH,LV.kill,cB,LV.ren,LV.kill_pure c x hx,LV.kill_pure c y hy,LV.kill_pure c z hz,LV.kill_pure c u hu,LV.ren_pure _ x hx,LV.ren_pure _ y hy,LV.ren_pure _ z hz,LV.ren_pure _ u hu,if_neg h1,iE]
 simp [LV.ren,LV.kill,h1]
theorem CA {l:List LV} {c:Nat} {g:Nat→Nat} (h:aD l=true):cB g (aH c l)=l:=by rw [fW c l h,dM g l h]
theorem qD:∀ (l:List (Nat × Blk)) (c:Nat),hp l c≠none→c∈l.map (·.1)
 | [],c,h=>absurd rfl h
 | (d,y) :: t,c,h=>by
   by_cases e:c=d
   ·simp [e]
   ·have:Nat.beq c d=false:=by rw [←Bool.not_eq_true,Nat.beq_eq];exact e
    simp only [hp,this,cond_false] at h
    simp only [List.map_cons,List.mem_cons]
    exact .inr (qD t c h)
inductive BsOK (H:bI) (g:Nat→Nat):List Nat→List Blk→Prop
 | nil:BsOK H g [] []
 | cons {b:Nat} {blk x:Blk} {own:List Nat} {bs:List Blk} (h:H b=some blk) (e:x=⟨blk.sz,cB g blk.vals,blk.mt⟩) (t:BsOK H g own bs):BsOK H g (b :: own) (x :: bs)
theorem BsOK.at {H:bI} {g:Nat→Nat}:∀ {own:List Nat} {bs:List Blk},BsOK H g own bs→∀ (k b:Nat),own[k]?=some b→∃ blk:Blk,H b=some blk∧bs[k]?=some ⟨blk.sz,cB g blk.vals,blk.mt⟩
 | _,_,.nil,k,b,h=>by simp at h
 | _,_,.cons (blk:=blk) h e t,0,b,hb=>by simp only [List.getElem?_cons_zero,Option.some.injEq] at hb;subst hb;exact⟨blk,h,by simp [e]⟩
 | _,_,.cons h e t,k+1,b,hb=>by
   obtain⟨blk,h1,h2⟩:=t.at k b (by simpa using hb)
   exact⟨blk,h1,by simpa using h2⟩
theorem Fe {P:Program} {L:St} {a b sz n:Nat} {T:TypeId} {x r:LV} {m ag:Bool} {blk':Blk} {bs:List Blk} {l:List (Nat × Blk)} (own:List Nat) (hl:L.heap=hp l) (h:L.slot a=.eptr b sz 0 0) (hb:hp l b=some ⟨sz,[x],m⟩)
  (hx:x.csize=sz) (hat:x.at 0 n ag=some x) (hT:bj P T n ag) (hne:x≠.any∧∀ l,x≠.tup l) (h0:hp l 0=some blk') (hp0:aD blk'.vals=true) (hnd:own.Nodup) (hn0:0∉own) (hdom:∀ c∈l.map (·.1),c≠0→c∈own)
  (hbs:BsOK (hp l) (f9 own) own bs) (hr:r=x.ren (f9 own)):uW P [.cell a T] L r blk' bs :=
 ⟨[x],own,by rw [hl];exact h0,hp0,.cons ⟨b,sz,0,0,_,x,n,ag,h,by rw [hl];exact hb,rfl,rfl,hx,hat,hT⟩ .nil,by simpa using hne,hnd,hn0,fun c hc hh=>hdom c (qD l c (by rwa [hl] at hh)) hc,by rw [hl];exact hbs.at,by rw [hr];rfl⟩
theorem H5 {P:Program} {L:St} {a b sz n:Nat} {T:TypeId} {x r:LV} {m ag:Bool} {bs:List Blk} {l:List (Nat × Blk)} (own:List Nat) (hl:L.heap=hp l) (h:L.slot a=.eptr b sz 0 0) (hb:hp l b=some ⟨sz,[x],m⟩)
  (hx:x.csize=sz) (hat:x.at 0 n ag=some x) (hT:bj P T n ag) (hne:x≠.any∧∀ l,x≠.tup l) (h0:hp l 0=none) (hnd:own.Nodup) (hn0:0∉own) (hdom:∀ c∈l.map (·.1),c≠0→c∈own)
  (hbs:BsOK (hp l) (f9 own) own bs) (hr:r=x.ren (f9 own)):AF P [.cell a T] L r bs :=
 ⟨[x],own,by rw [hl];exact h0,.cons ⟨b,sz,0,0,_,x,n,ag,h,by rw [hl];exact hb,rfl,rfl,hx,hat,hT⟩ .nil,by simpa using hne,hnd,hn0,fun c hc hh=>hdom c (qD l c (by rwa [hl] at hh)) hc,by rw [hl];exact hbs.at,by rw [hr];rfl⟩
theorem gV (o:List (List PoR)) (j:Nat) (g:Nat→Nat):bU o j=⟨(bU o j).sz,cB g (bU o j).vals,(bU o j).mt⟩:=by rw [nC]
theorem yW {B B' n i:Nat} {g:Nat→Nat} (h:∀ j,j<i→g (B+j)=B'+j):(⟨1,fP B' n i,true⟩:Blk)=⟨1,cB g (fP B n i),true⟩:=by rw [mH i h]
theorem mX {x y z u:LV} {b b' i:Nat} {g:Nat→Nat} (hg:g b=b') (hx:x.pure=true) (hy:y.pure=true) (hz:z.pure=true) (hu:u.pure=true):LV.agg [x,y,z,u,.ref b' 1 0 i]=(LV.agg [x,y,z,u,.ref b 1 0 i]).ren g:=by
 simp only [LV.ren,cB,hg,LV.ren_pure _ x hx,LV.ren_pure _ y hy,LV.ren_pure _ z hz,LV.ren_pure _ u hu]
theorem oF {x y z u:LV} {b b' i:Nat} {g:Nat→Nat} (hg:g b=b') (hx:x.pure=true) (hy:y.pure=true) (hz:z.pure=true) (hu:u.pure=true):(⟨5,[LV.agg [x,y,z,u,.ref b' 1 0 i]],true⟩:Blk)=⟨5,cB g [LV.agg [x,y,z,u,.ref b 1 0 i]],true⟩:=by
 rw [mX hg hx hy hz hu];rfl
theorem Fw {P:Program} {ρ:Operand→LV} {d:Nat} {T E:TypeId} {x:Operand} {z:LV} {b sz n:Nat} (hT:P.underlying T=some (.slice E)) (hz:aT P E z) (hE:bj P E 1 false) (hz1:z.csize=1) (hz2:z.isAgg=false) (hl:lay (.ref b sz 0 n)=lay z) (hx:ρ x=.ref b sz 0 n) :
  OpA P ρ d (.buildSlice T 1 #[(0,x)]) (.ref d 1 0 1) ⟨1,[.ref b sz 0 n],true⟩:=by
 have:=OpA.lit (P:=P) (ρ:=ρ) (d:=d) (T:=T) (n:=1) (sz:=1) (ps:=#[(0,x)]) hT hz (by rw [hz2];exact hE) hz1 (by decide) (by decide) (by decide) (by
  intro p hp
  simp only [List.mem_singleton] at hp
  subst hp
  exact⟨Nat.zero_lt_one,by rw [hx];exact hl,by rw [hx];simp,by rw [hx];simp⟩)
 simp only [dk,List.map_cons,List.map_nil,hx] at this
 exact this
namespace J8
theorem bQ {p q:Prop} (k:q) (e:p=q:=by simp only [e1,e2,e3,e4,p1,p2,p3,q1,q2,q3,l1,t0,t1,r1,r2,r3,r4,Nat.zero_add,Nat.reduceMul,Nat.reduceAdd,b1,b2,b3,b4,b5,b6,i1,i2,i3,i4,i5,i6,Nat.reduceBEq,l1,erl,egp,egq,dq,qg,rP,Fk,FR,FM,EJ,DK,lQ,LV.kill,aH,Nat.reduceEqDiff,reduceIte,←jk,hlu,hlv,cb,ae dW,List.length_map,aQ,bo,aW,List.length_cons,List.length_nil,List.length_map,List.set_cons_zero,List.set_cons_succ,Nat.reduceEqDiff,reduceIte,if_true,if_false,aN,aM,ae cA,ae ah,ax,aC,LV.kill,aH,fU];exact rfl):p:=e.mpr k
end J8
open J8 in
theorem sM (l:List Int) (k:Nat) (hl:l.length≤500) (n:Nat) (hn:0<n) (hn6:n≤6) (m:Nat) (hm:m≤2) (hk:k≤500) (h4:sA l k n m≤4):kO Tryz.prog 11 ⟨2,[cW l k],true⟩ [.eptr 0 2 0 0,ai n,ai m] (.agg [ai (sU l k n),ai (sV l k n),.list 3 ((s6 l k n m).map ratL),.list 3 ((s8 l k n m).map ratL),.ref 1 1 0 (sA l k n m)]) ⟨2,[cW l (sE l k n m)],true⟩ [⟨1,fP 2 (sB l k n m) (sA l k n m),true⟩,bU (sR l k n m) 0,bU (sR l k n m) 1,bU (sR l k n m) 2,bU (sR l k n m) 3,⟨5,[.agg [ai (sU l k n),ai (sV l k n),.list 3 ((s6 l k n m).map ratL),.list 3 ((s8 l k n m).map ratL),.ref 1 1 0 (sA l k n m)]],true⟩,⟨5,[.agg [ai (sU l k n),ai (sV l k n),.list 3 ((s6 l k n m).map ratL),.list 3 ((s8 l k n m).map ratL),.ref 1 1 0 (sA l k n m)]],true⟩]:=by
 have hS:=wz l hl hk hn hn6 hm
 have hu1:=hS.u1
 have hun:=hS.un
 have hv1:=hS.v1
 have hvn:=hS.vn
 have hj1:=hS.j1
 have hj2:=hS.j2
 have hj3:=hS.j3
 have hj4:=hS.j4
 have hj5:=hS.j5
 have hlu:=hS.lu
 have hlv:=hS.lv
 have ha8:=hS.a8
 have hb8:=hS.b8
 have hb:=ep (l:=l) (k:=k) (n:=(n:Int)) (by omega)
 have hb1:=ep (l:=l) (k:=eu l k) (n:=(n:Int)) (by omega)
 have hA:cj .add .i64 1 (ga l k (n:Int))=some (.int .i64 (((sU l k n):Nat):Int)):=by rw [hS.ue];exact ez (by omega) (by omega)
 have hA2:cj .add .i64 1 (ga l (eu l k) (n:Int))=some (.int .i64 (((sV l k n):Nat):Int)):=by rw [hS.ve];exact ez (by omega) (by omega)
 have hku:=ak ah 3 (s6 l k n m)
 have hkv:=ak ah 3 (s8 l k n m)
 refine HD Tryz.func11 ?_
 have erl:True:=trivial
 have egp:True:=trivial
 have egq:True:=trivial
 refine cg ?_
 refine bm 0 rfl rfl rfl (aw l _) (.cons .ptr (.cons (.imm (.pure rfl)) .nil)) .ptr (eh l k n (by omega) (by omega) (by omega) (by omega)) rfl (aw l _) rfl ?_
 refine ab rfl (.bin rfl rfl (hA)) ?_
 refine bG ?_
 refine bm 0 rfl rfl rfl (aw l _) (.cons .ptr (.cons (.imm (.pure rfl)) .nil)) .ptr (eh l (eu l k) n (by omega) (by omega) (by omega) (by omega)) rfl (aw l _) rfl ?_
 refine ab rfl (.bin rfl rfl (hA2)) ?_
 refine bJ ?_
 refine cr (fun L=>∃  (L1:St),(True)∧L=((((St.mk L1.slot (hp [(0,⟨2,[cW l (xz l k n m)],true⟩),(6,⟨5,[.agg [.v (.int .i64 0),.v (.int .i64 0),.v (.slice none 0 0),.v (.slice none 0 0),.v (.slice none 0 0)]],true⟩),(7,⟨5,[.agg [ai (sU l k n),ai (sV l k n),.list 3 ((s6 l k n m).map ratL),.list 3 ((s8 l k n m).map ratL),.v (.slice none 0 0)]],true⟩)])).put (some 0) (.eptr 0 2 0 0)).put (some 6) (.eptr 6 5 0 0)).put (some 7) (.eptr 7 5 0 0))) ?_ ?_
 ·refine jO ?_
  refine cd 0 rfl rfl (by decide +kernel) (.move _) ?_
  refine cd 1 rfl rfl (by decide +kernel) gI ?_
  refine cd 3 rfl rfl (by decide +kernel) (.move _) ?_
  refine cd 5 rfl rfl (by decide +kernel) (.move _) ?_
  refine cd 6 rfl rfl (by decide +kernel) gI ?_
  refine cd 8 rfl rfl (by decide +kernel) (.move _) ?_
  refine bY 2 7 _ _ (by decide +kernel) rfl rfl ?_ ?_
  ·refine aL ?_
   refine aj ?_
   refine bY 4 7 _ _ (by decide +kernel) rfl rfl ?_ ?_
   ·refine bm 0 rfl rfl rfl (aw l _) (.cons .ptr (.cons (.imm (.pure rfl)) (.cons (.imm (.pure rfl)) .nil))) .ptr (dN l (uK l k) (by omega) (sU l k n) (by omega) (by omega) m hm (by omega)) rfl (aw l _) (ak ah 3 _) ?_
    refine aj ?_
    refine aq 7 _ (by decide +kernel) rfl ?_
    refine aL ?_
    refine aj ?_
    refine cd 10 rfl rfl (by decide +kernel) gI ?_
    refine aq 9 _ (by decide +kernel) rfl ?_
    refine bm 0 rfl rfl rfl (aw l _) (.cons .ptr (.cons (.imm (.pure rfl)) (.cons (.imm (.pure rfl)) .nil))) .ptr (dN l (uX l k n m) (by omega) (sV l k n) (by omega) (by omega) m hm (by omega)) rfl (aw l _) (ak ah 3 _) ?_
    refine aj ?_
    refine aq 11 _ (by decide +kernel) rfl ?_
    refine aL ?_
    refine aj ?_
    refine aq 12 _ (by decide +kernel) rfl ?_
    refine aL ?_
    refine aj ?_
    refine aq 13 _ (by decide +kernel) rfl ?_
    refine aL ?_
    refine aj ?_
    refine bq (by decide +kernel) ?_
    refine aL ?_
    exact⟨_,trivial,((aa (aa (aa (aJ cl) cl) cl) cl)).symm⟩
   ·refine aL ?_
    refine aj ?_
    refine aq 4 _ (by decide +kernel) rfl ?_
    refine bm 0 rfl rfl rfl (aw l _) (.cons .ptr (.cons (.imm (.pure rfl)) (.cons (.imm (.pure rfl)) .nil))) .ptr (dN l (uK l k) (by omega) (sU l k n) (by omega) (by omega) m hm (by omega)) rfl (aw l _) (ak ah 3 _) ?_
    refine aj ?_
    refine cd 10 rfl rfl (by decide +kernel) gI ?_
    refine aq 9 _ (by decide +kernel) rfl ?_
    refine bm 0 rfl rfl rfl (aw l _) (.cons .ptr (.cons (.imm (.pure rfl)) (.cons (.imm (.pure rfl)) .nil))) .ptr (dN l (uX l k n m) (by omega) (sV l k n) (by omega) (by omega) m hm (by omega)) rfl (aw l _) (ak ah 3 _) ?_
    refine aj ?_
    refine aq 11 _ (by decide +kernel) rfl ?_
    refine aL ?_
    refine aj ?_
    refine aq 12 _ (by decide +kernel) rfl ?_
    refine aL ?_
    refine aj ?_
    refine aq 13 _ (by decide +kernel) rfl ?_
    refine aL ?_
    refine aj ?_
    refine bq (by decide +kernel) ?_
    refine aL ?_
    exact⟨_,trivial,((aa (aa (aa (aJ cl) cl) cl) cl)).symm⟩
  ·refine aL ?_
   refine aj ?_
   refine aq 2 _ (by decide +kernel) rfl ?_
   refine aL ?_
   refine aj ?_
   refine aq 4 _ (by decide +kernel) rfl ?_
   refine bm 0 rfl rfl rfl (aw l _) (.cons .ptr (.cons (.imm (.pure rfl)) (.cons (.imm (.pure rfl)) .nil))) .ptr (dN l (uK l k) (by omega) (sU l k n) (by omega) (by omega) m hm (by omega)) rfl (aw l _) (ak ah 3 _) ?_
   refine aj ?_
   refine cd 10 rfl rfl (by decide +kernel) gI ?_
   refine aq 9 _ (by decide +kernel) rfl ?_
   refine bm 0 rfl rfl rfl (aw l _) (.cons .ptr (.cons (.imm (.pure rfl)) (.cons (.imm (.pure rfl)) .nil))) .ptr (dN l (uX l k n m) (by omega) (sV l k n) (by omega) (by omega) m hm (by omega)) rfl (aw l _) (ak ah 3 _) ?_
   refine aj ?_
   refine aq 11 _ (by decide +kernel) rfl ?_
   refine aL ?_
   refine aj ?_
   refine aq 12 _ (by decide +kernel) rfl ?_
   refine aL ?_
   refine aj ?_
   refine aq 13 _ (by decide +kernel) rfl ?_
   refine aL ?_
   refine aj ?_
   refine bq (by decide +kernel) ?_
   refine aL ?_
   exact⟨_,trivial,((aa (aa (aa (aJ cl) cl) cl) cl)).symm⟩
 ·rintro _ ⟨LR2,-,rfl⟩
  refine bw ?_
  refine bm 0 rfl rfl rfl (aw l _) (.cons .ptr (.cons (.imm (.pure rfl)) .nil)) .ptr (eh l (xz l k n m) 3 (by omega) (by omega) (by omega) (by omega)) rfl (aw l _) rfl ?_
  refine bD ?_
  refine cN (((((((aP.cell 7 rfl (fun Z μ w cs h=>qk 100 1 _ _ _ _ Z μ w cs h))).trans (aP.newB _ 201 12 rfl)).trans (aP.newB _ 202 12 rfl)).trans (aP.newB _ 203 12 rfl)).trans (aP.newB _ 204 12 rfl)).trans (aP.newB _ 100 1 rfl)) ?_
  refine EY (fun(i p c:Nat) (o:List (List PoR)) L=>((((((St.mk L.slot (hp [(0,⟨2,[cW l p],true⟩),(6,⟨5,[.agg [.v (.int .i64 0),.v (.int .i64 0),.v (.slice none 0 0),.v (.slice none 0 0),.v (.slice none 0 0)]],true⟩),(7,⟨5,[.agg [ai (sU l k n),ai (sV l k n),.list 3 ((s6 l k n m).map ratL),.list 3 ((s8 l k n m).map ratL),.ref 100 1 0 i]],true⟩),(201,(bU o 0)),(202,(bU o 1)),(203,(bU o 2)),(204,(bU o 3)),(100,⟨1,fP 201 (sB l k n m) i,true⟩)])).put (some 0) (.eptr 0 2 0 0)).put (some 6) (.eptr 6 5 0 0)).put (some 7) (.eptr 7 5 0 0)).put (some 8) (bL (kM l k n m))).put (some 9) (ai i))) (fun i p c o=>p≤500∧o.length=i∧i+c=(sA l k n m)∧o++yD l (kM l k n m) (sB l k n m) i c p=sR l k n m∧Er l (sB l k n m) c p=sE l k n m) (fun i p c o=>c) 0 (eu l (xz l k n m)) (sA l k n m) ([]) ⟨hj5,rfl,by simp,rfl,rfl⟩ ?_
  rintro i p c o L1 ⟨hp5,hol,hic,hR,hE⟩
  refine cg ?_
  refine ab rfl (.bin rfl rfl (eo (by omega) (by omega))) ?_
  refine ab rfl (.bin rfl rfl (eo (by omega) (by omega))) ?_
  refine bx ?_
  refine an rfl (fun h45r h45=>?_) (fun h45r h45=>?_)
  ·obtain⟨e,rfl⟩:∃ e,c=e+1:=⟨c-1,by omega⟩
   refine ie ?_
   refine cN (aP.own (t:=10) 95 12 rfl rfl) ?_
   refine tp (fun(d q:Nat) (r:List PoR) L=>((((((((St.mk L.slot (hp [(0,⟨2,[cW l q],true⟩),(6,⟨5,[.agg [.v (.int .i64 0),.v (.int .i64 0),.v (.slice none 0 0),.v (.slice none 0 0),.v (.slice none 0 0)]],true⟩),(7,⟨5,[.agg [ai (sU l k n),ai (sV l k n),.list 3 ((s6 l k n m).map ratL),.list 3 ((s8 l k n m).map ratL),.ref 100 1 0 i]],true⟩),(201,(bU o 0)),(202,(bU o 1)),(203,(bU o 2)),(204,(bU o 3)),(100,⟨1,fP 201 (sB l k n m) i,true⟩),(95,⟨12,r.map dX,true⟩)])).put (some 0) (.eptr 0 2 0 0)).put (some 6) (.eptr 6 5 0 0)).put (some 7) (.eptr 7 5 0 0)).put (some 8) (bL (kM l k n m))).put (some 9) (ai i)).put (some 10) (.ref 95 12 0 r.length)).put (some 11) (ai r.length))) (fun d q r=>q≤500∧r.length+d=(sB l k n m)∧r++t7 l (kM l k n m) i r.length d q=t7 l (kM l k n m) i 0 (sB l k n m) p∧wY l q d=wY l p (sB l k n m)) (fun d q r=>d) (sB l k n m) p ([]) ⟨hp5,by simp,rfl,rfl⟩ ?_
   rintro d q r L2 ⟨hq5,hrl,hV,hK⟩
   refine cg ?_
   refine ab rfl (.bin rfl rfl (eo (by omega) (by omega))) ?_
   refine ab rfl (.bin rfl rfl (eo (by omega) (by omega))) ?_
   refine bx ?_
   refine an rfl (fun h56r h56=>?_) (fun h56r h56=>?_)
   ·obtain⟨f,rfl⟩:∃ f,d=f+1:=⟨d-1,by omega⟩
    obtain⟨⟨hx1,hx2,hx3⟩,hx4,_⟩:=Ch l q
    obtain⟨hz1,hz2,hz3,hz4,hz5⟩:=BQ (i:=i) (j:=r.length) hx1 hx2 hx3 (by omega) (by omega)
    skip
    refine bV ?_
    refine bm 0 rfl rfl rfl (aw l _) (.cons .ptr (.cons (.imm (.pure rfl)) .nil)) .ptr (vi l q (by omega) (by omega)) rfl (aw l _) (cA.pure _) ?_
    refine bD ?_
    refine an rfl (fun h62r h62=>?_) (fun h62r h62=>?_)
    ·have hwd:(kM l k n m)=false:=by simpa using h62
     have egp:LV.agg [.agg [ratL (((2*(i:Int):Int):Rat)+(js l q).p.x*(((1:Int):Rat)/((8:Int):Rat))),ratL (((2*(r.length:Int):Int):Rat)+(js l q).p.y*(((1:Int):Rat)/((8:Int):Rat))),ratL ((js l q).p.z*(((1:Int):Rat)/((4:Int):Rat)))],ratL (js l q).w]=dX (ra (kM l k n m) i r.length (js l q)):=by unfold ra;rw [hwd];rfl
     refine aL ?_
     refine au 11 (by decide +kernel) ?_
     refine aL ?_
     refine ab rfl (.bin rfl rfl (l9 (by omega) (by omega))) ?_
     refine cp bK (eO (2*(i:Int)) (by omega) (by omega)) ?_
     refine bx ?_
     refine cp bf (fJ 1 8 (by decide) (by decide) (by decide) (by decide) (by decide)) ?_
     refine cp bf (dA (js l q).p.x _ (by omega)) ?_
     refine cp bf (eX _ _ (by omega)) ?_
     refine bJ ?_
     refine au 11 (by decide +kernel) ?_
     refine aL ?_
     refine ab rfl (.bin rfl rfl (l9 (by omega) (by omega))) ?_
     refine cp bK (eO (2*(r.length:Int)) (by omega) (by omega)) ?_
     refine bx ?_
     refine cp bf (fJ 1 8 (by decide) (by decide) (by decide) (by decide) (by decide)) ?_
     refine cp bf (dA (js l q).p.y _ (by omega)) ?_
     refine cp bf (eX _ _ (by omega)) ?_
     refine ca ?_
     refine au 7 (by decide +kernel) ?_
     refine bx ?_
     refine cp bf (fJ 1 4 (by decide) (by decide) (by decide) (by decide) (by decide)) ?_
     refine cp bf (dA (js l q).p.z _ (by omega)) ?_
     refine cg ?_
     first | refine aK rfl (.appX (d:=95) (news:=[dX (ra (kM l k n m) i r.length (js l q))]) rfl rfl rfl rfl (by simp) (.inl rfl) (by decide) Tryz.underlying60 Tryz.underlying60 ta me cs wS (.inl ⟨94,0,_,rfl,by decide,rfl,rfl,by simp,rfl,by simp [aD,cA.pure]⟩) (by simp;omega) (by simp;omega) (by decide)) ?_ | refine aK rfl (.appX (d:=95) (news:=[dX (js l q)]) rfl rfl rfl rfl (by simp) (.inl rfl) (by decide) Tryz.underlying60 Tryz.underlying60 ta me cs wS (.inl ⟨94,0,_,rfl,by decide,rfl,rfl,by simp,rfl,by simp [aD,cA.pure]⟩) (by simp;omega) (by simp;omega) (by decide)) ?_
     refine bw ?_
     refine aY ((aP.kill _ 94).trans (aP.kill _ 12)) ?_
     refine aL ?_
     refine ab rfl (.bin rfl rfl (a9 (by omega))) ?_
     refine bx ?_
     exact rb f (Cw l q) (r++[ra (kM l k n m) i r.length (js l q)]) ⟨nU hl hq5,by simp;omega,by rw [List.append_assoc,aW];exact hV,hK⟩
    ·have hwd:(kM l k n m)=true:=by simpa using h62
     have egq:r++[(js l q)]=r++[(ra (kM l k n m) i r.length (js l q))]:=by unfold ra;rw [hwd];rfl
     refine bJ ?_
     first | refine aK rfl (.appX (d:=95) (news:=[dX (ra (kM l k n m) i r.length (js l q))]) rfl rfl rfl rfl (by simp) (.inl rfl) (by decide) Tryz.underlying60 Tryz.underlying60 ta me cs wS (.inl ⟨94,0,_,rfl,by decide,rfl,rfl,by simp,rfl,by simp [aD,cA.pure]⟩) (by simp;omega) (by simp;omega) (by decide)) ?_ | refine aK rfl (.appX (d:=95) (news:=[dX (js l q)]) rfl rfl rfl rfl (by simp) (.inl rfl) (by decide) Tryz.underlying60 Tryz.underlying60 ta me cs wS (.inl ⟨94,0,_,rfl,by decide,rfl,rfl,by simp,rfl,by simp [aD,cA.pure]⟩) (by simp;omega) (by simp;omega) (by decide)) ?_
     refine bw ?_
     refine aY ((aP.kill _ 94).trans (aP.kill _ 12)) ?_
     refine aL ?_
     refine ab rfl (.bin rfl rfl (a9 (by omega))) ?_
     refine bx ?_
     exact rb f (Cw l q) (r++[ra (kM l k n m) i r.length (js l q)]) ⟨nU hl hq5,by simp;omega,by rw [List.append_assoc,aW];exact hV,hK⟩
   ·obtain rfl:d=0:=by omega
    rw [t7,List.append_nil] at hV
    rw [wY] at hK
    subst hK
    have erl:r.length=(sB l k n m):=by omega
    refine ca ?_
    refine qO 4 ?_
    simp only [List.take_succ_cons,List.take_zero]
    refine bx ?_
    refine bM rfl rfl (Fw Tryz.underlying37 En rf rfl rfl rfl rfl) ?_
    refine pO rfl (Bf (d:=100) (news:=[.ref 95 12 0 r.length]) rfl rfl rfl rfl rfl (by rw [kP];exact Nat.le_refl _) (.inl rfl) (by decide) Tryz.underlying37 Tryz.underlying37 En rf cs Gd ⟨99,0,_,rfl,by decide,rfl,rfl,by simp,rfl⟩ (by simp;omega) (by simp;omega)) ?_
    simp only [List.drop_succ_cons,List.drop_zero]
    refine ca ?_
    refine aY (aP.kill _ 99) ?_
    refine aL ?_
    refine ab rfl (.bin rfl rfl (a9 (by omega))) ?_
    refine bx ?_
    exact Ev (i+1) (wY l p (sB l k n m)) e (o++[r]) ⟨tK hl _ _ hp5,by simp;omega,by omega,by rw [hV,List.append_assoc];exact hR,hE⟩ (he:=(wO (o:=o) (r:=r) (i:=i) (n:=(sB l k n m)) (by omega) hol rfl (fun c _=>CA (aw l _)) (fun c _=>CA rfl) (fun c h=>Fr rfl rfl hku hkv h)).trans (aP.of_eq (aa (aa (aa (aa (aa (aJ rfl) (y5 (by decide) (by omega))) (y5 (by decide) (by omega))) (y5 (by decide) (by omega))) (Cp rfl)) (Cp rfl))))
  ·obtain rfl:c=0:=by omega
   rw [yD,List.append_nil] at hR
   rw [Er] at hE
   subst hol
   refine bE ?_
   rw [←hE]
   subst hR
   rw [hS.rl]
   exact Fe [100,201,202,203,204,6,7] rfl rfl rfl rfl rfl Ew ⟨by simp,by simp⟩ rfl (aw l _) (by decide) (by decide) (by intro c hc h0;simp at hc ⊢;omega) (.cons rfl (yW (i:=(sA l k n m)) (fun j hj=>by rcases(show j=0∨j=1∨j=2∨j=3 by omega) with rfl | rfl | rfl | rfl<;>rfl)) (.cons rfl (gV _ _ _) (.cons rfl (gV _ _ _) (.cons rfl (gV _ _ _) (.cons rfl (gV _ _ _) (.cons rfl (oF rfl rfl rfl hku hkv) (.cons rfl (oF rfl rfl rfl hku hkv) .nil))))))) (mX rfl rfl rfl hku hkv)
theorem BV {l:List (Nat × Blk)} {c:Nat} (h:∀ x∈l.map (·.1),c≠x):hp l c=none:=by
 by_cases e:hp l c=none
 ·exact e
 ·exact absurd rfl (h c (qD l c e))
theorem r9 (o:List (List PoR)) (j:Nat) (g:Nat→Nat):(⟨(bU o j).sz,cB g (bU o j).vals,(bU o j).mt⟩:Blk)=bU o j:=by rw [nC]
theorem xn (b d k n i:Nat) (h:k≠0):cB (dg b d) (fP k n i)=fP (aV d k) n i:=mH i fun j hj=>by
 unfold dg aV
 rw [if_neg (by omega)];omega
theorem o9 (b d n i:Nat):cB (dg b d) (fP 2 n i)=fP (1000000+d*16+2) n i:=xn b d 2 n i (by decide)
theorem Cf (b d:Nat):dg b d 1=1000000+d*16+1:=rfl
theorem BT (b d:Nat):dg b d 2=1000000+d*16+2:=rfl
theorem BP (b d:Nat):dg b d 3=1000000+d*16+3:=rfl
theorem Cz (b d:Nat):dg b d 4=1000000+d*16+4:=rfl
theorem BX (b d:Nat):dg b d 5=1000000+d*16+5:=rfl
theorem CF (b d:Nat):dg b d 6=1000000+d*16+6:=rfl
theorem BU (b d:Nat):dg b d 7=1000000+d*16+7:=rfl
theorem Cn (b d:Nat):dg b d 8=1000000+d*16+8:=rfl
theorem CC (b d:Nat):dg b d 9=1000000+d*16+9:=rfl
theorem uS (a b:Nat) (k m:List Rat) (c i:Nat) (g:Nat→Nat):(LV.agg [ai a,ai b,.list 3 (k.map ratL),.list 3 (m.map ratL),.ref c 1 0 i]).ren g=.agg [ai a,ai b,.list 3 (k.map ratL),.list 3 (m.map ratL),.ref (g c) 1 0 i] :=
 (mX rfl rfl rfl (ak ah 3 k) (ak ah 3 m)).symm
theorem Co (g:Nat→Nat) (x:LV):cB g [x]=[x.ren g]:=rfl
theorem sK (l:List Int) (k:Nat) (g:Nat→Nat):(cW l k).ren g=cW l k:=LV.ren_pure g _ (dC (aw l k)).1
namespace Ml
theorem bQ {p q:Prop} (k:q) (e:p=q:=by simp only [e1,e2,e3,e4,p1,p2,p3,q1,q2,q3,l1,t0,t1,r1,r2,r3,r4,Nat.zero_add,Nat.reduceMul,Nat.reduceAdd,b1,b2,b3,b4,b5,b6,i1,i2,i3,i4,i5,i6,Nat.reduceBEq,jm,Cf,BT,BP,Cz,BX,CF,BU,Cn,CC,uS,Co,sK,r9,o9,Nat.reduceMul,Nat.reduceAdd,dq,qg,fU,List.set_cons_zero,List.set_cons_succ,Nat.reduceEqDiff,reduceIte,if_true,if_false,aN,aM,ae cA,ae ah,ax,aC,LV.kill,aH,fU];exact rfl):p:=e.mpr k
end Ml
open Ml in
theorem wv (l:List Int) (hl5:l.length≤500):dB Tryz.prog 22 [.list 1 (l.map gi)] (.agg [ai (sU l 0 3),ai (sV l 0 3),.list 3 ((iF (sU l 0 3) (wX l 0 3) ((wX l 0 3)+1)).map ratL),.list 3 ((iF (sV l 0 3) (wV l 0 3) ((wV l 0 3)+1)).map ratL),.ref 1 1 0 (sA l 0 3 0)]) [⟨1,fP 2 (sB l 0 3 0) (sA l 0 3 0),true⟩,bU (sR l 0 3 0) 0,bU (sR l 0 3 0) 1,bU (sR l 0 3 0) 2,bU (sR l 0 3 0) 3,⟨5,[.agg [ai (sU l 0 3),ai (sV l 0 3),.list 3 ((iF (sU l 0 3) (wX l 0 3) ((wX l 0 3)+1)).map ratL),.list 3 ((iF (sV l 0 3) (wV l 0 3) ((wV l 0 3)+1)).map ratL),.ref 1 1 0 (sA l 0 3 0)]],true⟩,⟨5,[.agg [ai (sU l 0 3),ai (sV l 0 3),.list 3 ((iF (sU l 0 3) (wX l 0 3) ((wX l 0 3)+1)).map ratL),.list 3 ((iF (sV l 0 3) (wV l 0 3) ((wV l 0 3)+1)).map ratL),.ref 1 1 0 (sA l 0 3 0)]],true⟩,⟨2,[cW l (sE l 0 3 0)],true⟩,⟨5,[.agg [ai (sU l 0 3),ai (sV l 0 3),.list 3 ((iF (sU l 0 3) (wX l 0 3) ((wX l 0 3)+1)).map ratL),.list 3 ((iF (sV l 0 3) (wV l 0 3) ((wV l 0 3)+1)).map ratL),.ref 1 1 0 (sA l 0 3 0)]],true⟩]:=by
 have h4:(sA l 0 3 0)≤4:=by
  have h1:=(wz l hl5 (Nat.zero_le 500) (show 0<3 by decide) (by decide) (show 0≤2 by decide)).un
  have h2:=(lJ l (uK l 0) 0).2
  unfold sA;omega
 have hS:=sM l 0 hl5 3 (by decide) (by decide) 0 (by decide) (Nat.zero_le _) h4
 rw [xF l 0 3,yh l 0 3] at hS
 have hku:=ak ah 3 (iF (sU l 0 3) (wX l 0 3) ((wX l 0 3)+1))
 have hkv:=ak ah 3 (iF (sV l 0 3) (wV l 0 3) ((wV l 0 3)+1))
 refine Hm Tryz.func22 ?_
 refine bJ ?_
 refine qO 2 ?_
 simp only [List.take_succ_cons,List.take_zero]
 refine aL ?_
 refine gc [] rfl rfl (.cons fR .nil) (x6 l) (aw l 0) rfl ?_
 refine bQ ?_
 refine pO rfl (uo 5 rfl rfl rfl (aw l _) (.cons .ptr (.cons (.imm (.pure rfl)) (.cons (.imm (.pure rfl)) .nil))) .ptr hS (aw l _) (by simp) (fun k hk=>BV (by intro x hx;simp at hx;unfold aV;omega))) ?_
 simp only [List.drop_succ_cons,List.drop_zero]
 refine bw ?_
 exact H5 [1000081,1000082,1000083,1000084,1000085,1000086,1000087,1000065,2] rfl rfl rfl rfl rfl Ew ⟨by simp,by simp⟩ rfl (by decide) (by decide) (by intro c hc h0;simp at hc ⊢;omega) (.cons rfl (yW (i:=(sA l 0 3 0)) (fun j hj=>by rcases(show j=0∨j=1∨j=2∨j=3 by omega) with rfl | rfl | rfl | rfl<;>rfl)) (.cons rfl (gV _ _ _) (.cons rfl (gV _ _ _) (.cons rfl (gV _ _ _) (.cons rfl (gV _ _ _) (.cons rfl (oF rfl rfl rfl hku hkv) (.cons rfl (oF rfl rfl rfl hku hkv) (.cons rfl (by rw [dM _ _ (aw l _)]) (.cons rfl (oF rfl rfl rfl hku hkv) .nil))))))))) (mX rfl rfl rfl hku hkv)
def Es (U V:Nat) (rows:List (List PoR)):Int:=if rows.length=U+1∧(rows.getD 0 []).length=V+1 then 0 else 5
theorem lM {U V:Nat} {rows:List (List PoR)} (h1:rows.length=U+1) (h2:(rows.getD 0 []).length=V+1):Es U V rows=0:=if_pos ⟨h1,h2⟩
theorem lF {U V:Nat} {rows:List (List PoR)} (h1:rows.length≠U+1):Es U V rows=5:=if_neg fun h=>h1 h.1
theorem lz {U V:Nat} {rows:List (List PoR)} (h1:(rows.getD 0 []).length≠V+1):Es U V rows=5:=if_neg fun h=>h1 h.2
theorem zL {q:PoR} (h:jN 64 q):Ek [q.p.x,q.p.y,q.p.z,q.w]=true:=by
 obtain⟨⟨h1,h2,h3⟩,h4,_⟩:=h
 refine tN (R:=64) (Nat.le_refl _) fun x hx=>?_
 simp only [List.mem_cons,List.not_mem_nil,or_false] at hx
 rcases hx with rfl | rfl | rfl | rfl<;>assumption
theorem Ba {q:PoR} (h:jN 64 q):∀ x∈[q.p.x,q.p.y,q.p.z,q.w],rl x≤1000000:=fun x hx=>by
 obtain⟨⟨h1,h2,h3⟩,h4,_⟩:=h
 simp only [List.mem_cons,List.not_mem_nil,or_false] at hx
 rcases hx with rfl | rfl | rfl | rfl
 ·exact Nat.le_trans h1 (by decide)
 ·exact Nat.le_trans h2 (by decide)
 ·exact Nat.le_trans h3 (by decide)
 ·exact Nat.le_trans h4 (by decide)
namespace Kd
theorem bQ {p q:Prop} (k:q) (e:p=q:=by simp only [e1,e2,e3,e4,p1,p2,p3,q1,q2,q3,l1,t0,t1,r1,r2,r3,r4,Nat.zero_add,Nat.reduceMul,Nat.reduceAdd,b1,b2,b3,b4,b5,b6,i1,i2,i3,i4,i5,i6,Nat.reduceBEq,bu,dE,hsU,hsV,List.length_map,cb,ae dW,dE,dU,aQ,bo,aW,List.length_cons,List.length_nil,List.nil_append,List.map_nil,List.take_nil,List.append_nil,List.set_cons_zero,List.set_cons_succ,Nat.reduceEqDiff,reduceIte,if_true,if_false,aN,aM,ae cT,ae cA,ae ah,ax,aC,LV.kill,aH];exact rfl):p:=e.mpr k
end Kd
open Kd in
theorem xl (U V:Nat) (kU kV:List Rat) (rows:List (List PoR)) (hkU:kOK kU U) (hkV:kOK kV V) (hn:rows.length=kU.length-U-1) (hm:∀ r∈rows,r.length=kV.length-V-1) (hq:∀ r∈rows,∀ q∈r,jN 64 q):ap Tryz.prog 89 [.agg [ai U,ai V,.list 3 (kU.map ratL),.list 3 (kV.map ratL),.list 1 (rows.map bu)]] (iL 0):=by
 have hsp:LV.pure (.agg [ai U,ai V,.list 3 (kU.map ratL),.list 3 (kV.map ratL),.list 1 (rows.map bu)])=true:=by simp [LV.pure,aD,al ah,al dW]
 have hU1:=hkU.d1
 have hU6:=hkU.d6
 have hUl:=hkU.len
 have hUm:=hkU.max
 have hV1:=hkV.d1
 have hV6:=hkV.d6
 have hVl:=hkV.len
 have hVm:=hkV.max
 have hrU:∀ x∈kU,rl x≤1000000:=fun x hx=>Nat.le_trans (hkU.sz x hx) (by decide)
 have hrV:∀ x∈kV,rl x≤1000000:=fun x hx=>Nat.le_trans (hkV.sz x hx) (by decide)
 have hsU:=tN (R:=64) (Nat.le_refl _) hkU.sz
 have hsV:=tN (R:=64) (Nat.le_refl _) hkV.sz
 refine bS Tryz.func89 ?_
 refine bD ?_
 refine cp bK (pI kU (by omega) (fun x hx=>Nat.le_trans (hrU x hx) (by decide))) ?_
 refine bG ?_
 refine ab (ao (v:=false) rfl rfl ((rfl)) rfl) gI ?_
 refine ab (ao (v:=false) rfl rfl ((rfl)) rfl) fS ?_
 refine ci (ao (v:=false) rfl rfl ((rfl)) rfl) (.cons fR .nil) (pI kV (by omega) (fun x hx=>Nat.le_trans (hrV x hx) (by decide))) ?_
 refine ab (ao (v:=false) rfl rfl ((rfl)) rfl) (.not rfl) ?_
 refine ab rfl (.pickF rfl ((rfl))) ?_
 refine bG ?_
 refine bb (b:=_) rfl (rfl) ?_
 refine cg ?_
 refine gE (fun(i:Nat) L=>(((St.mk L.slot (hp [(1,⟨5,[.agg [ai U,ai V,.list 3 (kU.map ratL),.list 3 (kV.map ratL),.list 1 (rows.map bu)]],true⟩)])).put (some 1) (.eptr 1 5 0 0)).put (some 3) (ai i))) (fun i=>i≤rows.length) (fun i=>rows.length-i) 0 (Nat.zero_le _) ?_
 rintro i L1 hi
 refine bv ?_
 refine an rfl (fun h26r h26=>?_) (fun h26r h26=>?_)
 ·have hi2:i<rows.length:=by omega
  have hrm:=cm hi2
  have hrl:=hm _ hrm
  refine bv ?_
  refine gE (fun(j:Nat) L=>((((St.mk L.slot (hp [(1,⟨5,[.agg [ai U,ai V,.list 3 (kU.map ratL),.list 3 (kV.map ratL),.list 1 (rows.map bu)]],true⟩)])).put (some 1) (.eptr 1 5 0 0)).put (some 3) (ai i)).put (some 4) (ai j))) (fun j=>j≤(rows.getD i []).length) (fun j=>(rows.getD i []).length-j) 0 (Nat.zero_le _) ?_
  rintro j L2 hj
  refine ct ?_
  refine an rfl (fun h36r h36=>?_) (fun h36r h36=>?_)
  ·have hj2:j<(rows.getD i []).length:=by omega
   obtain⟨o1,o4,o5⟩:=hq _ hrm _ (dl hj2)
   refine en ?_
   refine cp bK (ux ((rows.getD i []).getD j default).p ⟨Nat.le_trans o1.1 (by decide),Nat.le_trans o1.2.1 (by decide),Nat.le_trans o1.2.2 (by decide)⟩) ?_
   refine bG ?_
   refine ab (ao (v:=false) rfl rfl ((rfl)) rfl) gI ?_
   refine ab (ao (v:=false) rfl rfl ((rfl)) rfl) fS ?_
   refine ab (ao (v:=false) rfl rfl ((rfl)) rfl) (.move _) ?_
   refine ab (ao (v:=false) rfl rfl ((rfl)) rfl) qN ?_
   refine ab (ao (v:=false) rfl rfl ((rfl)) rfl) fS ?_
   refine ab (ao (v:=false) rfl rfl ((rfl)) rfl) (.move _) ?_
   refine ab (ao (v:=false) rfl rfl ((rfl)) rfl) qN ?_
   refine ab (ao (v:=false) rfl rfl ((rfl)) rfl) gI ?_
   refine ab (ao (v:=false) rfl rfl ((rfl)) rfl) fS ?_
   refine ci (ao (v:=false) rfl rfl ((rfl)) rfl) (.cons fR .nil) (iz ((rows.getD i []).getD j default).w (by omega)) ?_
   refine ab (ao (v:=false) rfl rfl ((rfl)) rfl) (.not rfl) ?_
   refine ab rfl (.pickF rfl ((rfl))) ?_
   refine bG ?_
   refine bb (b:=_) rfl (rfl) ?_
   refine ca ?_
   refine ab rfl (.bin rfl rfl (a9 (by omega))) ?_
   refine bx ?_
   exact fA (j+1) (by omega)
  ·refine cx ?_
   refine ab rfl (.bin rfl rfl (a9 (by omega))) ?_
   refine bx ?_
   exact fA (i+1) (by omega)
 ·refine bE ?_
  refine cp bf (oY kU U hkU) ?_
  refine cg ?_
  refine bb (b:=_) rfl (rfl) ?_
  refine cg ?_
  refine cp bf (oY kV V hkV) ?_
  refine cg ?_
  refine bb (b:=_) rfl (rfl) ?_
  refine bw ?_
  refine au 9 (by decide +kernel) ?_
  refine bV ?_
  refine cp bf (lS kU U (by omega) (by omega)) ?_
  refine bx ?_
  refine an rfl (fun h87r h87=>?_) (fun h87r h87=>?_)
  ·omega
  ·refine cg ?_
   refine gE (fun(i:Nat) L=>(((St.mk L.slot (hp [(1,⟨5,[.agg [ai U,ai V,.list 3 (kU.map ratL),.list 3 (kV.map ratL),.list 1 (rows.map bu)]],true⟩)])).put (some 1) (.eptr 1 5 0 0)).put (some 7) (ai i))) (fun i=>i≤rows.length) (fun i=>rows.length-i) 0 (Nat.zero_le _) ?_
   rintro i L3 hi
   refine bv ?_
   refine an rfl (fun h92r h92=>?_) (fun h92r h92=>?_)
   ·have hi2:i<rows.length:=by omega
    have hrm:=cm hi2
    have hrl:=hm _ hrm
    refine ca ?_
    refine au 12 (by decide +kernel) ?_
    refine bv ?_
    refine cp bf (lS kV V (by omega) (by omega)) ?_
    refine bx ?_
    refine an rfl (fun h106r h106=>?_) (fun h106r h106=>?_)
    ·omega
    ·refine ca ?_
     refine ab rfl (.bin rfl rfl (a9 (by omega))) ?_
     refine bx ?_
     exact fA (i+1) (by omega)
   ·refine cg ?_
    refine cp bK (nV kU (by omega) hrU) ?_
    refine aL ?_
    refine ab (ao (v:=true) rfl rfl (hsU) rfl) gI ?_
    refine ab (ao (v:=true) rfl rfl (hsU) rfl) fS ?_
    refine ci (ao (v:=true) rfl rfl (hsU) rfl) (.cons fR .nil) (nV kV (by omega) hrV) ?_
    refine ab rfl (.pickT rfl (hsU)) ?_
    refine bv ?_
    refine gE (fun(i:Nat) L=>((((St.mk L.slot (hp [(1,⟨5,[.agg [ai U,ai V,.list 3 (kU.map ratL),.list 3 (kV.map ratL),.list 1 (rows.map bu)]],true⟩)])).put (some 1) (.eptr 1 5 0 0)).put (some 8) (bL true)).put (some 9) (ai i))) (fun i=>i≤rows.length) (fun i=>rows.length-i) 0 (Nat.zero_le _) ?_
    rintro i L4 hi
    refine bv ?_
    refine an rfl (fun h119r h119=>?_) (fun h119r h119=>?_)
    ·have hi2:i<rows.length:=by omega
     have hrm:=cm hi2
     have hrl:=hm _ hrm
     refine bv ?_
     refine gE (fun(j:Nat) L=>(((((St.mk L.slot (hp [(1,⟨5,[.agg [ai U,ai V,.list 3 (kU.map ratL),.list 3 (kV.map ratL),.list 1 (rows.map bu)]],true⟩)])).put (some 1) (.eptr 1 5 0 0)).put (some 8) (bL true)).put (some 9) (ai i)).put (some 10) (ai j))) (fun j=>j≤(rows.getD i []).length) (fun j=>(rows.getD i []).length-j) 0 (Nat.zero_le _) ?_
     rintro j L5 hj
     refine ct ?_
     refine an rfl (fun h129r h129=>?_) (fun h129r h129=>?_)
     ·have hj2:j<(rows.getD i []).length:=by omega
      obtain⟨o1,o4,o5⟩:=hq _ hrm _ (dl hj2)
      have hSh:ap Tryz.prog 170 [.list 3 ([((rows.getD i []).getD j default).p.x,((rows.getD i []).getD j default).p.y,((rows.getD i []).getD j default).p.z,((rows.getD i []).getD j default).w].map ratL)] (bL true):=by
       have:=nV [((rows.getD i []).getD j default).p.x,((rows.getD i []).getD j default).p.y,((rows.getD i []).getD j default).p.z,((rows.getD i []).getD j default).w] (by simp) (Ba (hq _ hrm _ (dl hj2)))
       rwa [zL (hq _ hrm _ (dl hj2))] at this
      refine uv ?_
      refine cp bK (pQ ((rows.getD i []).getD j default).w) ?_
      refine bx ?_
      refine an rfl (fun h143r h143=>?_) (fun h143r h143=>?_)
      ·have:=u9 o5
       omega
      ·refine ca ?_
       refine bT 145 rfl (fun h145r h145=>?_) (fun h145r h145=>?_)
       ·refine bE ?_
        refine s5 [157] s4 (hSh) ?_
        refine ca ?_
        refine aY ((aP.kill _ 11).trans (aP.kill _ 157)) ?_
        refine aL ?_
        refine ab rfl (.bin rfl rfl (a9 (by omega))) ?_
        refine bx ?_
        exact fA (j+1) (by omega)
       ·first | cases h145r | exact absurd h145r (by decide)
     ·refine cx ?_
      refine ab rfl (.bin rfl rfl (a9 (by omega))) ?_
      refine bx ?_
      exact fA (i+1) (by omega)
    ·refine bE ?_
     refine an rfl (fun h161r h161=>?_) (fun h161r h161=>?_)
     ·first | exact h161.elim | cases h161r | exact absurd h161r (by decide)
     ·refine cx ?_
      exact aS rfl (.pure rfl)
namespace Lq
theorem bQ {p q:Prop} (k:q) (e:p=q:=by simp only [e1,e2,e3,e4,p1,p2,p3,q1,q2,q3,l1,t0,t1,r1,r2,r3,r4,Nat.zero_add,Nat.reduceMul,Nat.reduceAdd,b1,b2,b3,b4,b5,b6,i1,i2,i3,i4,i5,i6,Nat.reduceBEq,bu,dE,List.length_map,cb,ae dW,dE,dU,aQ,bo,aW,List.length_cons,List.length_nil,List.nil_append,List.map_nil,List.take_nil,List.append_nil,List.set_cons_zero,List.set_cons_succ,Nat.reduceEqDiff,reduceIte,if_true,if_false,aN,aM,ae cT,ae cA,ae ah,ax,aC,LV.kill,aH];exact rfl):p:=e.mpr k
end Lq
open Lq in
theorem A2 (U V:Nat) (kU kV:List Rat) (rows:List (List PoR)) (hkU:kOK kU U) (hkV:kOK kV V) (hn:rows.length=kU.length-U-1) (hm:∀ r∈rows,r.length=kV.length-V-1) (hq:∀ r∈rows,∀ q∈r,jN 64 q):ap Tryz.prog 29 [.agg [ai U,ai V,.list 3 (kU.map ratL),.list 3 (kV.map ratL),.list 1 (rows.map bu)]] (iL (Es U V rows)):=by
 have hsp:LV.pure (.agg [ai U,ai V,.list 3 (kU.map ratL),.list 3 (kV.map ratL),.list 1 (rows.map bu)])=true:=by simp [LV.pure,aD,al ah,al dW]
 have hU1:=hkU.d1
 have hU6:=hkU.d6
 have hUl:=hkU.len
 have hUm:=hkU.max
 have hV1:=hkV.d1
 have hV6:=hkV.d6
 have hVl:=hkV.len
 have hVm:=hkV.max
 refine bS Tryz.func29 ?_
 refine bv ?_
 refine cp bK (rL U V kU kV rows hkU hkV hn hm hq) ?_
 refine cg ?_
 refine bb (b:=_) rfl (rfl) ?_
 refine bw ?_
 refine au 18 (by decide +kernel) ?_
 refine ca ?_
 refine ab rfl (.bin rfl rfl (a9 (by omega))) ?_
 refine bG ?_
 refine bT 16 rfl (fun h16r h16=>?_) (fun h16r h16=>?_)
 ·refine ib ?_
  first | (rw [lF (by first | omega | (intro e;simp_all;done) | (simp_all;omega))];exact aS rfl (.pure rfl)) | (rw [lz (by first | omega | (intro e;simp_all;done) | (simp_all;omega))];exact aS rfl (.pure rfl)) | (rw [lM (by first | omega | (simp_all;done)) (by first | omega | (simp_all;done))];exact aS rfl (.pure rfl))
 ·refine bV ?_
  refine ab (ao (v:=false) rfl rfl (h16r) rfl) (.bin rfl rfl (a9 (by omega))) ?_
  refine bw ?_
  refine an rfl (fun h26r h26=>?_) (fun h26r h26=>?_)
  ·refine bV ?_
   first | (rw [lF (by first | omega | (intro e;simp_all;done) | (simp_all;omega))];exact aS rfl (.pure rfl)) | (rw [lz (by first | omega | (intro e;simp_all;done) | (simp_all;omega))];exact aS rfl (.pure rfl)) | (rw [lM (by first | omega | (simp_all;done)) (by first | omega | (simp_all;done))];exact aS rfl (.pure rfl))
  ·refine cx ?_
   first | (rw [lF (by first | omega | (intro e;simp_all;done) | (simp_all;omega))];exact aS rfl (.pure rfl)) | (rw [lz (by first | omega | (intro e;simp_all;done) | (simp_all;omega))];exact aS rfl (.pure rfl)) | (rw [lM (by first | omega | (simp_all;done)) (by first | omega | (simp_all;done))];exact aS rfl (.pure rfl))
namespace Kp
theorem bQ {p q:Prop} (k:q) (e:p=q:=by simp only [e1,e2,e3,e4,p1,p2,p3,q1,q2,q3,l1,t0,t1,r1,r2,r3,r4,Nat.zero_add,Nat.reduceMul,Nat.reduceAdd,b1,b2,b3,b4,b5,b6,i1,i2,i3,i4,i5,i6,Nat.reduceBEq,bu,dE,List.length_map,cb,ae dW,dE,dU,aQ,bo,aW,List.length_cons,List.length_nil,List.nil_append,List.map_nil,List.take_nil,List.append_nil,List.set_cons_zero,List.set_cons_succ,Nat.reduceEqDiff,reduceIte,if_true,if_false,aN,aM,ae cT,ae cA,ae ah,ax,aC,LV.kill,aH];exact rfl):p:=e.mpr k
end Kp
open Kp in
theorem yH (U V:Nat) (kU kV:List Rat) (rows:List (List PoR)) (hkU:kOK kU U) (hkV:kOK kV V) (hn:rows.length=kU.length-U-1) (hm:∀ r∈rows,r.length=kV.length-V-1) (hq:∀ r∈rows,∀ q∈r,jN 64 q):ap Tryz.prog 30 [.agg [ai U,ai V,.list 3 (kU.map ratL),.list 3 (kV.map ratL),.list 1 (rows.map bu)]] (iL (Es U V rows)):=by
 have hsp:LV.pure (.agg [ai U,ai V,.list 3 (kU.map ratL),.list 3 (kV.map ratL),.list 1 (rows.map bu)])=true:=by simp [LV.pure,aD,al ah,al dW]
 have hU1:=hkU.d1
 have hU6:=hkU.d6
 have hUl:=hkU.len
 have hUm:=hkU.max
 have hV1:=hkV.d1
 have hV6:=hkV.d6
 have hVl:=hkV.len
 have hVm:=hkV.max
 refine bS Tryz.func30 ?_
 refine bv ?_
 refine cp bK (xl U V kU kV rows hkU hkV hn hm hq) ?_
 refine cg ?_
 refine bb (b:=_) rfl (rfl) ?_
 refine bw ?_
 refine au 18 (by decide +kernel) ?_
 refine ca ?_
 refine ab rfl (.bin rfl rfl (a9 (by omega))) ?_
 refine bG ?_
 refine bT 16 rfl (fun h16r h16=>?_) (fun h16r h16=>?_)
 ·refine ib ?_
  first | (rw [lF (by first | omega | (intro e;simp_all;done) | (simp_all;omega))];exact aS rfl (.pure rfl)) | (rw [lz (by first | omega | (intro e;simp_all;done) | (simp_all;omega))];exact aS rfl (.pure rfl)) | (rw [lM (by first | omega | (simp_all;done)) (by first | omega | (simp_all;done))];exact aS rfl (.pure rfl))
 ·refine bV ?_
  refine ab (ao (v:=false) rfl rfl (h16r) rfl) (.bin rfl rfl (a9 (by omega))) ?_
  refine bw ?_
  refine an rfl (fun h26r h26=>?_) (fun h26r h26=>?_)
  ·refine bV ?_
   first | (rw [lF (by first | omega | (intro e;simp_all;done) | (simp_all;omega))];exact aS rfl (.pure rfl)) | (rw [lz (by first | omega | (intro e;simp_all;done) | (simp_all;omega))];exact aS rfl (.pure rfl)) | (rw [lM (by first | omega | (simp_all;done)) (by first | omega | (simp_all;done))];exact aS rfl (.pure rfl))
  ·refine cx ?_
   first | (rw [lF (by first | omega | (intro e;simp_all;done) | (simp_all;omega))];exact aS rfl (.pure rfl)) | (rw [lz (by first | omega | (intro e;simp_all;done) | (simp_all;omega))];exact aS rfl (.pure rfl)) | (rw [lM (by first | omega | (simp_all;done)) (by first | omega | (simp_all;done))];exact aS rfl (.pure rfl))
def mS (l:List PoR):Bool:=l.all fun q=>gF q.p (l.getD 0 default).p
def fI (rows:List (List PoR)) (j:Nat):List PoR:=rows.map fun r=>r.getD j default
theorem zc (p q:V3):gF p q=gF q p:=by
 by_cases h:p=q
 ·subst h;rfl
 ·have h1:gF p q=false:=by rw [←Bool.not_eq_true,mY];exact h
  have h2:gF q p=false:=by rw [←Bool.not_eq_true,mY];exact fun e=>h e.symm
  rw [h1,h2]
theorem DD (p:V3):gF p p=true:=mY.2 rfl
theorem dH (rows:List (List PoR)) (j:Nat):(fI rows j).length=rows.length:=by simp [fI]
theorem mD {R j V:Nat} {rows:List (List PoR)} (h:∀ r∈rows,∀ q∈r,jN R q) (hm:∀ r∈rows,r.length=V+1) (hj:j<V+1):∀ q∈fI rows j,jN R q:=fun q hq=>by
 obtain⟨r,hr,rfl⟩:=List.mem_map.1 hq
 exact h r hr _ (dl (by rw [hm r hr];exact hj))
theorem pc {rows:List (List PoR)} {j i:Nat} (h:i<rows.length):(fI rows j).take i++[(rows.getD i []).getD j default]=(fI rows j).take (i+1):=by
 have h2:i<(fI rows j).length:=by rw [dH];exact h
 rw [List.take_succ_eq_append_getElem h2]
 congr 2
 simp [fI,List.getD_eq_getElem?_getD,List.getElem?_eq_getElem h]
namespace Mu
theorem bQ {p q:Prop} (k:q) (e:p=q:=by simp only [e1,e2,e3,e4,p1,p2,p3,q1,q2,q3,l1,t0,t1,r1,r2,r3,r4,Nat.zero_add,Nat.reduceMul,Nat.reduceAdd,b1,b2,b3,b4,b5,b6,i1,i2,i3,i4,i5,i6,Nat.reduceBEq,dU,eij,List.set_cons_zero,List.set_cons_succ,Nat.reduceEqDiff,reduceIte,if_true,if_false,aN,aM,ae cT,ae cA,ae ah,ax,aC,LV.kill,aH];exact rfl):p:=e.mpr k
end Mu
open Mu in
theorem uO (l:List PoR) (h0:0<l.length) (hl:l.length≤1000) (hq:∀ q∈l,jN 1000000 q):ap Tryz.prog 94 [.list 12 (l.map dX)] (bL (mS l)):=by
 refine bS Tryz.func94 ?_
 have eij:True:=trivial
 refine dI ?_
 refine gE (fun(i:Nat) L=>(((((St.mk L.slot (hp [])).put (some 0) (.list 12 (l.map dX))).put (some 5) (.list 12 (l.map dX))).put (some 6) (ai l.length)).put (some 7) (ai i))) (fun i=>i≤l.length∧∀ j,j<i→gF (l.getD j default).p (l.getD 0 default).p=true) (fun i=>l.length-i) 0 ⟨Nat.zero_le _,fun j hj=>absurd hj (Nat.not_lt_zero j)⟩ ?_
 rintro i L1 ⟨hi,hs⟩
 refine bJ ?_
 refine an rfl (fun h8r h8=>?_) (fun h8r h8=>?_)
 ·have hi2:i<l.length:=by omega
  obtain⟨o1,_,_⟩:=hq _ (dl hi2)
  obtain⟨z1,_,_⟩:=hq _ (dl h0)
  refine ct ?_
  refine au 8 (by decide +kernel) ?_
  refine bJ ?_
  refine cp bf (uR (l.getD i default).p (l.getD 0 default).p ⟨Nat.le_trans o1.1 (by decide),Nat.le_trans o1.2.1 (by decide),Nat.le_trans o1.2.2 (by decide)⟩ ⟨Nat.le_trans z1.1 (by decide),Nat.le_trans z1.2.1 (by decide),Nat.le_trans z1.2.2 (by decide)⟩) ?_
  refine bx ?_
  refine an rfl (fun h18r h18=>?_) (fun h18r h18=>?_)
  ·have hV:mS l=false:=tC (f:=fun q:PoR=>gF q.p (l.getD 0 default).p) (l:=l) hi2 (by first | exact h17 | simpa using h18 | simpa using h18r)
   refine bD ?_
   rw [hV]
   exact aS rfl (.pure rfl)
  ·have hn:∀ j,j<i+1→gF (l.getD j default).p (l.getD 0 default).p=true:=fun j hj=>by
    rcases Nat.lt_succ_iff_lt_or_eq.1 hj with e | rfl
    ·exact hs j e
    ·first | simpa using h18 | simpa using h18r
   refine bx ?_
   refine aY (aP.kill _ 4) ?_
   refine ab rfl (.bin rfl rfl (a9 (by omega))) ?_
   refine bx ?_
   exact fA (i+1) ⟨by omega,hn⟩
 ·obtain rfl:i=l.length:=by omega
  have hV:mS l=true:=tU (f:=fun q:PoR=>gF q.p (l.getD 0 default).p) (l:=l) hs
  refine dI ?_
  refine aS (x:=bL (decide ((l.length:Int) > 0))) rfl ?_
  have hz:decide ((l.length:Int) > 0)=true:=decide_eq_true (by omega)
  rw [hz,hV]
  exact .pure rfl
namespace KU
theorem bQ {p q:Prop} (k:q) (e:p=q:=by simp only [e1,e2,e3,e4,p1,p2,p3,q1,q2,q3,l1,t0,t1,r1,r2,r3,r4,Nat.zero_add,Nat.reduceMul,Nat.reduceAdd,b1,b2,b3,b4,b5,b6,i1,i2,i3,i4,i5,i6,Nat.reduceBEq,dU,List.set_cons_zero,List.set_cons_succ,Nat.reduceEqDiff,reduceIte,if_true,if_false,aN,aM,ae cT,ae cA,ae ah,ax,aC,LV.kill,aH];exact rfl):p:=e.mpr k
end KU
open KU in
theorem qa (l:List PoR) (h0:0<l.length) (hl:l.length≤1000) (hq:∀ q∈l,jN 1000000 q):ap Tryz.prog 97 [.list 12 (l.map dX)] (bL (mS l)):=by
 refine bS Tryz.func97 ?_
 refine bE ?_
 refine gE (fun(i:Nat) L=>(((St.mk L.slot (hp [])).put (some 0) (.list 12 (l.map dX))).put (some 3) (ai (i+1)))) (fun i=>i+1≤l.length∧∀ j,j<i+1→gF (l.getD j default).p (l.getD 0 default).p=true) (fun i=>l.length-i) 0 ⟨h0,fun j hj=>by(obtain rfl:j=0:=(by omega));exact DD _⟩ ?_
 rintro i L1 ⟨hi,hs⟩
 refine cg ?_
 refine an rfl (fun h7r h7=>?_) (fun h7r h7=>?_)
 ·have hi2:i+1<l.length:=by omega
  obtain⟨o1,_,_⟩:=hq _ (dl hi2)
  obtain⟨z1,_,_⟩:=hq _ (dl h0)
  refine ca ?_
  refine au 11 (by decide +kernel) ?_
  refine cg ?_
  refine cp bf (uB (l.getD 0 default).p (l.getD (i+1) default).p ⟨Nat.le_trans z1.1 (by decide),Nat.le_trans z1.2.1 (by decide),Nat.le_trans z1.2.2 (by decide)⟩ ⟨Nat.le_trans o1.1 (by decide),Nat.le_trans o1.2.1 (by decide),Nat.le_trans o1.2.2 (by decide)⟩) ?_
  refine bx ?_
  refine an rfl (fun h20r h20=>?_) (fun h20r h20=>?_)
  ·have hV:mS l=false:=tC (f:=fun q:PoR=>gF q.p (l.getD 0 default).p) (l:=l) hi2 (by show gF _ _=false;rw [zc];first | simpa using h20 | simpa using h20r)
   refine bD ?_
   rw [hV]
   exact aS rfl (.pure rfl)
  ·have hn:∀ j,j<(i+1)+1→gF (l.getD j default).p (l.getD 0 default).p=true:=fun j hj=>by
    rcases Nat.lt_succ_iff_lt_or_eq.1 hj with e | rfl
    ·exact hs j e
    ·rw [zc];first | simpa using h20 | simpa using h20r
   refine ca ?_
   refine ab rfl (.bin rfl rfl (a9 (by omega))) ?_
   refine bx ?_
   exact fA (i+1) ⟨by omega,hn⟩
 ·obtain e:i+1=l.length:=by omega
  have hV:mS l=true:=tU (f:=fun q:PoR=>gF q.p (l.getD 0 default).p) (l:=l) (by rw [←e];exact hs)
  refine bD ?_
  rw [hV]
  exact aS rfl (.pure rfl)
namespace Me
theorem bQ {p q:Prop} (k:q) (e:p=q:=by simp only [e1,e2,e3,e4,p1,p2,p3,q1,q2,q3,l1,t0,t1,r1,r2,r3,r4,Nat.zero_add,Nat.reduceMul,Nat.reduceAdd,b1,b2,b3,b4,b5,b6,i1,i2,i3,i4,i5,i6,Nat.reduceBEq,bu,dE,dU,vm,erl,Int.toNat_natCast,cb,ae dW,dE,dU,aQ,bo,aW,List.length_cons,List.length_nil,List.nil_append,List.map_nil,List.take_nil,List.append_nil,List.set_cons_zero,List.set_cons_succ,Nat.reduceEqDiff,reduceIte,if_true,if_false,aN,aM,ae cT,ae cA,ae ah,ax,aC,LV.kill,aH];exact rfl):p:=e.mpr k
end Me
open Me in
theorem AY (U V:Nat) (kU kV:List Rat) (rows:List (List PoR)) (h0:0<rows.length) (hn:rows.length≤1000) (hV:V≤1000) (hm:∀ r∈rows,r.length=V+1):ap Tryz.prog 96 [bL false,.boxp (.agg [ai U,ai V,.list 3 (kU.map ratL),.list 3 (kV.map ratL),.list 1 (rows.map bu)])] (.list 12 ((fI rows 0).map dX)):=by
 have hsp:LV.pure (.agg [ai U,ai V,.list 3 (kU.map ratL),.list 3 (kV.map ratL),.list 1 (rows.map bu)])=true:=by simp [LV.pure,aD,al ah,al dW]
 have hcl:=dH rows 0
 have hpw:=al dW rows
 refine bS Tryz.func96 (ht:=(fun g=>LV.ren_pure g _ (ak cA 12 _))) ?_
 have erl:True:=trivial
 refine ib ?_
 refine cN (aP.own (t:=4) 28 12 rfl rfl) ?_
 refine ik (fun(i:Nat) (c:List PoR) L=>(((((((St.mk L.slot (hp [(28,⟨12,c.map dX,true⟩)])).put (some 0) (bL false)).put (some 1) (.boxp (.agg [ai U,ai V,.list 3 (kU.map ratL),.list 3 (kV.map ratL),.list 1 (rows.map bu)]))).put (some 4) (.ref 28 12 0 c.length)).put (some 9) (.list 1 (rows.map bu))).put (some 10) (ai rows.length)).put (some 11) (ai i))) (fun i c=>i≤rows.length∧c.length=i∧c=(fI rows 0).take i) (fun i c=>rows.length-i) 0 ([]) ⟨Nat.zero_le _,rfl,rfl⟩ ?_
 rintro i c L1 ⟨hi,hcl2,hct⟩
 refine bJ ?_
 refine an rfl (fun h12r h12=>?_) (fun h12r h12=>?_)
 ·have hi2:i<rows.length:=by omega
  have hrm:=cm hi2
  have hrl:=hm _ hrm
  have erl:(rows.getD i []).length-1=V:=by omega
  refine ia ?_
  refine an rfl (fun h17r h17=>?_) (fun h17r h17=>?_)
  ·omega
  ·refine ct ?_
   refine an rfl (fun h18r h18=>?_) (fun h18r h18=>?_)
   ·first | cases h18r | exact absurd h18r (by decide)
   ·refine cg ?_
    refine aK rfl (.appX (d:=28) (news:=[dX ((rows.getD i []).getD 0 default)]) rfl rfl rfl rfl (by simp) (.inl rfl) (by decide) Tryz.underlying60 Tryz.underlying60 ta me cs wS (.inl ⟨27,0,_,rfl,by decide,rfl,rfl,by simp,rfl,by simp [aD,cA.pure]⟩) (by simp;omega) (by simp;omega) (by decide)) ?_
    refine bw ?_
    refine aY (aP.kill _ 27) ?_
    refine ab rfl (.bin rfl rfl (a9 (by omega))) ?_
    refine bx ?_
    exact gk (i+1) (c++[((rows.getD i []).getD 0 default)]) ⟨by omega,by simp;omega,by rw [hct];exact pc hi2⟩
 ·obtain rfl:i=rows.length:=by omega
  have hE:c=(fI rows 0):=by rw [hct];exact List.take_of_length_le (by rw [dH];exact Nat.le_refl _)
  subst hE
  refine bE ?_
  exact fM [28] rfl rfl (bg cA rfl rfl (by rw [dH]))
namespace Mf
theorem bQ {p q:Prop} (k:q) (e:p=q:=by simp only [e1,e2,e3,e4,p1,p2,p3,q1,q2,q3,l1,t0,t1,r1,r2,r3,r4,Nat.zero_add,Nat.reduceMul,Nat.reduceAdd,b1,b2,b3,b4,b5,b6,i1,i2,i3,i4,i5,i6,Nat.reduceBEq,bu,dE,dU,vm,erl,Int.toNat_natCast,cb,ae dW,dE,dU,aQ,bo,aW,List.length_cons,List.length_nil,List.nil_append,List.map_nil,List.take_nil,List.append_nil,List.set_cons_zero,List.set_cons_succ,Nat.reduceEqDiff,reduceIte,if_true,if_false,aN,aM,ae cT,ae cA,ae ah,ax,aC,LV.kill,aH];exact rfl):p:=e.mpr k
end Mf
open Mf in
theorem AA (U V:Nat) (kU kV:List Rat) (rows:List (List PoR)) (h0:0<rows.length) (hn:rows.length≤1000) (hV:V≤1000) (hm:∀ r∈rows,r.length=V+1):ap Tryz.prog 96 [bL true,.boxp (.agg [ai U,ai V,.list 3 (kU.map ratL),.list 3 (kV.map ratL),.list 1 (rows.map bu)])] (.list 12 ((fI rows V).map dX)):=by
 have hsp:LV.pure (.agg [ai U,ai V,.list 3 (kU.map ratL),.list 3 (kV.map ratL),.list 1 (rows.map bu)])=true:=by simp [LV.pure,aD,al ah,al dW]
 have hcl:=dH rows V
 have hpw:=al dW rows
 refine bS Tryz.func96 (ht:=(fun g=>LV.ren_pure g _ (ak cA 12 _))) ?_
 have erl:True:=trivial
 refine ib ?_
 refine cN (aP.own (t:=4) 28 12 rfl rfl) ?_
 refine ik (fun(i:Nat) (c:List PoR) L=>(((((((St.mk L.slot (hp [(28,⟨12,c.map dX,true⟩)])).put (some 0) (bL true)).put (some 1) (.boxp (.agg [ai U,ai V,.list 3 (kU.map ratL),.list 3 (kV.map ratL),.list 1 (rows.map bu)]))).put (some 4) (.ref 28 12 0 c.length)).put (some 9) (.list 1 (rows.map bu))).put (some 10) (ai rows.length)).put (some 11) (ai i))) (fun i c=>i≤rows.length∧c.length=i∧c=(fI rows V).take i) (fun i c=>rows.length-i) 0 ([]) ⟨Nat.zero_le _,rfl,rfl⟩ ?_
 rintro i c L1 ⟨hi,hcl2,hct⟩
 refine bJ ?_
 refine an rfl (fun h12r h12=>?_) (fun h12r h12=>?_)
 ·have hi2:i<rows.length:=by omega
  have hrm:=cm hi2
  have hrl:=hm _ hrm
  have erl:(rows.getD i []).length-1=V:=by omega
  refine ia ?_
  refine an rfl (fun h17r h17=>?_) (fun h17r h17=>?_)
  ·omega
  ·refine ct ?_
   refine an rfl (fun h18r h18=>?_) (fun h18r h18=>?_)
   ·refine bx ?_
    refine ab rfl (.bin rfl rfl ((ee (by omega) (by omega)))) ?_
    refine bv ?_
    refine aK rfl (.appX (d:=28) (news:=[dX ((rows.getD i []).getD V default)]) rfl rfl rfl rfl (by simp) (.inl rfl) (by decide) Tryz.underlying60 Tryz.underlying60 ta me cs wS (.inl ⟨27,0,_,rfl,by decide,rfl,rfl,by simp,rfl,by simp [aD,cA.pure]⟩) (by simp;omega) (by simp;omega) (by decide)) ?_
    refine bw ?_
    refine aY (aP.kill _ 27) ?_
    refine ab rfl (.bin rfl rfl (a9 (by omega))) ?_
    refine bx ?_
    exact gk (i+1) (c++[((rows.getD i []).getD V default)]) ⟨by omega,by simp;omega,by rw [hct];exact pc hi2⟩
   ·first | cases h18r | exact absurd h18r (by decide)
 ·obtain rfl:i=rows.length:=by omega
  have hE:c=(fI rows V):=by rw [hct];exact List.take_of_length_le (by rw [dH];exact Nat.le_refl _)
  subst hE
  refine bE ?_
  exact fM [28] rfl rfl (bg cA rfl rfl (by rw [dH]))
namespace Ly
theorem bQ {p q:Prop} (k:q) (e:p=q:=by simp only [e1,e2,e3,e4,p1,p2,p3,q1,q2,q3,l1,t0,t1,r1,r2,r3,r4,Nat.zero_add,Nat.reduceMul,Nat.reduceAdd,b1,b2,b3,b4,b5,b6,i1,i2,i3,i4,i5,i6,Nat.reduceBEq,bu,dE,dU,hn1,Int.toNat_natCast,List.length_map,dq,cb,ae dW,dE,dU,aQ,bo,aW,List.length_cons,List.length_nil,List.nil_append,List.map_nil,List.take_nil,List.append_nil,List.set_cons_zero,List.set_cons_succ,Nat.reduceEqDiff,reduceIte,if_true,if_false,aN,aM,ae cT,ae cA,ae ah,ax,aC,LV.kill,aH];exact rfl):p:=e.mpr k
end Ly
open Ly in
theorem yx (R U V:Nat) (kU kV:List Rat) (rows:List (List PoR)) (h:pf R U V rows) (hR:R≤200000) (hku:kU.length≤100) (hkv:kV.length≤100):ap Tryz.prog 35 [.agg [ai U,ai V,.list 3 (kU.map ratL),.list 3 (kV.map ratL),.list 1 (rows.map bu)]] (.agg [bL (mS (rows.getD 0 [])),bL (mS (rows.getD U [])),bL (mS (fI rows 0)),bL (mS (fI rows V))]):=by
 have hsp:LV.pure (.agg [ai U,ai V,.list 3 (kU.map ratL),.list 3 (kV.map ratL),.list 1 (rows.map bu)])=true:=by simp [LV.pure,aD,al ah,al dW]
 have hn:=h.n
 have hm:=h.m
 have hu3:=h.u3
 have hv3:=h.v3
 have hv1:=h.v1
 have hrb:∀ j,j<rows.length→0<(rows.getD j []).length∧(rows.getD j []).length≤1000:=fun j hj=>by have:=hm _ (cm hj);omega
 have hA:ap Tryz.prog 94 [bu (rows.getD 0 [])] (bL (mS (rows.getD 0 []))):=uO _ (hrb 0 (by omega)).1 (hrb 0 (by omega)).2 (fun q hx=>(h.ok _ (cm (by omega)) q hx).le (by omega))
 have hB:ap Tryz.prog 94 [bu (rows.getD U [])] (bL (mS (rows.getD U []))):=uO _ (hrb U (by omega)).1 (hrb U (by omega)).2 (fun q hx=>(h.ok _ (cm (by omega)) q hx).le (by omega))
 have hC:ap Tryz.prog 94 [.list 12 ((fI rows 0).map dX)] (bL (mS (fI rows 0))):=uO _ (by rw [dH];omega) (by rw [dH];omega) (fun q hx=>(mD h.ok hm (by omega) q hx).le (by omega))
 have hD:ap Tryz.prog 94 [.list 12 ((fI rows V).map dX)] (bL (mS (fI rows V))):=uO _ (by rw [dH];omega) (by rw [dH];omega) (fun q hx=>(mD h.ok hm (by omega) q hx).le (by omega))
 have hn1:rows.length-1=U:=by omega
 have hpw:=al dW rows
 have hbp:aD [.boxp (.agg [ai U,ai V,.list 3 (kU.map ratL),.list 3 (kV.map ratL),.list 1 (rows.map bu)])]=true:=by simp [aD,LV.pure,al ah,al dW]
 have hE:=AY U V kU kV rows (by omega) (by omega) (by omega) hm
 have hF:=AA U V kU kV rows (by omega) (by omega) (by omega) hm
 refine bS Tryz.func35 (ht:=(fun g=>rfl)) ?_
 refine ib ?_
 refine bb (b:=_) rfl (beq_eq_false_iff_ne.2 (by first | omega | (simp only [List.length_map];omega))) ?_
 refine cg ?_
 refine cI [1] rfl rfl (.mk (caps:=[.boxp (.agg [ai U,ai V,.list 3 (kU.map ratL),.list 3 (kV.map ratL),.list 1 (rows.map bu)])]) (.cons (.eptr rfl rfl rfl cs (bX cs rfl) hsp rfl) .nil) (fun x hx=>by rw [List.mem_singleton.1 hx];exact⟨rfl,rfl⟩)) rfl ?_
 refine bw ?_
 refine au 25 (by decide +kernel) ?_
 refine ca ?_
 refine bQ ?_
 refine cI [] rfl rfl (.clo (f:=94) (cap:=[]) (args:=[bu (rows.getD 0 [])]) rfl (.cons (.pure (ak cA 12 _)) .nil) ⟨rfl,fun _ h=>by cases h⟩ hA.1 (by decide) (fun _ h=>by cases h)) (hA.2 _) ?_
 refine bJ ?_
 refine ab rfl (.bin rfl rfl ((ee (by omega) (by omega)))) ?_
 refine bG ?_
 refine bQ ?_
 refine cI [] rfl rfl (.clo (f:=94) (cap:=[]) (args:=[bu (rows.getD U [])]) rfl (.cons (.pure (ak cA 12 _)) .nil) ⟨rfl,fun _ h=>by cases h⟩ hB.1 (by decide) (fun _ h=>by cases h)) (hB.2 _) ?_
 refine bG ?_
 refine bQ ?_
 refine cI [] rfl rfl (.clo (f:=96) (cap:=[.boxp (.agg [ai U,ai V,.list 3 (kU.map ratL),.list 3 (kV.map ratL),.list 1 (rows.map bu)])]) (args:=[bL false]) rfl (.cons (.pure rfl) .nil) ⟨hbp,fun x hx=>by rw [List.mem_singleton.1 hx];exact⟨rfl,rfl⟩⟩ hE.1 (by decide) (fun _ h=>by cases h)) (hE.2 _) ?_
 refine bQ ?_
 refine cI [] rfl rfl (.clo (f:=94) (cap:=[]) (args:=[.list 12 ((fI rows 0).map dX)]) rfl (.cons (.pure (ak cA 12 _)) .nil) ⟨rfl,fun _ h=>by cases h⟩ hC.1 (by decide) (fun _ h=>by cases h)) (hC.2 _) ?_
 refine bG ?_
 refine bQ ?_
 refine cI [] rfl rfl (.clo (f:=96) (cap:=[.boxp (.agg [ai U,ai V,.list 3 (kU.map ratL),.list 3 (kV.map ratL),.list 1 (rows.map bu)])]) (args:=[bL true]) rfl (.cons (.pure rfl) .nil) ⟨hbp,fun x hx=>by rw [List.mem_singleton.1 hx];exact⟨rfl,rfl⟩⟩ hF.1 (by decide) (fun _ h=>by cases h)) (hF.2 _) ?_
 refine bQ ?_
 refine cI [] rfl rfl (.clo (f:=94) (cap:=[]) (args:=[.list 12 ((fI rows V).map dX)]) rfl (.cons (.pure (ak cA 12 _)) .nil) ⟨rfl,fun _ h=>by cases h⟩ hD.1 (by decide) (fun _ h=>by cases h)) (hD.2 _) ?_
 refine ca ?_
 exact b9 [] rfl rfl rfl cs (bX cs rfl) GT (.pure rfl)
namespace Kt
theorem bQ {p q:Prop} (k:q) (e:p=q:=by simp only [e1,e2,e3,e4,p1,p2,p3,q1,q2,q3,l1,t0,t1,r1,r2,r3,r4,Nat.zero_add,Nat.reduceMul,Nat.reduceAdd,b1,b2,b3,b4,b5,b6,i1,i2,i3,i4,i5,i6,Nat.reduceBEq,bu,dE,dU,Int.toNat_natCast,List.length_map,dq,cb,ae dW,dE,dU,aQ,bo,aW,List.length_cons,List.length_nil,List.nil_append,List.map_nil,List.take_nil,List.append_nil,List.set_cons_zero,List.set_cons_succ,Nat.reduceEqDiff,reduceIte,if_true,if_false,aN,aM,ae cT,ae cA,ae ah,ax,aC,LV.kill,aH];exact rfl):p:=e.mpr k
end Kt
open Kt in
theorem wQ (R U V:Nat) (kU kV:List Rat) (rows:List (List PoR)) (h:pf R U V rows) (hR:R≤200000) (hku:kU.length≤100) (hkv:kV.length≤100):ap Tryz.prog 36 [.agg [ai U,ai V,.list 3 (kU.map ratL),.list 3 (kV.map ratL),.list 1 (rows.map bu)]] (.agg [bL (mS (rows.getD 0 [])),bL (mS (rows.getD U [])),bL (mS (fI rows 0)),bL (mS (fI rows V))]):=by
 have hsp:LV.pure (.agg [ai U,ai V,.list 3 (kU.map ratL),.list 3 (kV.map ratL),.list 1 (rows.map bu)])=true:=by simp [LV.pure,aD,al ah,al dW]
 have hn:=h.n
 have hm:=h.m
 have hu3:=h.u3
 have hv3:=h.v3
 have hv1:=h.v1
 have hrb:∀ j,j<rows.length→0<(rows.getD j []).length∧(rows.getD j []).length≤1000:=fun j hj=>by have:=hm _ (cm hj);omega
 have hA:ap Tryz.prog 97 [bu (rows.getD 0 [])] (bL (mS (rows.getD 0 []))):=qa _ (hrb 0 (by omega)).1 (hrb 0 (by omega)).2 (fun q hx=>(h.ok _ (cm (by omega)) q hx).le (by omega))
 have hB:ap Tryz.prog 97 [bu (rows.getD U [])] (bL (mS (rows.getD U []))):=qa _ (hrb U (by omega)).1 (hrb U (by omega)).2 (fun q hx=>(h.ok _ (cm (by omega)) q hx).le (by omega))
 have hC:ap Tryz.prog 97 [.list 12 ((fI rows 0).map dX)] (bL (mS (fI rows 0))):=qa _ (by rw [dH];omega) (by rw [dH];omega) (fun q hx=>(mD h.ok hm (by omega) q hx).le (by omega))
 have hD:ap Tryz.prog 97 [.list 12 ((fI rows V).map dX)] (bL (mS (fI rows V))):=qa _ (by rw [dH];omega) (by rw [dH];omega) (fun q hx=>(mD h.ok hm (by omega) q hx).le (by omega))
 have hn1:rows.length-1=U:=by omega
 have hpw:=al dW rows
 have hC2:ap Tryz.prog 97 [bu ((rd V rows).getD 0 [])] (bL (mS (fI rows 0))):=by rw [rR rows (by omega)];exact hC
 have hD2:ap Tryz.prog 97 [bu ((rd V rows).getD V [])] (bL (mS (fI rows V))):=by rw [rR rows (by omega)];exact hD
 have hsl:=qh V rows
 refine bS Tryz.func36 (ht:=(fun g=>rfl)) ?_
 refine cg ?_
 refine cp bK (AD R U V kU kV rows h hku hkv) ?_
 refine ca ?_
 refine au 25 (by decide +kernel) ?_
 refine bw ?_
 refine bQ ?_
 refine cp bK (hA) ?_
 refine bJ ?_
 refine bQ ?_
 refine cp bK (hB) ?_
 refine bw ?_
 refine bQ ?_
 refine cp bK (hC2) ?_
 refine bJ ?_
 refine bQ ?_
 refine cp bK (hD2) ?_
 refine ca ?_
 exact b9 [] rfl rfl rfl cs (bX cs rfl) GT (.pure rfl)
end Go.Proofs.YtfpdccbgngdhkaaGreat
end
