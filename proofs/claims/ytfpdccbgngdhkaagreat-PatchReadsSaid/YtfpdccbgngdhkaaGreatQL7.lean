/- Texts Y6, Y7, Y8, Y9, LgU, Y11, Y12, LgV, Y14, LgX, Y18, Y19, Y20, Y21 of this proof, joined. -/
import Derived.Test.YtfpdccbgngdhkaaGreatQL6
set_option linter.unusedVariables false
set_option linter.unusedSimpArgs false
section
set_option linter.unusedVariables false
set_option linter.unusedSimpArgs false
set_option maxHeartbeats 8000000
set_option maxRecDepth 100000
attribute [local irreducible] Go.Lg.opsL Go.Lg.wpL Go.Lg.thenL Go.Lg.blockL
namespace Go.Proofs.YtfpdccbgngdhkaaGreat
open Go.Lg
def l6 (p q:V3):Bool:=decide (p.x=q.x) && (decide (p.y=q.y) && decide (p.z=q.z))
theorem uW {p q:V3}:l6 p q=true↔p=q:=by
 obtain⟨a,b,c⟩:=p
 obtain⟨d,e,f⟩:=q
 simp [l6]
theorem aKH {p q:V3} (h:l6 p q=false):p≠q:=fun e=>by
 rw [uW.2 e] at h;cases h
def pzV:PoR:=⟨⟨0,0,0⟩,0⟩
def d7 (a b c:V3):V3:=v3x (pU b a) (pU c a)
theorem vO {R:Nat} {a b c:V3} (ha:jF R a) (hb:jF R b) (hc:jF R c):jF (8*R+9) (d7 a b c):=(aLW (nC hb ha) (nC hc ha)).le (by omega)
def xZ (n:V3) (d:Rat) (l:List V3):Rat:=l.foldl (fun o p=>vB o ((fL n p-d)*(fL n p-d))) 0
theorem zQ (n:V3) (d:Rat):xZ n d []=0:=rfl
theorem aD0 (n:V3) (d:Rat) (l:List V3) {i:Nat} (h:i<l.length):vB (xZ n d (l.take i)) ((fL n (l.getD i default)-d)*(fL n (l.getD i default)-d))=xZ n d (l.take (i+1)):=by
 rw [List.take_succ_eq_append_getElem h,xZ,xZ,List.foldl_append,List.getD_eq_getElem?_getD,List.getElem?_eq_getElem h];rfl
theorem aJ4 {n:V3} {d:Rat} {B:Nat}:∀ (l:List V3) (o:Rat),(∀ p∈l,rl ((fL n p-d)*(fL n p-d))≤B)→rl o≤B→rl (l.foldl (fun o p=>vB o ((fL n p-d)*(fL n p-d))) o)≤B
 | [],o,_,h=>h
 | p :: l,o,hl,h=>aJ4 l _ (fun q hq=>hl q (List.mem_cons_of_mem _ hq)) (aGs h (hl p (List.mem_cons_self ..)))
theorem aKE {a b c:Rat} (h:0<c):vB (a/c) (b/c)=vB a b/c:=by
 have hc:c*(1/c)=1:=by rw [Rat.mul_comm];exact Rat.div_mul_cancel (by grind)
 have hi:0<1/c:=(aF7 h Rat.le_refl).1
 have e:∀ x:Rat,x/c=x*(1/c):=fun x=>by rw [Rat.div_def,Rat.div_def,Rat.one_mul]
 rw [e a,e b,e (vB a b)]
 generalize 1/c=r at *
 have k:a*r≤b*r↔a≤b:=⟨fun h2=>by
   rcases Rat.le_total (a:=a) (b:=b) with h3 | h3
   ·exact h3
   ·have:=Rat.mul_le_mul_of_nonneg_right h2 (Rat.le_of_lt h)
    have q1:a*r*c=a:=by grind
    have q2:b*r*c=b:=by grind
    rwa [q1,q2] at this,
  fun h2=>Rat.mul_le_mul_of_nonneg_right h2 (Rat.le_of_lt hi)⟩
 unfold vB
 by_cases h2:a≤b
 ·by_cases h3:b≤a
  ·have:a=b:=Rat.le_antisymm h2 h3
   subst this
   split<;>split<;>rfl
  ·have h4:¬ b*r≤a*r:=fun h5=>h3 (by
    have:=Rat.mul_le_mul_of_nonneg_right h5 (Rat.le_of_lt h)
    have q1:a*r*c=a:=by grind
    have q2:b*r*c=b:=by grind
    rwa [q1,q2] at this)
   rw [if_pos (by grind),if_pos (by grind)]
 ·rw [if_neg (by grind),if_neg (by grind)]
theorem aHc {n:V3} (h:l6 n ⟨0,0,0⟩=false):0<fL n n:=by
 have h1:=aKH h
 obtain⟨x,y,z⟩:=n
 have sq:∀ a:Rat,0≤a*a:=fun a=>by
  rcases Rat.le_total (a:=0) (b:=a) with g | g
  ·exact Rat.mul_nonneg g g
  ·have:=Rat.mul_nonneg (show 0≤-a by grind) (show 0≤-a by grind)
   grind
 have sp:∀ a:Rat,a≠0→0<a*a:=fun a ha=>by
  rcases Rat.le_total (a:=0) (b:=a) with g | g
  ·exact Rat.mul_pos (by grind) (by grind)
  ·have:=Rat.mul_pos (show 0 < -a by grind) (show 0 < -a by grind)
   grind
 have s1:=sq x
 have s2:=sq y
 have s3:=sq z
 unfold fL
 simp only
 by_cases hx:x=0
 ·by_cases hy:y=0
  ·by_cases hz:z=0
   ·subst hx hy hz;exact absurd rfl h1
   ·have:=sp z hz;grind
  ·have:=sp y hy;grind
 ·have:=sp x hx;grind
section
variable {R U V:Nat} {rows:List (List PoR)} (h:pf R U V rows)
include h
theorem pf.r0 {i:Nat} (hi:i≤U):(rows.getD i []).length=V+1:=h.m _ (dZ (by rw [h.n];omega))
theorem pf.pt {i j:Nat} (hi:i≤U) (hj:j≤V):jF R ((rows.getD i []).getD j default).p:=(h.ok _ (dZ (by rw [h.n];omega)) _ (fY (by rw [h.r0 hi];omega))).1
theorem pf.fp {i:Nat} (hi:i<(rows.flatten.map (·.p)).length):jF R ((rows.flatten.map (·.p)).getD i default):=by
 rw [aK8]
 exact(h.fok _ (fY (by rw [List.length_map] at hi;exact hi))).1
theorem pf.fa:∀ p∈rows.flatten.map (·.p),jF R p:=fun p hp=>by
 obtain⟨q,hq,rfl⟩:=List.mem_map.1 hp
 exact(h.fok q hq).1
theorem pf.thb:jF (8*R+9) (d7 ((rows.getD 0 []).getD 0 default).p ((rows.getD U []).getD 0 default).p ((rows.getD 0 []).getD V default).p):=vO (h.pt (Nat.zero_le _) (Nat.zero_le _)) (h.pt (Nat.le_refl _) (Nat.zero_le _)) (h.pt (Nat.zero_le _) (Nat.le_refl _))
end
theorem aGB {R:Nat} {n p:V3} {d:Rat} (hn:jF (8*R+9) n) (hd:rl d≤27*R+31) (hp:jF R p):rl (fL n p)≤27*R+31∧rl (fL n p-d)≤54*R+63∧rl ((fL n p-d)*(fL n p-d))≤108*R+126:=by
 have h1:=rI hn hp
 have h2:=jX (fL n p) d
 have h3:=cS (fL n p-d) (fL n p-d)
 omega
theorem aCi {R:Nat} {n:V3} {d:Rat} {l:List V3} (hn:jF (8*R+9) n) (hd:rl d≤27*R+31) (hl:∀ p∈l,jF R p) (i:Nat):rl (xZ n d (l.take i))≤108*R+126 :=
 aJ4 _ _ (fun p hp=>(aGB hn hd (hl p (List.mem_of_mem_take hp))).2.2) (by show rl 0≤_;rw [show rl 0=1 from rfl];omega)
theorem bdZ {P:Program} {H:dA} {ρ:Operand→LV} {T:TypeId} [z:ZI P T (.agg [.agg [ratL 0,ratL 0,ratL 0],ratL 0])] [s:SI P T [(9,true),(3,true)]]:OpP P H ρ (.build T #[]) (gZ pzV):=by
 have:=OpP.bd (H:=H) (ρ:=ρ) (ps:=#[]) (z:=z) (s:=s) (by simp [lay,LV.csize,aT,aD.csize,aD.isAgg,fX]) (by intro q hq;simp at hq)
 simp only [fU,List.map,List.foldl] at this
 exact this
theorem aIn (c:Rat):0/c=0:=by rw [Rat.div_def,Rat.zero_mul]
theorem aI9:(LV.agg [LV.agg [ratL 0,ratL 0,ratL 0],ratL 0]).csize=12:=by simp [LV.csize,aT,aD.csize]
theorem aDz:(LV.agg [LV.agg [LV.agg [.v (.bool false),.list 1 [],.list 1 []],LV.agg [.v (.bool false),.list 1 [],.list 1 []],LV.agg [.v (.bool false),.list 1 [],.list 1 []]],LV.agg [.v (.bool false),.list 1 [],.list 1 []]]).csize=12:=by simp [LV.csize,aT]
namespace Zq117
theorem dG {p q:Prop} (k:q) (e:p=q:=by simp only [e1,e2,e3,e4,p1,p2,p3,q1,q2,q3,l1,t0,t1,r1,r2,r3,r4,Nat.zero_add,Nat.reduceMul,Nat.reduceAdd,b1,b2,b3,b4,b5,b6,i1,i2,i3,i4,i5,i6,Nat.reduceBEq,List.set_cons_zero,List.set_cons_succ,Nat.reduceEqDiff,reduceIte,if_true,if_false,bG,bF,aC fF,aC eI,aC aD,aS,aZ,LV.kill,bB];exact rfl):p:=e.mpr k
end Zq117
open Zq117 in
theorem aD8 (p q:V3) (hp:jF 100000000000 p) (hq:jF 100000000000 q):aM Tryz.prog 95 [fA p,fA q] (bL (l6 p q)):=by
 obtain⟨a1,a2,a3⟩:=hp
 obtain⟨y1,y2,y3⟩:=hq
 refine dI Tryz.func95 ?_
 refine gC ?_
 refine aW ?_
 refine dB ?_
 refine bK (b:=_) rfl (by decide) ?_
 refine cV ?_
 refine aP 8 (by decide +kernel) ?_
 refine dB ?_
 refine cp b9 (mM p.x q.x (by omega)) ?_
 refine cP ?_
 refine aK rfl (fun h16r h16=>?_) (fun h16r h16=>?_)
 ·refine cV ?_
  rw [show l6 p q=false from by unfold l6;simp [h16]]
  exact bM rfl (.pure rfl)
 ·have g00:p.x=q.x:=by simpa using h16
  refine eC ?_
  refine aW ?_
  refine dB ?_
  refine bK (b:=_) rfl (by decide) ?_
  refine cV ?_
  refine aP 8 (by decide +kernel) ?_
  refine dB ?_
  refine cp b9 (mM p.y q.y (by omega)) ?_
  refine cP ?_
  refine aK rfl (fun h16r h16=>?_) (fun h16r h16=>?_)
  ·refine cV ?_
   rw [show l6 p q=false from by unfold l6;simp [h16]]
   exact bM rfl (.pure rfl)
  ·have g10:p.y=q.y:=by simpa using h16
   refine eC ?_
   refine aW ?_
   refine dB ?_
   refine bK (b:=_) rfl (by decide) ?_
   refine cV ?_
   refine aP 8 (by decide +kernel) ?_
   refine dB ?_
   refine cp b9 (mM p.z q.z (by omega)) ?_
   refine cP ?_
   refine aK rfl (fun h16r h16=>?_) (fun h16r h16=>?_)
   ·refine cV ?_
    rw [show l6 p q=false from by unfold l6;simp [h16]]
    exact bM rfl (.pure rfl)
   ·have g20:p.z=q.z:=by simpa using h16
    refine eC ?_
    refine aW ?_
    refine dB ?_
    refine bX (b:=_) rfl (by decide) ?_
    refine cV ?_
    rw [show l6 p q=true from by unfold l6;simp [g00,g10,g20]]
    exact bM rfl (.pure rfl)
namespace Zq33
theorem dG {p q:Prop} (k:q) (e:p=q:=by simp only [e1,e2,e3,e4,p1,p2,p3,q1,q2,q3,l1,t0,t1,r1,r2,r3,r4,Nat.zero_add,Nat.reduceMul,Nat.reduceAdd,b1,b2,b3,b4,b5,b6,i1,i2,i3,i4,i5,i6,Nat.reduceBEq,List.set_cons_zero,List.set_cons_succ,Nat.reduceEqDiff,reduceIte,if_true,if_false,bG,bF,aC fF,aC eI,aC aD,aS,aZ,LV.kill,bB];exact rfl):p:=e.mpr k
end Zq33
open Zq33 in
theorem aEk (p q:V3) (hp:jF 100000000000 p) (hq:jF 100000000000 q):aM Tryz.prog 20 [fA p,fA q] (bL (l6 p q)):=by
 obtain⟨a1,a2,a3⟩:=hp
 obtain⟨y1,y2,y3⟩:=hq
 refine dI Tryz.func20 ?_
 refine eA ?_
 refine cp b9 (jO p.x q.x (by omega)) ?_
 refine bE ?_
 refine dJ 10 rfl (fun h10r h10=>?_) (fun h10r h10=>?_)
 ·refine cO ?_
  refine cp b9 (jO p.y q.y (by omega)) ?_
  refine cY ?_
  refine dJ 17 rfl (fun h17r h17=>?_) (fun h17r h17=>?_)
  ·refine cO ?_
   refine cp b9 (jO p.z q.z (by omega)) ?_
   refine dR ?_
   rw [show l6 p q=decide (p.z=q.z) from by unfold l6;simp [show p.x=q.x by simpa using h10,show p.y=q.y by simpa using h17]]
   exact bM rfl (.pure rfl)
  ·refine cN ?_
   rw [show l6 p q=false from by unfold l6;simp [show ¬p.y=q.y by simpa using h17]]
   exact bM rfl (.pure rfl)
 ·refine nY ?_
  rw [show l6 p q=false from by unfold l6;simp [show ¬p.x=q.x by simpa using h10]]
  exact bM rfl (.pure rfl)
namespace Zq120
theorem dG {p q:Prop} (k:q) (e:p=q:=by simp only [e1,e2,e3,e4,p1,p2,p3,q1,q2,q3,l1,t0,t1,r1,r2,r3,r4,Nat.zero_add,Nat.reduceMul,Nat.reduceAdd,b1,b2,b3,b4,b5,b6,i1,i2,i3,i4,i5,i6,Nat.reduceBEq,List.set_cons_zero,List.set_cons_succ,Nat.reduceEqDiff,reduceIte,if_true,if_false,bG,bF,aC fF,aC eI,aC aD,aS,aZ,LV.kill,bB];exact rfl):p:=e.mpr k
end Zq120
open Zq120 in
theorem aEn (p:V3) (hp:jF 100000000000 p):aM Tryz.prog 150 [fA p] (bL (l6 p ⟨0,0,0⟩)):=by
 refine dI Tryz.func150 ?_
 refine dU ?_
 refine oQ aMA ?_
 refine cp b9 (aD8 p ⟨0,0,0⟩ hp ⟨by decide +kernel,by decide +kernel,by decide +kernel⟩) ?_
 refine cO ?_
 exact bM rfl (.pure rfl)
namespace Zq49
theorem dG {p q:Prop} (k:q) (e:p=q:=by simp only [e1,e2,e3,e4,p1,p2,p3,q1,q2,q3,l1,t0,t1,r1,r2,r3,r4,Nat.zero_add,Nat.reduceMul,Nat.reduceAdd,b1,b2,b3,b4,b5,b6,i1,i2,i3,i4,i5,i6,Nat.reduceBEq,List.set_cons_zero,List.set_cons_succ,Nat.reduceEqDiff,reduceIte,if_true,if_false,bG,bF,aC fF,aC eI,aC aD,aS,aZ,LV.kill,bB];exact rfl):p:=e.mpr k
end Zq49
open Zq49 in
theorem aBA (p:V3) (hp:jF 100000000000 p):aM Tryz.prog 18 [fA p] (bL (l6 p ⟨0,0,0⟩)):=by
 refine dI Tryz.func18 ?_
 refine dU ?_
 refine oQ aMA ?_
 refine cp b9 (aEk p ⟨0,0,0⟩ hp ⟨by decide +kernel,by decide +kernel,by decide +kernel⟩) ?_
 refine cO ?_
 exact bM rfl (.pure rfl)
namespace Zq119
theorem dG {p q:Prop} (k:q) (e:p=q:=by simp only [e1,e2,e3,e4,p1,p2,p3,q1,q2,q3,l1,t0,t1,r1,r2,r3,r4,Nat.zero_add,Nat.reduceMul,Nat.reduceAdd,b1,b2,b3,b4,b5,b6,i1,i2,i3,i4,i5,i6,Nat.reduceBEq,List.set_cons_zero,List.set_cons_succ,Nat.reduceEqDiff,reduceIte,if_true,if_false,bG,bF,aC fF,aC eI,aC aD,aS,aZ,LV.kill,bB];exact rfl):p:=e.mpr k
end Zq119
open Zq119 in
theorem aKC (a b c:V3) (R:Nat) (hR:R≤10000000) (ha:jF R a) (hb:jF R b) (hc:jF R c) (hz:l6 (d7 a b c) ⟨0,0,0⟩=true):aM Tryz.prog 80 [fA a,fA b,fA c] (.tup [gZ pzV,iL 9]):=by
 have hn:=vO ha hb hc
 have hs1:=nC hb ha
 have hs2:=nC hc ha
 have hZ:aM Tryz.prog 150 [fA (d7 a b c)] (bL true):=by
  have:=aEn (d7 a b c) (hn.le (by omega))
  rwa [hz] at this
 refine dI Tryz.func80 (ht:=(jZ (eI.pure _) rfl)) ?_
 refine cN ?_
 refine aP 8 (by decide +kernel) ?_
 refine cY ?_
 refine cp b9 (zD b a R (by omega) hb ha) ?_
 refine cY ?_
 refine cp b9 (zD c a R (by omega) hc ha) ?_
 refine cp b9 (wU (pU b a) (pU c a) (2*R+1) (by omega) hs1 hs2) ?_
 refine eC ?_
 refine cp dC (hZ) ?_
 refine cY ?_
 refine aK rfl (fun h17r h17=>?_) (fun h17r h17=>?_)
 ·refine cY ?_
  refine oQ bdZ ?_
  refine dB ?_
  exact kG [] rfl rfl rfl cs (dN cs rfl) T86 (.pure pu) rfl (.pure rfl)
 ·first | exact absurd rfl h17 | cases h17r
namespace Zq118
theorem dG {p q:Prop} (k:q) (e:p=q:=by simp only [e1,e2,e3,e4,p1,p2,p3,q1,q2,q3,l1,t0,t1,r1,r2,r3,r4,Nat.zero_add,Nat.reduceMul,Nat.reduceAdd,b1,b2,b3,b4,b5,b6,i1,i2,i3,i4,i5,i6,Nat.reduceBEq,List.set_cons_zero,List.set_cons_succ,Nat.reduceEqDiff,reduceIte,if_true,if_false,bG,bF,aC fF,aC eI,aC aD,aS,aZ,LV.kill,bB];exact rfl):p:=e.mpr k
end Zq118
open Zq118 in
theorem aMG (a b c:V3) (R:Nat) (hR:R≤10000000) (ha:jF R a) (hb:jF R b) (hc:jF R c) (hz:l6 (d7 a b c) ⟨0,0,0⟩=false):aM Tryz.prog 80 [fA a,fA b,fA c] (.tup [gZ ⟨(d7 a b c),fL (d7 a b c) a⟩,iL 0]):=by
 have hn:=vO ha hb hc
 have hs1:=nC hb ha
 have hs2:=nC hc ha
 have hZ:aM Tryz.prog 150 [fA (d7 a b c)] (bL false):=by
  have:=aEn (d7 a b c) (hn.le (by omega))
  rwa [hz] at this
 refine dI Tryz.func80 (ht:=(jZ (eI.pure _) rfl)) ?_
 refine cN ?_
 refine aP 8 (by decide +kernel) ?_
 refine cY ?_
 refine cp b9 (zD b a R (by omega) hb ha) ?_
 refine cY ?_
 refine cp b9 (zD c a R (by omega) hc ha) ?_
 refine cp b9 (wU (pU b a) (pU c a) (2*R+1) (by omega) hs1 hs2) ?_
 refine eC ?_
 refine cp dC (hZ) ?_
 refine cY ?_
 refine aK rfl (fun h17r h17=>?_) (fun h17r h17=>?_)
 ·first | exact h17.elim | cases h17r
 ·refine cP ?_
  refine aP 5 (by decide +kernel) ?_
  refine cP ?_
  refine cp b9 (aCZ (d7 a b c) a (8*R+9) (by omega) hn (ha.le (by omega))) ?_
  refine oQ (vZ (p:=(d7 a b c)) (r:=fL (d7 a b c) a) rfl rfl) ?_
  refine dR ?_
  exact kG [] rfl rfl rfl cs (dN cs rfl) T86 (.pure pu) rfl (.pure rfl)
namespace Zq48
theorem dG {p q:Prop} (k:q) (e:p=q:=by simp only [e1,e2,e3,e4,p1,p2,p3,q1,q2,q3,l1,t0,t1,r1,r2,r3,r4,Nat.zero_add,Nat.reduceMul,Nat.reduceAdd,b1,b2,b3,b4,b5,b6,i1,i2,i3,i4,i5,i6,Nat.reduceBEq,List.set_cons_zero,List.set_cons_succ,Nat.reduceEqDiff,reduceIte,if_true,if_false,bG,bF,aC fF,aC eI,aC aD,aS,aZ,LV.kill,bB];exact rfl):p:=e.mpr k
end Zq48
open Zq48 in
theorem aJw (a b c:V3) (R:Nat) (hR:R≤10000000) (ha:jF R a) (hb:jF R b) (hc:jF R c) (hz:l6 (d7 a b c) ⟨0,0,0⟩=true):aM Tryz.prog 48 [fA a,fA b,fA c] (.tup [gZ pzV,iL 9]):=by
 have hn:=vO ha hb hc
 have hs1:=nC hb ha
 have hs2:=nC hc ha
 have hZ:aM Tryz.prog 18 [fA (d7 a b c)] (bL true):=by
  have:=aBA (d7 a b c) (hn.le (by omega))
  rwa [hz] at this
 refine dI Tryz.func48 (ht:=(jZ (eI.pure _) rfl)) ?_
 refine cN ?_
 refine aP 8 (by decide +kernel) ?_
 refine cY ?_
 refine cp b9 (uV b a R (by omega) hb ha) ?_
 refine cY ?_
 refine cp b9 (uV c a R (by omega) hc ha) ?_
 refine cp b9 (yH (pU b a) (pU c a) (2*R+1) (by omega) hs1 hs2) ?_
 refine eC ?_
 refine cp dC (hZ) ?_
 refine cY ?_
 refine aK rfl (fun h17r h17=>?_) (fun h17r h17=>?_)
 ·refine cY ?_
  refine oQ bdZ ?_
  refine dB ?_
  exact kG [] rfl rfl rfl cs (dN cs rfl) T86 (.pure pu) rfl (.pure rfl)
 ·first | exact absurd rfl h17 | cases h17r
namespace Zq47
theorem dG {p q:Prop} (k:q) (e:p=q:=by simp only [e1,e2,e3,e4,p1,p2,p3,q1,q2,q3,l1,t0,t1,r1,r2,r3,r4,Nat.zero_add,Nat.reduceMul,Nat.reduceAdd,b1,b2,b3,b4,b5,b6,i1,i2,i3,i4,i5,i6,Nat.reduceBEq,List.set_cons_zero,List.set_cons_succ,Nat.reduceEqDiff,reduceIte,if_true,if_false,bG,bF,aC fF,aC eI,aC aD,aS,aZ,LV.kill,bB];exact rfl):p:=e.mpr k
end Zq47
open Zq47 in
theorem aKM (a b c:V3) (R:Nat) (hR:R≤10000000) (ha:jF R a) (hb:jF R b) (hc:jF R c) (hz:l6 (d7 a b c) ⟨0,0,0⟩=false):aM Tryz.prog 48 [fA a,fA b,fA c] (.tup [gZ ⟨(d7 a b c),fL (d7 a b c) a⟩,iL 0]):=by
 have hn:=vO ha hb hc
 have hs1:=nC hb ha
 have hs2:=nC hc ha
 have hZ:aM Tryz.prog 18 [fA (d7 a b c)] (bL false):=by
  have:=aBA (d7 a b c) (hn.le (by omega))
  rwa [hz] at this
 refine dI Tryz.func48 (ht:=(jZ (eI.pure _) rfl)) ?_
 refine cN ?_
 refine aP 8 (by decide +kernel) ?_
 refine cY ?_
 refine cp b9 (uV b a R (by omega) hb ha) ?_
 refine cY ?_
 refine cp b9 (uV c a R (by omega) hc ha) ?_
 refine cp b9 (yH (pU b a) (pU c a) (2*R+1) (by omega) hs1 hs2) ?_
 refine eC ?_
 refine cp dC (hZ) ?_
 refine cY ?_
 refine aK rfl (fun h17r h17=>?_) (fun h17r h17=>?_)
 ·first | exact h17.elim | cases h17r
 ·refine cP ?_
  refine aP 5 (by decide +kernel) ?_
  refine cP ?_
  refine cp b9 (aCY (d7 a b c) a (8*R+9) (by omega) hn (ha.le (by omega))) ?_
  refine oQ (vZ (p:=(d7 a b c)) (r:=fL (d7 a b c) a) rfl rfl) ?_
  refine dR ?_
  exact kG [] rfl rfl rfl cs (dN cs rfl) T86 (.pure pu) rfl (.pure rfl)
namespace Zq135
theorem dG {p q:Prop} (k:q) (e:p=q:=by simp only [e1,e2,e3,e4,p1,p2,p3,q1,q2,q3,l1,t0,t1,r1,r2,r3,r4,Nat.zero_add,Nat.reduceMul,Nat.reduceAdd,b1,b2,b3,b4,b5,b6,i1,i2,i3,i4,i5,i6,Nat.reduceBEq,cM,etk,ers,ehpm,bQ,dS,aC gY,gB,gW,bJ,cI,bQ,List.length_cons,List.length_nil,List.nil_append,List.map_nil,List.take_nil,List.append_nil,List.set_cons_zero,List.set_cons_succ,Nat.reduceEqDiff,reduceIte,if_true,if_false,bG,bF,aC fF,aC eI,aC aD,aS,aZ,LV.kill,bB];exact rfl):p:=e.mpr k
end Zq135
open Zq135 in
theorem aHO (U V:Nat) (kU kV:List Rat) (rows:List (List PoR)) (R:Nat) (hw:rwOK rows R):aM Tryz.prog 81 [.agg [aE U,aE V,.list 3 (kU.map ratL),.list 3 (kV.map ratL),.list 1 (rows.map cM)]] (.list 9 ((rows.flatten.map (·.p)).map fA)):=by
 have hsp:LV.pure (.agg [aE U,aE V,.list 3 (kU.map ratL),.list 3 (kV.map ratL),.list 1 (rows.map cM)])=true:=by simp [LV.pure,aY,aH aD,aH gY]
 have hwn:=hw.n
 have hwf:=hw.f
 refine dI Tryz.func81 (ht:=(fun g=>LV.ren_pure g _ (aG fF 9 _))) ?_
 have etk:True:=trivial
 have ers:True:=trivial
 have ehpm:True:=trivial
 refine aC8 ?_
 refine eZ ((bI.kill _ 1).trans (bI.own (t:=3) 25 9 rfl rfl)) ?_
 refine nD (fun(i:Nat) (ps:List PoR) L=>(((((St.mk L.slot (hp [(25,⟨9,(ps.map (·.p)).map fA,true⟩)])).put (some 3) (.ref 25 9 0 ps.length)).put (some 9) (.list 1 (rows.map cM))).put (some 10) (aE rows.length)).put (some 11) (aE i))) (fun i ps=>rwI rows i ps) (fun i ps=>rows.length-i) 0 ([]) (rwI.zero rows) ?_
 rintro i ps L1 hI
 refine dB ?_
 refine aK rfl (fun h12r h12=>?_) (fun h12r h12=>?_)
 ·have hi2:i<rows.length:=by omega
  refine mZ ?_
  refine nD (fun(j:Nat) (qs:List PoR) L=>((((((((St.mk L.slot (hp [(25,⟨9,(qs.map (·.p)).map fA,true⟩)])).put (some 3) (.ref 25 9 0 qs.length)).put (some 9) (.list 1 (rows.map cM))).put (some 10) (aE rows.length)).put (some 11) (aE i)).put (some 15) (.list 12 ((rows.getD i []).map gZ))).put (some 16) (aE (rows.getD i []).length)).put (some 17) (aE j))) (fun j qs=>rwJ rows i j qs) (fun j qs=>(rows.getD i []).length-j) 0 ps (hI.go hi2) ?_
  rintro j qs L2 hJ
  refine dB ?_
  refine aK rfl (fun h18r h18=>?_) (fun h18r h18=>?_)
  ·have hj2:j<(rows.getD i []).length:=by omega
   have hJe:=hJ.hj
   have hJl:=hJ.le
   have hJi:=hJ.hi
   have hrm:=dZ hJi
   have hrl:=hw.m _ hrm
   have ers:(qs.map (·.p))++[((rows.getD i []).getD j default).p]=((qs++[((rows.getD i []).getD j default)]).map (·.p)):=by simp
   have etk:((qs.map (·.p)).map fA).take qs.length=(qs.map (·.p)).map fA:=List.take_of_length_le (by simp)
   have ehpm:(qs.map (·.p)).length=qs.length:=List.length_map ..
   have hJ2:=hJ.lt hj2
   refine nY ?_
   refine bD rfl (.appX (d:=25) (news:=[fA ((rows.getD i []).getD j default).p]) rfl rfl rfl rfl (by simp) (.inl rfl) (by decide) Tryz.underlying122 Tryz.underlying122 Z31 sW cs B31 (.inl ⟨24,0,_,rfl,by decide,rfl,rfl,by simp,rfl,by simp [aY,fF.pure]⟩) (by simp;omega) (by simp;omega) (by decide)) ?_
   refine cO ?_
   refine bR ((bI.kill _ 7).trans (bI.kill _ 24)) ?_
   refine aB rfl (.bin rfl rfl (bV (by omega))) ?_
   refine cP ?_
   exact lI (j+1) (qs++[((rows.getD i []).getD j default)]) (hJ.next hj2)
  ·have hJe:=hJ.hj
   have hJl:=hJ.le
   have hJi:=hJ.hi
   have hrm:=dZ hJi
   have hrl:=hw.m _ hrm
   obtain rfl:j=(rows.getD i []).length:=by omega
   refine dL ?_
   refine aB rfl (.bin rfl rfl (bV (by omega))) ?_
   refine cP ?_
   exact lI (i+1) qs hJ.last (hm:=by have:=hJ.hi;omega)
 ·have hIi:=hI.hi
  obtain rfl:i=rows.length:=by omega
  have hE:=hI.last
  subst hE
  refine cW ?_
  exact kP [25] rfl rfl (cA fF rfl rfl (by rw [List.length_map]))
namespace Zq31
theorem dG {p q:Prop} (k:q) (e:p=q:=by simp only [e1,e2,e3,e4,p1,p2,p3,q1,q2,q3,l1,t0,t1,r1,r2,r3,r4,Nat.zero_add,Nat.reduceMul,Nat.reduceAdd,b1,b2,b3,b4,b5,b6,i1,i2,i3,i4,i5,i6,Nat.reduceBEq,cM,etk,ers,ehpm,bQ,dS,aC gY,gB,gW,bJ,cI,bQ,List.length_cons,List.length_nil,List.nil_append,List.map_nil,List.take_nil,List.append_nil,List.set_cons_zero,List.set_cons_succ,Nat.reduceEqDiff,reduceIte,if_true,if_false,bG,bF,aC fF,aC eI,aC aD,aS,aZ,LV.kill,bB];exact rfl):p:=e.mpr k
end Zq31
open Zq31 in
theorem aEf (U V:Nat) (kU kV:List Rat) (rows:List (List PoR)) (R:Nat) (hw:rwOK rows R):aM Tryz.prog 85 [.agg [aE U,aE V,.list 3 (kU.map ratL),.list 3 (kV.map ratL),.list 1 (rows.map cM)]] (.list 9 ((rows.flatten.map (·.p)).map fA)):=by
 have hsp:LV.pure (.agg [aE U,aE V,.list 3 (kU.map ratL),.list 3 (kV.map ratL),.list 1 (rows.map cM)])=true:=by simp [LV.pure,aY,aH aD,aH gY]
 have hwn:=hw.n
 have hwf:=hw.f
 refine dI Tryz.func85 (ht:=(fun g=>LV.ren_pure g _ (aG fF 9 _))) ?_
 have etk:True:=trivial
 have ers:True:=trivial
 have ehpm:True:=trivial
 refine pP ?_
 refine eZ (bI.own (t:=3) 34 9 rfl rfl) ?_
 refine nD (fun(i:Nat) (ps:List PoR) L=>((((St.mk L.slot (hp [(1,⟨5,[.agg [aE U,aE V,.list 3 (kU.map ratL),.list 3 (kV.map ratL),.list 1 (rows.map cM)]],true⟩),(34,⟨9,(ps.map (·.p)).map fA,true⟩)])).put (some 1) (.eptr 1 5 0 0)).put (some 3) (.ref 34 9 0 ps.length)).put (some 4) (aE i))) (fun i ps=>rwI rows i ps) (fun i ps=>rows.length-i) 0 ([]) (rwI.zero rows) ?_
 rintro i ps L1 hI
 refine cN ?_
 refine aK rfl (fun h10r h10=>?_) (fun h10r h10=>?_)
 ·have hi2:i<rows.length:=by omega
  refine cN ?_
  refine nD (fun(j:Nat) (qs:List PoR) L=>(((((St.mk L.slot (hp [(1,⟨5,[.agg [aE U,aE V,.list 3 (kU.map ratL),.list 3 (kV.map ratL),.list 1 (rows.map cM)]],true⟩),(34,⟨9,(qs.map (·.p)).map fA,true⟩)])).put (some 1) (.eptr 1 5 0 0)).put (some 3) (.ref 34 9 0 qs.length)).put (some 4) (aE i)).put (some 5) (aE j))) (fun j qs=>rwJ rows i j qs) (fun j qs=>(rows.getD i []).length-j) 0 ps (hI.go hi2) ?_
  rintro j qs L2 hJ
  have hJe:=hJ.hj
  have hJl:=hJ.le
  have hJi:=hJ.hi
  have hrm:=dZ hJi
  have hrl:=hw.m _ hrm
  refine eA ?_
  refine aK rfl (fun h20r h20=>?_) (fun h20r h20=>?_)
  ·have hj2:j<(rows.getD i []).length:=by omega
   have ers:(qs.map (·.p))++[((rows.getD i []).getD j default).p]=((qs++[((rows.getD i []).getD j default)]).map (·.p)):=by simp
   have etk:((qs.map (·.p)).map fA).take qs.length=(qs.map (·.p)).map fA:=List.take_of_length_le (by simp)
   have ehpm:(qs.map (·.p)).length=qs.length:=List.length_map ..
   have hJ2:=hJ.lt hj2
   refine mY ?_
   refine bD rfl (.appX (d:=34) (news:=[fA ((rows.getD i []).getD j default).p]) rfl rfl rfl rfl (by simp) (.inl rfl) (by decide) Tryz.underlying122 Tryz.underlying122 Z31 sW cs B31 (.inl ⟨33,0,_,rfl,by decide,rfl,rfl,by simp,rfl,by simp [aY,fF.pure]⟩) (by simp;omega) (by simp;omega) (by decide)) ?_
   refine cO ?_
   refine bR (bI.kill _ 33) ?_
   refine bE ?_
   refine aB rfl (.bin rfl rfl (bV (by omega))) ?_
   refine cP ?_
   exact lI (j+1) (qs++[((rows.getD i []).getD j default)]) (hJ.next hj2)
  ·obtain rfl:j=(rows.getD i []).length:=by omega
   refine eC ?_
   refine aB rfl (.bin rfl rfl (bV (by omega))) ?_
   refine cP ?_
   exact lI (i+1) qs hJ.last (hm:=by have:=hJ.hi;omega)
 ·have hIi:=hI.hi
  obtain rfl:i=rows.length:=by omega
  have hE:=hI.last
  subst hE
  refine cW ?_
  exact kP [34] rfl rfl (cA fF rfl rfl (by rw [List.length_map]))
namespace Zq83
theorem dG {p q:Prop} (k:q) (e:p=q:=by simp only [e1,e2,e3,e4,p1,p2,p3,q1,q2,q3,l1,t0,t1,r1,r2,r3,r4,Nat.zero_add,Nat.reduceMul,Nat.reduceAdd,b1,b2,b3,b4,b5,b6,i1,i2,i3,i4,i5,i6,Nat.reduceBEq,dS,aC gY,gB,gW,bJ,cI,bQ,List.length_cons,List.length_nil,List.nil_append,List.map_nil,List.take_nil,List.append_nil,List.set_cons_zero,List.set_cons_succ,Nat.reduceEqDiff,reduceIte,if_true,if_false,bG,bF,aC fF,aC eI,aC aD,aS,aZ,LV.kill,bB];exact rfl):p:=e.mpr k
end Zq83
open Zq83 in
theorem aK2 (R U V:Nat) (kU kV:List Rat) (rows:List (List PoR)) (h:pf R U V rows) (hR:R≤200000):aM Tryz.prog 33 [.agg [aE U,aE V,.list 3 (kU.map ratL),.list 3 (kV.map ratL),.list 1 (rows.map cM)]] (bxL (bxP (rows.flatten.map (·.p)))):=by
 have hsp:LV.pure (.agg [aE U,aE V,.list 3 (kU.map ratL),.list 3 (kV.map ratL),.list 1 (rows.map cM)])=true:=by simp [LV.pure,aY,aH aD,aH gY]
 have h16:=h.l16
 have h0:=h.pos
 have hpl:(rows.flatten.map (·.p)).length=rows.flatten.length:=List.length_map ..
 refine dI Tryz.func33 (ht:=(fun r=>LV.ren_pure r _ (bxE.pure _))) ?_
 refine dU ?_
 refine cp dC (aHO U V kU kV rows R h.rw) ?_
 refine cp dC (aHE (rows.flatten.map (·.p)) (by omega) (by omega) R (by omega) (fun i hi=>h.fp hi)) ?_
 refine iJ ?_
 exact dQ [] rfl rfl rfl cs (dN cs rfl) T74 (.pure pu)
namespace Zq25
theorem dG {p q:Prop} (k:q) (e:p=q:=by simp only [e1,e2,e3,e4,p1,p2,p3,q1,q2,q3,l1,t0,t1,r1,r2,r3,r4,Nat.zero_add,Nat.reduceMul,Nat.reduceAdd,b1,b2,b3,b4,b5,b6,i1,i2,i3,i4,i5,i6,Nat.reduceBEq,dS,aC gY,gB,gW,bJ,cI,bQ,List.length_cons,List.length_nil,List.nil_append,List.map_nil,List.take_nil,List.append_nil,List.set_cons_zero,List.set_cons_succ,Nat.reduceEqDiff,reduceIte,if_true,if_false,bG,bF,aC fF,aC eI,aC aD,aS,aZ,LV.kill,bB];exact rfl):p:=e.mpr k
end Zq25
open Zq25 in
theorem aJo (R U V:Nat) (kU kV:List Rat) (rows:List (List PoR)) (h:pf R U V rows) (hR:R≤200000):aM Tryz.prog 34 [.agg [aE U,aE V,.list 3 (kU.map ratL),.list 3 (kV.map ratL),.list 1 (rows.map cM)]] (bxL (bxP (rows.flatten.map (·.p)))):=by
 have hsp:LV.pure (.agg [aE U,aE V,.list 3 (kU.map ratL),.list 3 (kV.map ratL),.list 1 (rows.map cM)])=true:=by simp [LV.pure,aY,aH aD,aH gY]
 have h16:=h.l16
 have h0:=h.pos
 have hpl:(rows.flatten.map (·.p)).length=rows.flatten.length:=List.length_map ..
 refine dI Tryz.func34 (ht:=(fun r=>LV.ren_pure r _ (bxE.pure _))) ?_
 refine dU ?_
 refine cp dC (aEf U V kU kV rows R h.rw) ?_
 refine cp dC (aHj (rows.flatten.map (·.p)) (by omega) (by omega) R (by omega) (fun i hi=>h.fp hi)) ?_
 refine iJ ?_
 exact dQ [] rfl rfl rfl cs (dN cs rfl) T74 (.pure pu)
namespace Zq89
theorem dG {p q:Prop} (k:q) (e:p=q:=by simp only [e1,e2,e3,e4,p1,p2,p3,q1,q2,q3,l1,t0,t1,r1,r2,r3,r4,Nat.zero_add,Nat.reduceMul,Nat.reduceAdd,b1,b2,b3,b4,b5,b6,i1,i2,i3,i4,i5,i6,Nat.reduceBEq,hT,hT2,aI9,aDz,Nat.add_sub_cancel,gB,gW,cM,hrn,hr0,hrU,hixU,hixV,hpl,List.length_map,List.take_zero,zQ,aIn,List.set_cons_zero,List.set_cons_succ,Nat.reduceEqDiff,reduceIte,if_true,if_false,bG,bF,aC fF,aC eI,aC aD,aS,aZ,LV.kill,bB];exact rfl):p:=e.mpr k
end Zq89
open Zq89 in
theorem aFZ (R U V:Nat) (kU kV:List Rat) (rows:List (List PoR)) (h:pf R U V rows) (hR:R≤200000) (hz:l6 (d7 ((rows.getD 0 []).getD 0 default).p ((rows.getD U []).getD 0 default).p ((rows.getD 0 []).getD V default).p) ⟨0,0,0⟩=true):aM Tryz.prog 27 [.agg [aE U,aE V,.list 3 (kU.map ratL),.list 3 (kV.map ratL),.list 1 (rows.map cM)]] (.tup [ratL 0,iL 9]):=by
 have hsp:LV.pure (.agg [aE U,aE V,.list 3 (kU.map ratL),.list 3 (kV.map ratL),.list 1 (rows.map cM)])=true:=by simp [LV.pure,aY,aH aD,aH gY]
 have h16:=h.l16
 have h0:=h.pos
 have hpl:(rows.flatten.map (·.p)).length=rows.flatten.length:=List.length_map ..
 have hu3:=h.u3
 have hv3:=h.v3
 have hrn:=h.n
 have hr0:=h.r0 (Nat.zero_le U)
 have hrU:=h.r0 (Nat.le_refl U)
 have hixU:(((U+1:Nat):Int)-1).toNat=U:=by omega
 have hixV:(((V+1:Nat):Int)-1).toNat=V:=by omega
 have hA:=h.pt (i:=0) (j:=0) (by omega) (by omega)
 have hB:=h.pt (i:=U) (j:=0) (by omega) (by omega)
 have hC:=h.pt (i:=0) (j:=V) (by omega) (by omega)
 have hT:(rows.flatten.map (·.p)).take (rows.flatten.map (·.p)).length=(rows.flatten.map (·.p)):=List.take_of_length_le (Nat.le_refl _)
 have hT2:(rows.flatten.map (·.p)).take rows.flatten.length=(rows.flatten.map (·.p)):=by rw [←hpl];exact hT
 refine dI Tryz.func27 (ht:=(jZ (aD.pure _) rfl)) ?_
 refine iJ ?_
 refine aB (aL (v:=false) rfl rfl ((beq_eq_false_iff_ne.2 (by first | omega | (simp only [List.length_map,cM,hrn,gB,t0,t1,Nat.add_sub_cancel,hr0,hixU,hrU];omega)))) rfl) mC ?_
 refine aB (aL (v:=false) rfl rfl ((beq_eq_false_iff_ne.2 (by first | omega | (simp only [List.length_map,cM,hrn,gB,t0,t1,Nat.add_sub_cancel,hr0,hixU,hrU];omega)))) rfl) kS ?_
 refine aB (aL (v:=false) rfl rfl ((beq_eq_false_iff_ne.2 (by first | omega | (simp only [List.length_map,cM,hrn,gB,t0,t1,Nat.add_sub_cancel,hr0,hixU,hrU];omega)))) rfl) ixA ?_
 refine aB (aL (v:=false) rfl rfl ((beq_eq_false_iff_ne.2 (by first | omega | (simp only [List.length_map,cM,hrn,gB,t0,t1,Nat.add_sub_cancel,hr0,hixU,hrU];omega)))) rfl) kS ?_
 refine aB (aL (v:=false) rfl rfl ((beq_eq_false_iff_ne.2 (by first | omega | (simp only [List.length_map,cM,hrn,gB,t0,t1,Nat.add_sub_cancel,hr0,hixU,hrU];omega)))) rfl) lnA ?_
 refine aB (aL (v:=false) rfl rfl ((beq_eq_false_iff_ne.2 (by first | omega | (simp only [List.length_map,cM,hrn,gB,t0,t1,Nat.add_sub_cancel,hr0,hixU,hrU];omega)))) rfl) (.bin rfl rfl rfl) ?_
 refine aB rfl (.pickF rfl ((beq_eq_false_iff_ne.2 (by first | omega | (simp only [List.length_map,cM,hrn,gB,t0,t1,Nat.add_sub_cancel,hr0,hixU,hrU];omega))))) ?_
 refine bE ?_
 refine aB (aL (v:=false) rfl rfl ((beq_eq_false_iff_ne.2 (by first | omega | (simp only [List.length_map,cM,hrn,gB,t0,t1,Nat.add_sub_cancel,hr0,hixU,hrU];omega)))) rfl) mC ?_
 refine aB (aL (v:=false) rfl rfl ((beq_eq_false_iff_ne.2 (by first | omega | (simp only [List.length_map,cM,hrn,gB,t0,t1,Nat.add_sub_cancel,hr0,hixU,hrU];omega)))) rfl) kS ?_
 refine aB (aL (v:=false) rfl rfl ((beq_eq_false_iff_ne.2 (by first | omega | (simp only [List.length_map,cM,hrn,gB,t0,t1,Nat.add_sub_cancel,hr0,hixU,hrU];omega)))) rfl) mC ?_
 refine aB (aL (v:=false) rfl rfl ((beq_eq_false_iff_ne.2 (by first | omega | (simp only [List.length_map,cM,hrn,gB,t0,t1,Nat.add_sub_cancel,hr0,hixU,hrU];omega)))) rfl) kS ?_
 refine aB (aL (v:=false) rfl rfl ((beq_eq_false_iff_ne.2 (by first | omega | (simp only [List.length_map,cM,hrn,gB,t0,t1,Nat.add_sub_cancel,hr0,hixU,hrU];omega)))) rfl) lnA ?_
 refine aB (aL (v:=false) rfl rfl ((beq_eq_false_iff_ne.2 (by first | omega | (simp only [List.length_map,cM,hrn,gB,t0,t1,Nat.add_sub_cancel,hr0,hixU,hrU];omega)))) rfl) (.bin rfl rfl (iG (by first | omega | (simp only [List.length_map,cM,hrn,gB,t0,t1,Nat.add_sub_cancel,hr0,hixU,hrU];omega)) (by first | omega | (simp only [List.length_map,cM,hrn,gB,t0,t1,Nat.add_sub_cancel,hr0,hixU,hrU];omega)))) ?_
 refine aB (aL (v:=false) rfl rfl ((beq_eq_false_iff_ne.2 (by first | omega | (simp only [List.length_map,cM,hrn,gB,t0,t1,Nat.add_sub_cancel,hr0,hixU,hrU];omega)))) rfl) ixA ?_
 try simp only [t1,gB,cM,List.length_map,hrn,hixU,Nat.add_sub_cancel]
 refine aB (aL (v:=false) rfl rfl ((beq_eq_false_iff_ne.2 (by first | omega | (simp only [List.length_map,cM,hrn,gB,t0,t1,Nat.add_sub_cancel,hr0,hixU,hrU];omega)))) rfl) kS ?_
 refine aB (aL (v:=false) rfl rfl ((beq_eq_false_iff_ne.2 (by first | omega | (simp only [List.length_map,cM,hrn,gB,t0,t1,Nat.add_sub_cancel,hr0,hixU,hrU];omega)))) rfl) lnA ?_
 refine aB (aL (v:=false) rfl rfl ((beq_eq_false_iff_ne.2 (by first | omega | (simp only [List.length_map,cM,hrn,gB,t0,t1,Nat.add_sub_cancel,hr0,hixU,hrU];omega)))) rfl) (.bin rfl rfl rfl) ?_
 refine aB rfl (.pickF rfl ((beq_eq_false_iff_ne.2 (by first | omega | (simp only [List.length_map,cM,hrn,gB,t0,t1,Nat.add_sub_cancel,hr0,hixU,hrU];omega))))) ?_
 refine cY ?_
 refine bX (b:=_) rfl (beq_eq_false_iff_ne.2 (by first | omega | (simp only [List.length_map,cM,hrn,gB,t0,t1,Nat.add_sub_cancel,hr0,hixU,hrU];omega))) ?_
 refine cW ?_
 refine g8 27 [25] (by decide +kernel) ?_
 refine dU ?_
 refine aB rfl (.bin rfl rfl (iG (by first | omega | (simp only [List.length_map,cM,hrn,gB,t0,t1,Nat.add_sub_cancel,hr0,hixU,hrU];omega)) (by first | omega | (simp only [List.length_map,cM,hrn,gB,t0,t1,Nat.add_sub_cancel,hr0,hixU,hrU];omega)))) ?_
 refine eC ?_
 refine aB rfl (.bin rfl rfl (iG (by first | omega | (simp only [List.length_map,cM,hrn,gB,t0,t1,Nat.add_sub_cancel,hr0,hixU,hrU];omega)) (by first | omega | (simp only [List.length_map,cM,hrn,gB,t0,t1,Nat.add_sub_cancel,hr0,hixU,hrU];omega)))) ?_
 refine cP ?_
 try simp only [t1,gB,gW,cM,List.length_map,hrn,hr0,hrU,hixU,hixV,Nat.add_sub_cancel]
 refine cp pS (aKC ((rows.getD 0 []).getD 0 default).p ((rows.getD U []).getD 0 default).p ((rows.getD 0 []).getD V default).p R (by omega) hA hB hC hz) ?_
 refine iJ ?_
 refine bK (b:=_) rfl (rfl) ?_
 refine cY ?_
 refine aB rfl (.build0 tI eH) ?_
 refine dL ?_
 exact kG [] rfl rfl rfl (aD.csize _) (aJ _) cX (.pure (aD.pure _)) rfl (.pure rfl)
namespace Zq88
theorem dG {p q:Prop} (k:q) (e:p=q:=by simp only [e1,e2,e3,e4,p1,p2,p3,q1,q2,q3,l1,t0,t1,r1,r2,r3,r4,Nat.zero_add,Nat.reduceMul,Nat.reduceAdd,b1,b2,b3,b4,b5,b6,i1,i2,i3,i4,i5,i6,Nat.reduceBEq,hT,hT2,eW,aI9,aDz,Nat.add_sub_cancel,gB,gW,cM,hrn,hr0,hrU,hixU,hixV,hpl,List.length_map,List.take_zero,zQ,aIn,List.set_cons_zero,List.set_cons_succ,Nat.reduceEqDiff,reduceIte,if_true,if_false,bG,bF,aC fF,aC eI,aC aD,aS,aZ,LV.kill,bB];exact rfl):p:=e.mpr k
end Zq88
open Zq88 in
theorem aDJ (R U V:Nat) (kU kV:List Rat) (rows:List (List PoR)) (h:pf R U V rows) (hR:R≤200000) (hz:l6 (d7 ((rows.getD 0 []).getD 0 default).p ((rows.getD U []).getD 0 default).p ((rows.getD 0 []).getD V default).p) ⟨0,0,0⟩=false):aM Tryz.prog 27 [.agg [aE U,aE V,.list 3 (kU.map ratL),.list 3 (kV.map ratL),.list 1 (rows.map cM)]] (.tup [ratL ((xZ (d7 ((rows.getD 0 []).getD 0 default).p ((rows.getD U []).getD 0 default).p ((rows.getD 0 []).getD V default).p) (fL (d7 ((rows.getD 0 []).getD 0 default).p ((rows.getD U []).getD 0 default).p ((rows.getD 0 []).getD V default).p) ((rows.getD 0 []).getD 0 default).p) (rows.flatten.map (·.p)))/(fL (d7 ((rows.getD 0 []).getD 0 default).p ((rows.getD U []).getD 0 default).p ((rows.getD 0 []).getD V default).p) (d7 ((rows.getD 0 []).getD 0 default).p ((rows.getD U []).getD 0 default).p ((rows.getD 0 []).getD V default).p))),iL 0]):=by
 have hsp:LV.pure (.agg [aE U,aE V,.list 3 (kU.map ratL),.list 3 (kV.map ratL),.list 1 (rows.map cM)])=true:=by simp [LV.pure,aY,aH aD,aH gY]
 have h16:=h.l16
 have h0:=h.pos
 have hpl:(rows.flatten.map (·.p)).length=rows.flatten.length:=List.length_map ..
 have hu3:=h.u3
 have hv3:=h.v3
 have hrn:=h.n
 have hr0:=h.r0 (Nat.zero_le U)
 have hrU:=h.r0 (Nat.le_refl U)
 have hixU:(((U+1:Nat):Int)-1).toNat=U:=by omega
 have hixV:(((V+1:Nat):Int)-1).toNat=V:=by omega
 have hA:=h.pt (i:=0) (j:=0) (by omega) (by omega)
 have hB:=h.pt (i:=U) (j:=0) (by omega) (by omega)
 have hC:=h.pt (i:=0) (j:=V) (by omega) (by omega)
 have hT:(rows.flatten.map (·.p)).take (rows.flatten.map (·.p)).length=(rows.flatten.map (·.p)):=List.take_of_length_le (Nat.le_refl _)
 have hT2:(rows.flatten.map (·.p)).take rows.flatten.length=(rows.flatten.map (·.p)):=by rw [←hpl];exact hT
 have hnb:jF (8*R+9) (d7 ((rows.getD 0 []).getD 0 default).p ((rows.getD U []).getD 0 default).p ((rows.getD 0 []).getD V default).p):=h.thb
 have hdr:rl (fL (d7 ((rows.getD 0 []).getD 0 default).p ((rows.getD U []).getD 0 default).p ((rows.getD 0 []).getD V default).p) ((rows.getD 0 []).getD 0 default).p)≤27*R+31:=by have:=rI hnb hA;omega
 have hdd:rl (fL (d7 ((rows.getD 0 []).getD 0 default).p ((rows.getD U []).getD 0 default).p ((rows.getD 0 []).getD V default).p) (d7 ((rows.getD 0 []).getD 0 default).p ((rows.getD U []).getD 0 default).p ((rows.getD 0 []).getD V default).p))≤48*R+58:=by have:=rI hnb hnb;omega
 have hfa:=fun i=>aCi hnb hdr h.fa i
 have hdp:0<(fL (d7 ((rows.getD 0 []).getD 0 default).p ((rows.getD U []).getD 0 default).p ((rows.getD 0 []).getD V default).p) (d7 ((rows.getD 0 []).getD 0 default).p ((rows.getD U []).getD 0 default).p ((rows.getD 0 []).getD V default).p)):=aHc hz
 refine dI Tryz.func27 (ht:=(jZ (aD.pure _) rfl)) ?_
 refine iJ ?_
 refine aB (aL (v:=false) rfl rfl ((beq_eq_false_iff_ne.2 (by first | omega | (simp only [List.length_map,cM,hrn,gB,t0,t1,Nat.add_sub_cancel,hr0,hixU,hrU];omega)))) rfl) mC ?_
 refine aB (aL (v:=false) rfl rfl ((beq_eq_false_iff_ne.2 (by first | omega | (simp only [List.length_map,cM,hrn,gB,t0,t1,Nat.add_sub_cancel,hr0,hixU,hrU];omega)))) rfl) kS ?_
 refine aB (aL (v:=false) rfl rfl ((beq_eq_false_iff_ne.2 (by first | omega | (simp only [List.length_map,cM,hrn,gB,t0,t1,Nat.add_sub_cancel,hr0,hixU,hrU];omega)))) rfl) ixA ?_
 refine aB (aL (v:=false) rfl rfl ((beq_eq_false_iff_ne.2 (by first | omega | (simp only [List.length_map,cM,hrn,gB,t0,t1,Nat.add_sub_cancel,hr0,hixU,hrU];omega)))) rfl) kS ?_
 refine aB (aL (v:=false) rfl rfl ((beq_eq_false_iff_ne.2 (by first | omega | (simp only [List.length_map,cM,hrn,gB,t0,t1,Nat.add_sub_cancel,hr0,hixU,hrU];omega)))) rfl) lnA ?_
 refine aB (aL (v:=false) rfl rfl ((beq_eq_false_iff_ne.2 (by first | omega | (simp only [List.length_map,cM,hrn,gB,t0,t1,Nat.add_sub_cancel,hr0,hixU,hrU];omega)))) rfl) (.bin rfl rfl rfl) ?_
 refine aB rfl (.pickF rfl ((beq_eq_false_iff_ne.2 (by first | omega | (simp only [List.length_map,cM,hrn,gB,t0,t1,Nat.add_sub_cancel,hr0,hixU,hrU];omega))))) ?_
 refine bE ?_
 refine aB (aL (v:=false) rfl rfl ((beq_eq_false_iff_ne.2 (by first | omega | (simp only [List.length_map,cM,hrn,gB,t0,t1,Nat.add_sub_cancel,hr0,hixU,hrU];omega)))) rfl) mC ?_
 refine aB (aL (v:=false) rfl rfl ((beq_eq_false_iff_ne.2 (by first | omega | (simp only [List.length_map,cM,hrn,gB,t0,t1,Nat.add_sub_cancel,hr0,hixU,hrU];omega)))) rfl) kS ?_
 refine aB (aL (v:=false) rfl rfl ((beq_eq_false_iff_ne.2 (by first | omega | (simp only [List.length_map,cM,hrn,gB,t0,t1,Nat.add_sub_cancel,hr0,hixU,hrU];omega)))) rfl) mC ?_
 refine aB (aL (v:=false) rfl rfl ((beq_eq_false_iff_ne.2 (by first | omega | (simp only [List.length_map,cM,hrn,gB,t0,t1,Nat.add_sub_cancel,hr0,hixU,hrU];omega)))) rfl) kS ?_
 refine aB (aL (v:=false) rfl rfl ((beq_eq_false_iff_ne.2 (by first | omega | (simp only [List.length_map,cM,hrn,gB,t0,t1,Nat.add_sub_cancel,hr0,hixU,hrU];omega)))) rfl) lnA ?_
 refine aB (aL (v:=false) rfl rfl ((beq_eq_false_iff_ne.2 (by first | omega | (simp only [List.length_map,cM,hrn,gB,t0,t1,Nat.add_sub_cancel,hr0,hixU,hrU];omega)))) rfl) (.bin rfl rfl (iG (by first | omega | (simp only [List.length_map,cM,hrn,gB,t0,t1,Nat.add_sub_cancel,hr0,hixU,hrU];omega)) (by first | omega | (simp only [List.length_map,cM,hrn,gB,t0,t1,Nat.add_sub_cancel,hr0,hixU,hrU];omega)))) ?_
 refine aB (aL (v:=false) rfl rfl ((beq_eq_false_iff_ne.2 (by first | omega | (simp only [List.length_map,cM,hrn,gB,t0,t1,Nat.add_sub_cancel,hr0,hixU,hrU];omega)))) rfl) ixA ?_
 try simp only [t1,gB,cM,List.length_map,hrn,hixU,Nat.add_sub_cancel]
 refine aB (aL (v:=false) rfl rfl ((beq_eq_false_iff_ne.2 (by first | omega | (simp only [List.length_map,cM,hrn,gB,t0,t1,Nat.add_sub_cancel,hr0,hixU,hrU];omega)))) rfl) kS ?_
 refine aB (aL (v:=false) rfl rfl ((beq_eq_false_iff_ne.2 (by first | omega | (simp only [List.length_map,cM,hrn,gB,t0,t1,Nat.add_sub_cancel,hr0,hixU,hrU];omega)))) rfl) lnA ?_
 refine aB (aL (v:=false) rfl rfl ((beq_eq_false_iff_ne.2 (by first | omega | (simp only [List.length_map,cM,hrn,gB,t0,t1,Nat.add_sub_cancel,hr0,hixU,hrU];omega)))) rfl) (.bin rfl rfl rfl) ?_
 refine aB rfl (.pickF rfl ((beq_eq_false_iff_ne.2 (by first | omega | (simp only [List.length_map,cM,hrn,gB,t0,t1,Nat.add_sub_cancel,hr0,hixU,hrU];omega))))) ?_
 refine cY ?_
 refine bX (b:=_) rfl (beq_eq_false_iff_ne.2 (by first | omega | (simp only [List.length_map,cM,hrn,gB,t0,t1,Nat.add_sub_cancel,hr0,hixU,hrU];omega))) ?_
 refine cW ?_
 refine g8 27 [25] (by decide +kernel) ?_
 refine dU ?_
 refine aB rfl (.bin rfl rfl (iG (by first | omega | (simp only [List.length_map,cM,hrn,gB,t0,t1,Nat.add_sub_cancel,hr0,hixU,hrU];omega)) (by first | omega | (simp only [List.length_map,cM,hrn,gB,t0,t1,Nat.add_sub_cancel,hr0,hixU,hrU];omega)))) ?_
 refine eC ?_
 refine aB rfl (.bin rfl rfl (iG (by first | omega | (simp only [List.length_map,cM,hrn,gB,t0,t1,Nat.add_sub_cancel,hr0,hixU,hrU];omega)) (by first | omega | (simp only [List.length_map,cM,hrn,gB,t0,t1,Nat.add_sub_cancel,hr0,hixU,hrU];omega)))) ?_
 refine cP ?_
 try simp only [t1,gB,gW,cM,List.length_map,hrn,hr0,hrU,hixU,hixV,Nat.add_sub_cancel]
 refine cp pS (aMG ((rows.getD 0 []).getD 0 default).p ((rows.getD U []).getD 0 default).p ((rows.getD 0 []).getD V default).p R (by omega) hA hB hC hz) ?_
 refine iJ ?_
 refine bX (b:=_) rfl (rfl) ?_
 refine cV ?_
 refine cp dC (aHO U V kU kV rows R h.rw) ?_
 refine dR ?_
 refine lX (fun(i:Nat) L=>((((((((St.mk L.slot (hp [(1,⟨5,[.agg [aE U,aE V,.list 3 (kU.map ratL),.list 3 (kV.map ratL),.list 1 (rows.map cM)]],true⟩),(2,⟨3,[ratL 0],true⟩),(5,⟨12,[gZ ⟨(d7 ((rows.getD 0 []).getD 0 default).p ((rows.getD U []).getD 0 default).p ((rows.getD 0 []).getD V default).p),(fL (d7 ((rows.getD 0 []).getD 0 default).p ((rows.getD U []).getD 0 default).p ((rows.getD 0 []).getD V default).p) ((rows.getD 0 []).getD 0 default).p)⟩],true⟩),(7,⟨3,[ratL (xZ (d7 ((rows.getD 0 []).getD 0 default).p ((rows.getD U []).getD 0 default).p ((rows.getD 0 []).getD V default).p) (fL (d7 ((rows.getD 0 []).getD 0 default).p ((rows.getD U []).getD 0 default).p ((rows.getD 0 []).getD V default).p) ((rows.getD 0 []).getD 0 default).p) ((rows.flatten.map (·.p)).take i))],true⟩)])).put (some 1) (.eptr 1 5 0 0)).put (some 2) (.eptr 2 3 0 0)).put (some 5) (.eptr 5 12 0 0)).put (some 7) (.eptr 7 3 0 0)).put (some 73) (.list 9 ((rows.flatten.map (·.p)).map fA))).put (some 74) (aE (rows.flatten.map (·.p)).length)).put (some 75) (aE i))) (fun i=>i≤(rows.flatten.map (·.p)).length) (fun i=>(rows.flatten.map (·.p)).length-i) 0 (Nat.zero_le _) ?_
 rintro i L1 hi
 refine dB ?_
 refine aK rfl (fun h76r h76=>?_) (fun h76r h76=>?_)
 ·have hi2:i<(rows.flatten.map (·.p)).length:=by omega
  have hP:=h.fp hi2
  obtain⟨z1,z2,z3⟩:=aGB hnb hdr hP
  have hfi:=hfa i
  have hM:aM Tryz.prog 84 [ratL (xZ (d7 ((rows.getD 0 []).getD 0 default).p ((rows.getD U []).getD 0 default).p ((rows.getD 0 []).getD V default).p) (fL (d7 ((rows.getD 0 []).getD 0 default).p ((rows.getD U []).getD 0 default).p ((rows.getD 0 []).getD V default).p) ((rows.getD 0 []).getD 0 default).p) ((rows.flatten.map (·.p)).take i)),ratL ((fL (d7 ((rows.getD 0 []).getD 0 default).p ((rows.getD U []).getD 0 default).p ((rows.getD 0 []).getD V default).p) ((rows.flatten.map (·.p)).getD i default)-(fL (d7 ((rows.getD 0 []).getD 0 default).p ((rows.getD U []).getD 0 default).p ((rows.getD 0 []).getD V default).p) ((rows.getD 0 []).getD 0 default).p))*(fL (d7 ((rows.getD 0 []).getD 0 default).p ((rows.getD U []).getD 0 default).p ((rows.getD 0 []).getD V default).p) ((rows.flatten.map (·.p)).getD i default)-(fL (d7 ((rows.getD 0 []).getD 0 default).p ((rows.getD U []).getD 0 default).p ((rows.getD 0 []).getD V default).p) ((rows.getD 0 []).getD 0 default).p)))] (ratL (xZ (d7 ((rows.getD 0 []).getD 0 default).p ((rows.getD U []).getD 0 default).p ((rows.getD 0 []).getD V default).p) (fL (d7 ((rows.getD 0 []).getD 0 default).p ((rows.getD U []).getD 0 default).p ((rows.getD 0 []).getD V default).p) ((rows.getD 0 []).getD 0 default).p) ((rows.flatten.map (·.p)).take (i+1)))):=by
   have:aM Tryz.prog 84 [ratL (xZ (d7 ((rows.getD 0 []).getD 0 default).p ((rows.getD U []).getD 0 default).p ((rows.getD 0 []).getD V default).p) (fL (d7 ((rows.getD 0 []).getD 0 default).p ((rows.getD U []).getD 0 default).p ((rows.getD 0 []).getD V default).p) ((rows.getD 0 []).getD 0 default).p) ((rows.flatten.map (·.p)).take i)),ratL ((fL (d7 ((rows.getD 0 []).getD 0 default).p ((rows.getD U []).getD 0 default).p ((rows.getD 0 []).getD V default).p) ((rows.flatten.map (·.p)).getD i default)-(fL (d7 ((rows.getD 0 []).getD 0 default).p ((rows.getD U []).getD 0 default).p ((rows.getD 0 []).getD V default).p) ((rows.getD 0 []).getD 0 default).p))*(fL (d7 ((rows.getD 0 []).getD 0 default).p ((rows.getD U []).getD 0 default).p ((rows.getD 0 []).getD V default).p) ((rows.flatten.map (·.p)).getD i default)-(fL (d7 ((rows.getD 0 []).getD 0 default).p ((rows.getD U []).getD 0 default).p ((rows.getD 0 []).getD V default).p) ((rows.getD 0 []).getD 0 default).p)))] (ratL (vB (xZ (d7 ((rows.getD 0 []).getD 0 default).p ((rows.getD U []).getD 0 default).p ((rows.getD 0 []).getD V default).p) (fL (d7 ((rows.getD 0 []).getD 0 default).p ((rows.getD U []).getD 0 default).p ((rows.getD 0 []).getD V default).p) ((rows.getD 0 []).getD 0 default).p) ((rows.flatten.map (·.p)).take i)) ((fL (d7 ((rows.getD 0 []).getD 0 default).p ((rows.getD U []).getD 0 default).p ((rows.getD 0 []).getD V default).p) ((rows.flatten.map (·.p)).getD i default)-(fL (d7 ((rows.getD 0 []).getD 0 default).p ((rows.getD U []).getD 0 default).p ((rows.getD 0 []).getD V default).p) ((rows.getD 0 []).getD 0 default).p))*(fL (d7 ((rows.getD 0 []).getD 0 default).p ((rows.getD U []).getD 0 default).p ((rows.getD 0 []).getD V default).p) ((rows.flatten.map (·.p)).getD i default)-(fL (d7 ((rows.getD 0 []).getD 0 default).p ((rows.getD U []).getD 0 default).p ((rows.getD 0 []).getD V default).p) ((rows.getD 0 []).getD 0 default).p))))):=aCv (xZ (d7 ((rows.getD 0 []).getD 0 default).p ((rows.getD U []).getD 0 default).p ((rows.getD 0 []).getD V default).p) (fL (d7 ((rows.getD 0 []).getD 0 default).p ((rows.getD U []).getD 0 default).p ((rows.getD 0 []).getD V default).p) ((rows.getD 0 []).getD 0 default).p) ((rows.flatten.map (·.p)).take i)) ((fL (d7 ((rows.getD 0 []).getD 0 default).p ((rows.getD U []).getD 0 default).p ((rows.getD 0 []).getD V default).p) ((rows.flatten.map (·.p)).getD i default)-(fL (d7 ((rows.getD 0 []).getD 0 default).p ((rows.getD U []).getD 0 default).p ((rows.getD 0 []).getD V default).p) ((rows.getD 0 []).getD 0 default).p))*(fL (d7 ((rows.getD 0 []).getD 0 default).p ((rows.getD U []).getD 0 default).p ((rows.getD 0 []).getD V default).p) ((rows.flatten.map (·.p)).getD i default)-(fL (d7 ((rows.getD 0 []).getD 0 default).p ((rows.getD U []).getD 0 default).p ((rows.getD 0 []).getD V default).p) ((rows.getD 0 []).getD 0 default).p))) (by omega)
   rwa [aD0 _ _ _ hi2] at this
  refine eA ?_
  refine aP 8 (by decide +kernel) ?_
  refine cP ?_
  refine cp b9 (aCZ (d7 ((rows.getD 0 []).getD 0 default).p ((rows.getD U []).getD 0 default).p ((rows.getD 0 []).getD V default).p) ((rows.flatten.map (·.p)).getD i default) (8*R+9) (by omega) hnb (hP.le (by omega))) ?_
  refine cY ?_
  refine cp b9 (lK (fL (d7 ((rows.getD 0 []).getD 0 default).p ((rows.getD U []).getD 0 default).p ((rows.getD 0 []).getD V default).p) ((rows.flatten.map (·.p)).getD i default)) (fL (d7 ((rows.getD 0 []).getD 0 default).p ((rows.getD U []).getD 0 default).p ((rows.getD 0 []).getD V default).p) ((rows.getD 0 []).getD 0 default).p) (by omega)) ?_
  refine cO ?_
  refine aP 5 (by decide +kernel) ?_
  refine cP ?_
  refine cp b9 (fN (fL (d7 ((rows.getD 0 []).getD 0 default).p ((rows.getD U []).getD 0 default).p ((rows.getD 0 []).getD V default).p) ((rows.flatten.map (·.p)).getD i default)-(fL (d7 ((rows.getD 0 []).getD 0 default).p ((rows.getD U []).getD 0 default).p ((rows.getD 0 []).getD V default).p) ((rows.getD 0 []).getD 0 default).p)) (fL (d7 ((rows.getD 0 []).getD 0 default).p ((rows.getD U []).getD 0 default).p ((rows.getD 0 []).getD V default).p) ((rows.flatten.map (·.p)).getD i default)-(fL (d7 ((rows.getD 0 []).getD 0 default).p ((rows.getD U []).getD 0 default).p ((rows.getD 0 []).getD V default).p) ((rows.getD 0 []).getD 0 default).p)) (by omega)) ?_
  refine cp b9 (hM) ?_
  refine cO ?_
  refine bR ((bI.kill _ 10).trans (bI.kill _ 9)) ?_
  refine aB rfl (.bin rfl rfl (bV (by omega))) ?_
  refine cP ?_
  exact kE (i+1) (by omega)
 ·obtain rfl:i=(rows.flatten.map (·.p)).length:=by omega
  refine dB ?_
  refine g8 11 [9] (by decide +kernel) ?_
  refine dR ?_
  refine cp b9 (aCZ (d7 ((rows.getD 0 []).getD 0 default).p ((rows.getD U []).getD 0 default).p ((rows.getD 0 []).getD V default).p) (d7 ((rows.getD 0 []).getD 0 default).p ((rows.getD U []).getD 0 default).p ((rows.getD 0 []).getD V default).p) (8*R+9) (by omega) hnb hnb) ?_
  simp only [hT]
  refine cp b9 (aAi (xZ (d7 ((rows.getD 0 []).getD 0 default).p ((rows.getD U []).getD 0 default).p ((rows.getD 0 []).getD V default).p) (fL (d7 ((rows.getD 0 []).getD 0 default).p ((rows.getD U []).getD 0 default).p ((rows.getD 0 []).getD V default).p) ((rows.getD 0 []).getD 0 default).p) (rows.flatten.map (·.p))) (fL (d7 ((rows.getD 0 []).getD 0 default).p ((rows.getD U []).getD 0 default).p ((rows.getD 0 []).getD V default).p) (d7 ((rows.getD 0 []).getD 0 default).p ((rows.getD U []).getD 0 default).p ((rows.getD 0 []).getD V default).p)) (by have:=hfa (rows.flatten.map (·.p)).length;rw [hT] at this;omega)) ?_
  refine mY ?_
  exact kG [] rfl rfl rfl (aD.csize _) (aJ _) cX (.pure (aD.pure _)) rfl (.pure rfl)
namespace Zq28
theorem dG {p q:Prop} (k:q) (e:p=q:=by simp only [e1,e2,e3,e4,p1,p2,p3,q1,q2,q3,l1,t0,t1,r1,r2,r3,r4,Nat.zero_add,Nat.reduceMul,Nat.reduceAdd,b1,b2,b3,b4,b5,b6,i1,i2,i3,i4,i5,i6,Nat.reduceBEq,hT,hT2,aI9,aDz,Nat.add_sub_cancel,gB,gW,cM,hrn,hr0,hrU,hixU,hixV,hpl,List.length_map,List.take_zero,zQ,aIn,List.set_cons_zero,List.set_cons_succ,Nat.reduceEqDiff,reduceIte,if_true,if_false,bG,bF,aC fF,aC eI,aC aD,aS,aZ,LV.kill,bB];exact rfl):p:=e.mpr k
end Zq28
open Zq28 in
theorem aEv (R U V:Nat) (kU kV:List Rat) (rows:List (List PoR)) (h:pf R U V rows) (hR:R≤200000) (hz:l6 (d7 ((rows.getD 0 []).getD 0 default).p ((rows.getD U []).getD 0 default).p ((rows.getD 0 []).getD V default).p) ⟨0,0,0⟩=true):aM Tryz.prog 28 [.agg [aE U,aE V,.list 3 (kU.map ratL),.list 3 (kV.map ratL),.list 1 (rows.map cM)]] (.tup [ratL 0,iL 9]):=by
 have hsp:LV.pure (.agg [aE U,aE V,.list 3 (kU.map ratL),.list 3 (kV.map ratL),.list 1 (rows.map cM)])=true:=by simp [LV.pure,aY,aH aD,aH gY]
 have h16:=h.l16
 have h0:=h.pos
 have hpl:(rows.flatten.map (·.p)).length=rows.flatten.length:=List.length_map ..
 have hu3:=h.u3
 have hv3:=h.v3
 have hrn:=h.n
 have hr0:=h.r0 (Nat.zero_le U)
 have hrU:=h.r0 (Nat.le_refl U)
 have hixU:(((U+1:Nat):Int)-1).toNat=U:=by omega
 have hixV:(((V+1:Nat):Int)-1).toNat=V:=by omega
 have hA:=h.pt (i:=0) (j:=0) (by omega) (by omega)
 have hB:=h.pt (i:=U) (j:=0) (by omega) (by omega)
 have hC:=h.pt (i:=0) (j:=V) (by omega) (by omega)
 have hT:(rows.flatten.map (·.p)).take (rows.flatten.map (·.p)).length=(rows.flatten.map (·.p)):=List.take_of_length_le (Nat.le_refl _)
 have hT2:(rows.flatten.map (·.p)).take rows.flatten.length=(rows.flatten.map (·.p)):=by rw [←hpl];exact hT
 refine dI Tryz.func28 (ht:=(jZ (aD.pure _) rfl)) ?_
 refine eC ?_
 refine g8 30 [28] (by decide +kernel) ?_
 refine aE0 ?_
 try simp only [t1,gB,gW,cM,List.length_map]
 refine cp pS (aJw ((rows.getD 0 []).getD 0 default).p ((rows.getD U []).getD 0 default).p ((rows.getD 0 []).getD V default).p R (by omega) hA hB hC hz) ?_
 refine iJ ?_
 refine bK (b:=_) rfl (rfl) ?_
 refine cY ?_
 refine aB rfl (.build0 tI eH) ?_
 refine dL ?_
 exact kG [] rfl rfl rfl (aD.csize _) (aJ _) cX (.pure (aD.pure _)) rfl (.pure rfl)
namespace Zq27
theorem dG {p q:Prop} (k:q) (e:p=q:=by simp only [e1,e2,e3,e4,p1,p2,p3,q1,q2,q3,l1,t0,t1,r1,r2,r3,r4,Nat.zero_add,Nat.reduceMul,Nat.reduceAdd,b1,b2,b3,b4,b5,b6,i1,i2,i3,i4,i5,i6,Nat.reduceBEq,hT,hT2,eW,aI9,aDz,Nat.add_sub_cancel,gB,gW,cM,hrn,hr0,hrU,hixU,hixV,hpl,List.length_map,List.take_zero,zQ,aIn,List.set_cons_zero,List.set_cons_succ,Nat.reduceEqDiff,reduceIte,if_true,if_false,bG,bF,aC fF,aC eI,aC aD,aS,aZ,LV.kill,bB];exact rfl):p:=e.mpr k
end Zq27
open Zq27 in
theorem aFP (R U V:Nat) (kU kV:List Rat) (rows:List (List PoR)) (h:pf R U V rows) (hR:R≤200000) (hz:l6 (d7 ((rows.getD 0 []).getD 0 default).p ((rows.getD U []).getD 0 default).p ((rows.getD 0 []).getD V default).p) ⟨0,0,0⟩=false):aM Tryz.prog 28 [.agg [aE U,aE V,.list 3 (kU.map ratL),.list 3 (kV.map ratL),.list 1 (rows.map cM)]] (.tup [ratL ((xZ (d7 ((rows.getD 0 []).getD 0 default).p ((rows.getD U []).getD 0 default).p ((rows.getD 0 []).getD V default).p) (fL (d7 ((rows.getD 0 []).getD 0 default).p ((rows.getD U []).getD 0 default).p ((rows.getD 0 []).getD V default).p) ((rows.getD 0 []).getD 0 default).p) (rows.flatten.map (·.p)))/(fL (d7 ((rows.getD 0 []).getD 0 default).p ((rows.getD U []).getD 0 default).p ((rows.getD 0 []).getD V default).p) (d7 ((rows.getD 0 []).getD 0 default).p ((rows.getD U []).getD 0 default).p ((rows.getD 0 []).getD V default).p))),iL 0]):=by
 have hsp:LV.pure (.agg [aE U,aE V,.list 3 (kU.map ratL),.list 3 (kV.map ratL),.list 1 (rows.map cM)])=true:=by simp [LV.pure,aY,aH aD,aH gY]
 have h16:=h.l16
 have h0:=h.pos
 have hpl:(rows.flatten.map (·.p)).length=rows.flatten.length:=List.length_map ..
 have hu3:=h.u3
 have hv3:=h.v3
 have hrn:=h.n
 have hr0:=h.r0 (Nat.zero_le U)
 have hrU:=h.r0 (Nat.le_refl U)
 have hixU:(((U+1:Nat):Int)-1).toNat=U:=by omega
 have hixV:(((V+1:Nat):Int)-1).toNat=V:=by omega
 have hA:=h.pt (i:=0) (j:=0) (by omega) (by omega)
 have hB:=h.pt (i:=U) (j:=0) (by omega) (by omega)
 have hC:=h.pt (i:=0) (j:=V) (by omega) (by omega)
 have hT:(rows.flatten.map (·.p)).take (rows.flatten.map (·.p)).length=(rows.flatten.map (·.p)):=List.take_of_length_le (Nat.le_refl _)
 have hT2:(rows.flatten.map (·.p)).take rows.flatten.length=(rows.flatten.map (·.p)):=by rw [←hpl];exact hT
 have hnb:jF (8*R+9) (d7 ((rows.getD 0 []).getD 0 default).p ((rows.getD U []).getD 0 default).p ((rows.getD 0 []).getD V default).p):=h.thb
 have hdr:rl (fL (d7 ((rows.getD 0 []).getD 0 default).p ((rows.getD U []).getD 0 default).p ((rows.getD 0 []).getD V default).p) ((rows.getD 0 []).getD 0 default).p)≤27*R+31:=by have:=rI hnb hA;omega
 have hdd:rl (fL (d7 ((rows.getD 0 []).getD 0 default).p ((rows.getD U []).getD 0 default).p ((rows.getD 0 []).getD V default).p) (d7 ((rows.getD 0 []).getD 0 default).p ((rows.getD U []).getD 0 default).p ((rows.getD 0 []).getD V default).p))≤48*R+58:=by have:=rI hnb hnb;omega
 have hfa:=fun i=>aCi hnb hdr h.fa i
 have hdp:0<(fL (d7 ((rows.getD 0 []).getD 0 default).p ((rows.getD U []).getD 0 default).p ((rows.getD 0 []).getD V default).p) (d7 ((rows.getD 0 []).getD 0 default).p ((rows.getD U []).getD 0 default).p ((rows.getD 0 []).getD V default).p)):=aHc hz
 refine dI Tryz.func28 (ht:=(jZ (aD.pure _) rfl)) ?_
 refine eC ?_
 refine g8 30 [28] (by decide +kernel) ?_
 refine aE0 ?_
 try simp only [t1,gB,gW,cM,List.length_map]
 refine cp pS (aKM ((rows.getD 0 []).getD 0 default).p ((rows.getD U []).getD 0 default).p ((rows.getD 0 []).getD V default).p R (by omega) hA hB hC hz) ?_
 refine iJ ?_
 refine bX (b:=_) rfl (rfl) ?_
 refine cN ?_
 refine cp dC (aEf U V kU kV rows R h.rw) ?_
 refine cN ?_
 refine lX (fun(i:Nat) L=>(((((((St.mk L.slot (hp [(1,⟨5,[.agg [aE U,aE V,.list 3 (kU.map ratL),.list 3 (kV.map ratL),.list 1 (rows.map cM)]],true⟩),(2,⟨3,[ratL 0],true⟩),(4,⟨12,[gZ ⟨(d7 ((rows.getD 0 []).getD 0 default).p ((rows.getD U []).getD 0 default).p ((rows.getD 0 []).getD V default).p),(fL (d7 ((rows.getD 0 []).getD 0 default).p ((rows.getD U []).getD 0 default).p ((rows.getD 0 []).getD V default).p) ((rows.getD 0 []).getD 0 default).p)⟩],true⟩),(6,⟨3,[ratL ((xZ (d7 ((rows.getD 0 []).getD 0 default).p ((rows.getD U []).getD 0 default).p ((rows.getD 0 []).getD V default).p) (fL (d7 ((rows.getD 0 []).getD 0 default).p ((rows.getD U []).getD 0 default).p ((rows.getD 0 []).getD V default).p) ((rows.getD 0 []).getD 0 default).p) ((rows.flatten.map (·.p)).take i))/(fL (d7 ((rows.getD 0 []).getD 0 default).p ((rows.getD U []).getD 0 default).p ((rows.getD 0 []).getD V default).p) (d7 ((rows.getD 0 []).getD 0 default).p ((rows.getD U []).getD 0 default).p ((rows.getD 0 []).getD V default).p)))],true⟩)])).put (some 1) (.eptr 1 5 0 0)).put (some 2) (.eptr 2 3 0 0)).put (some 4) (.eptr 4 12 0 0)).put (some 6) (.eptr 6 3 0 0)).put (some 7) (.list 9 ((rows.flatten.map (·.p)).map fA))).put (some 8) (aE i))) (fun i=>i≤(rows.flatten.map (·.p)).length) (fun i=>(rows.flatten.map (·.p)).length-i) 0 (Nat.zero_le _) ?_
 rintro i L1 hi
 refine dU ?_
 refine aK rfl (fun h48r h48=>?_) (fun h48r h48=>?_)
 ·have hi2:i<(rows.flatten.map (·.p)).length:=by omega
  have hP:=h.fp hi2
  obtain⟨z1,z2,z3⟩:=aGB hnb hdr hP
  have hfi:=hfa i
  have hq1:=pQ (xZ (d7 ((rows.getD 0 []).getD 0 default).p ((rows.getD U []).getD 0 default).p ((rows.getD 0 []).getD V default).p) (fL (d7 ((rows.getD 0 []).getD 0 default).p ((rows.getD U []).getD 0 default).p ((rows.getD 0 []).getD V default).p) ((rows.getD 0 []).getD 0 default).p) ((rows.flatten.map (·.p)).take i)) (fL (d7 ((rows.getD 0 []).getD 0 default).p ((rows.getD U []).getD 0 default).p ((rows.getD 0 []).getD V default).p) (d7 ((rows.getD 0 []).getD 0 default).p ((rows.getD U []).getD 0 default).p ((rows.getD 0 []).getD V default).p))
  have hq2:=pQ ((fL (d7 ((rows.getD 0 []).getD 0 default).p ((rows.getD U []).getD 0 default).p ((rows.getD 0 []).getD V default).p) ((rows.flatten.map (·.p)).getD i default)-(fL (d7 ((rows.getD 0 []).getD 0 default).p ((rows.getD U []).getD 0 default).p ((rows.getD 0 []).getD V default).p) ((rows.getD 0 []).getD 0 default).p))*(fL (d7 ((rows.getD 0 []).getD 0 default).p ((rows.getD U []).getD 0 default).p ((rows.getD 0 []).getD V default).p) ((rows.flatten.map (·.p)).getD i default)-(fL (d7 ((rows.getD 0 []).getD 0 default).p ((rows.getD U []).getD 0 default).p ((rows.getD 0 []).getD V default).p) ((rows.getD 0 []).getD 0 default).p))) (fL (d7 ((rows.getD 0 []).getD 0 default).p ((rows.getD U []).getD 0 default).p ((rows.getD 0 []).getD V default).p) (d7 ((rows.getD 0 []).getD 0 default).p ((rows.getD U []).getD 0 default).p ((rows.getD 0 []).getD V default).p))
  have hM:aM Tryz.prog 86 [ratL ((xZ (d7 ((rows.getD 0 []).getD 0 default).p ((rows.getD U []).getD 0 default).p ((rows.getD 0 []).getD V default).p) (fL (d7 ((rows.getD 0 []).getD 0 default).p ((rows.getD U []).getD 0 default).p ((rows.getD 0 []).getD V default).p) ((rows.getD 0 []).getD 0 default).p) ((rows.flatten.map (·.p)).take i))/(fL (d7 ((rows.getD 0 []).getD 0 default).p ((rows.getD U []).getD 0 default).p ((rows.getD 0 []).getD V default).p) (d7 ((rows.getD 0 []).getD 0 default).p ((rows.getD U []).getD 0 default).p ((rows.getD 0 []).getD V default).p))),ratL ((fL (d7 ((rows.getD 0 []).getD 0 default).p ((rows.getD U []).getD 0 default).p ((rows.getD 0 []).getD V default).p) ((rows.flatten.map (·.p)).getD i default)-(fL (d7 ((rows.getD 0 []).getD 0 default).p ((rows.getD U []).getD 0 default).p ((rows.getD 0 []).getD V default).p) ((rows.getD 0 []).getD 0 default).p))*(fL (d7 ((rows.getD 0 []).getD 0 default).p ((rows.getD U []).getD 0 default).p ((rows.getD 0 []).getD V default).p) ((rows.flatten.map (·.p)).getD i default)-(fL (d7 ((rows.getD 0 []).getD 0 default).p ((rows.getD U []).getD 0 default).p ((rows.getD 0 []).getD V default).p) ((rows.getD 0 []).getD 0 default).p))/(fL (d7 ((rows.getD 0 []).getD 0 default).p ((rows.getD U []).getD 0 default).p ((rows.getD 0 []).getD V default).p) (d7 ((rows.getD 0 []).getD 0 default).p ((rows.getD U []).getD 0 default).p ((rows.getD 0 []).getD V default).p)))] (ratL ((xZ (d7 ((rows.getD 0 []).getD 0 default).p ((rows.getD U []).getD 0 default).p ((rows.getD 0 []).getD V default).p) (fL (d7 ((rows.getD 0 []).getD 0 default).p ((rows.getD U []).getD 0 default).p ((rows.getD 0 []).getD V default).p) ((rows.getD 0 []).getD 0 default).p) ((rows.flatten.map (·.p)).take (i+1)))/(fL (d7 ((rows.getD 0 []).getD 0 default).p ((rows.getD U []).getD 0 default).p ((rows.getD 0 []).getD V default).p) (d7 ((rows.getD 0 []).getD 0 default).p ((rows.getD U []).getD 0 default).p ((rows.getD 0 []).getD V default).p)))):=by
   have:=aFR ((xZ (d7 ((rows.getD 0 []).getD 0 default).p ((rows.getD U []).getD 0 default).p ((rows.getD 0 []).getD V default).p) (fL (d7 ((rows.getD 0 []).getD 0 default).p ((rows.getD U []).getD 0 default).p ((rows.getD 0 []).getD V default).p) ((rows.getD 0 []).getD 0 default).p) ((rows.flatten.map (·.p)).take i))/(fL (d7 ((rows.getD 0 []).getD 0 default).p ((rows.getD U []).getD 0 default).p ((rows.getD 0 []).getD V default).p) (d7 ((rows.getD 0 []).getD 0 default).p ((rows.getD U []).getD 0 default).p ((rows.getD 0 []).getD V default).p))) ((fL (d7 ((rows.getD 0 []).getD 0 default).p ((rows.getD U []).getD 0 default).p ((rows.getD 0 []).getD V default).p) ((rows.flatten.map (·.p)).getD i default)-(fL (d7 ((rows.getD 0 []).getD 0 default).p ((rows.getD U []).getD 0 default).p ((rows.getD 0 []).getD V default).p) ((rows.getD 0 []).getD 0 default).p))*(fL (d7 ((rows.getD 0 []).getD 0 default).p ((rows.getD U []).getD 0 default).p ((rows.getD 0 []).getD V default).p) ((rows.flatten.map (·.p)).getD i default)-(fL (d7 ((rows.getD 0 []).getD 0 default).p ((rows.getD U []).getD 0 default).p ((rows.getD 0 []).getD V default).p) ((rows.getD 0 []).getD 0 default).p))/(fL (d7 ((rows.getD 0 []).getD 0 default).p ((rows.getD U []).getD 0 default).p ((rows.getD 0 []).getD V default).p) (d7 ((rows.getD 0 []).getD 0 default).p ((rows.getD U []).getD 0 default).p ((rows.getD 0 []).getD V default).p))) (by omega)
   rwa [aKE hdp,aD0 _ _ _ hi2] at this
  refine dR ?_
  refine aP 11 (by decide +kernel) ?_
  refine dB ?_
  refine cp b9 (aCY (d7 ((rows.getD 0 []).getD 0 default).p ((rows.getD U []).getD 0 default).p ((rows.getD 0 []).getD V default).p) ((rows.flatten.map (·.p)).getD i default) (8*R+9) (by omega) hnb (hP.le (by omega))) ?_
  refine cY ?_
  refine cp b9 (nW (fL (d7 ((rows.getD 0 []).getD 0 default).p ((rows.getD U []).getD 0 default).p ((rows.getD 0 []).getD V default).p) ((rows.flatten.map (·.p)).getD i default)) (fL (d7 ((rows.getD 0 []).getD 0 default).p ((rows.getD U []).getD 0 default).p ((rows.getD 0 []).getD V default).p) ((rows.getD 0 []).getD 0 default).p) (by omega)) ?_
  refine cO ?_
  refine aP 11 (by decide +kernel) ?_
  refine cP ?_
  refine cp b9 (f8 (fL (d7 ((rows.getD 0 []).getD 0 default).p ((rows.getD U []).getD 0 default).p ((rows.getD 0 []).getD V default).p) ((rows.flatten.map (·.p)).getD i default)-(fL (d7 ((rows.getD 0 []).getD 0 default).p ((rows.getD U []).getD 0 default).p ((rows.getD 0 []).getD V default).p) ((rows.getD 0 []).getD 0 default).p)) (fL (d7 ((rows.getD 0 []).getD 0 default).p ((rows.getD U []).getD 0 default).p ((rows.getD 0 []).getD V default).p) ((rows.flatten.map (·.p)).getD i default)-(fL (d7 ((rows.getD 0 []).getD 0 default).p ((rows.getD U []).getD 0 default).p ((rows.getD 0 []).getD V default).p) ((rows.getD 0 []).getD 0 default).p)) (by omega)) ?_
  refine cO ?_
  refine cp b9 (aCY (d7 ((rows.getD 0 []).getD 0 default).p ((rows.getD U []).getD 0 default).p ((rows.getD 0 []).getD V default).p) (d7 ((rows.getD 0 []).getD 0 default).p ((rows.getD U []).getD 0 default).p ((rows.getD 0 []).getD V default).p) (8*R+9) (by omega) hnb hnb) ?_
  refine cp b9 (aIs ((fL (d7 ((rows.getD 0 []).getD 0 default).p ((rows.getD U []).getD 0 default).p ((rows.getD 0 []).getD V default).p) ((rows.flatten.map (·.p)).getD i default)-(fL (d7 ((rows.getD 0 []).getD 0 default).p ((rows.getD U []).getD 0 default).p ((rows.getD 0 []).getD V default).p) ((rows.getD 0 []).getD 0 default).p))*(fL (d7 ((rows.getD 0 []).getD 0 default).p ((rows.getD U []).getD 0 default).p ((rows.getD 0 []).getD V default).p) ((rows.flatten.map (·.p)).getD i default)-(fL (d7 ((rows.getD 0 []).getD 0 default).p ((rows.getD U []).getD 0 default).p ((rows.getD 0 []).getD V default).p) ((rows.getD 0 []).getD 0 default).p))) (fL (d7 ((rows.getD 0 []).getD 0 default).p ((rows.getD U []).getD 0 default).p ((rows.getD 0 []).getD V default).p) (d7 ((rows.getD 0 []).getD 0 default).p ((rows.getD U []).getD 0 default).p ((rows.getD 0 []).getD V default).p)) (by omega)) ?_
  refine cp b9 (hM) ?_
  refine cO ?_
  refine bR (bI.kill _ 9) ?_
  refine bE ?_
  refine aB rfl (.bin rfl rfl (bV (by omega))) ?_
  refine cP ?_
  exact kE (i+1) (by omega)
 ·obtain rfl:i=(rows.flatten.map (·.p)).length:=by omega
  refine eA ?_
  try simp only [hT,hT2]
  exact kG [] rfl rfl rfl (aD.csize _) (aJ _) cX (.pure (aD.pure _)) rfl (.pure rfl)
theorem aNA:bN Tryz.prog 36 (plL []):=⟨Tryz.t36,_,by kernel_rfl,rfl,rfl,fun _ _ _=>p7 3⟩
instance:EC Tryz.prog 36 plL 1 false []:=⟨plE,aNA,T36⟩
theorem aOt (n:Nat):List.replicate n (ratL 0)=(List.replicate n (0:Rat)).map ratL:=by simp
def poN (q:PoR):List Rat:=[q.p.x,q.p.y,q.p.z,q.w]
def x8 (a b:List Rat) (ps:List PoR):List Rat:=a++b++(ps.map poN).flatten
theorem aIJ (a b:List Rat):x8 a b []=a++b:=by simp [x8]
theorem aLt (a b:List Rat) (ps:List PoR) (q:PoR):x8 a b ps++[q.p.x,q.p.y,q.p.z,q.w]=x8 a b (ps++[q]):=by simp [x8,poN]
theorem aAv (a b:List Rat) (ps:List PoR):(x8 a b ps).length=a.length+b.length+4*ps.length:=by
 induction ps with
 | nil=>simp [x8]
 | cons q ps ih =>
  simp only [x8,List.map_cons,List.flatten_cons,List.length_append,List.length_cons,poN,List.length_nil] at ih ⊢
  omega
theorem aLh {a b:List Rat} {ps:List PoR} (ha:∀ x∈a,rl x≤64) (hb:∀ x∈b,rl x≤64) (hp:∀ q∈ps,pY 64 q):∀ x∈x8 a b ps,rl x≤64:=fun x hx=>by
 simp only [x8,List.mem_append,List.mem_flatten,List.mem_map] at hx
 rcases hx with(h | h) | ⟨l,⟨q,hq,rfl⟩,h⟩
 ·exact ha x h
 ·exact hb x h
 ·obtain⟨⟨h1,h2,h3⟩,h4,_⟩:=hp q hq
  simp only [poN,List.mem_cons,List.not_mem_nil,or_false] at h
  rcases h with rfl | rfl | rfl | rfl<;>assumption
theorem aPa {a b:Int} {k:IntKind} (h:a=b):dW .neq k a b=some (.bool false):=by simp [dW,h]
theorem pY.le {R S:Nat} {q:PoR} (h:pY R q) (hRS:R≤S):pY S q:=⟨h.1.le hRS,Nat.le_trans h.2.1 hRS,h.2.2⟩
theorem aDp (bs:List Nat) (c:Nat) (y:Blk) (l:List (Nat × Blk)):z9 bs ((c,y) :: l)=(c,⟨y.sz,y.vals,y.mt && !bs.contains c⟩) :: z9 bs l:=rfl
theorem aOH:Int.toNat (0+1)=1:=rfl
namespace Zq60
theorem dG {p q:Prop} (k:q) (e:p=q:=by simp only [e1,e2,e3,e4,p1,p2,p3,q1,q2,q3,l1,t0,t1,r1,r2,r3,r4,Nat.zero_add,Nat.reduceMul,Nat.reduceAdd,b1,b2,b3,b4,b5,b6,i1,i2,i3,i4,i5,i6,Nat.reduceBEq,aOt,List.set_cons_zero,List.set_cons_succ,Nat.reduceEqDiff,reduceIte,if_true,if_false,bG,bF,aC fF,aC eI,aC aD,aS,aZ,LV.kill,bB];exact rfl):p:=e.mpr k
end Zq60
open Zq60 in
theorem aID (n:Nat) (h0:0<n) (hl:n≤1048576):f3 Tryz.prog 267 [.v (.slice none 0 0),aE n] (.ref 1 3 0 0) [⟨3,(List.replicate n (0:Rat)).map ratL,true⟩]:=by
 refine fnO Tryz.func267 ?_
 refine cW ?_
 refine aK rfl (fun h6r h6=>?_) (fun h6r h6=>?_)
 ·omega
 ·refine dL ?_
  refine aB rfl (.capN rfl rfl Tryz.underlying36) ?_
  refine cY ?_
  refine aB rfl (.bin rfl rfl (aGJ (a:=0) (b:=0) (c:=0) (by omega) (by omega))) ?_
  refine aB rfl (.bin rfl rfl (aGJ (a:=n) (b:=0) (c:=n) (by omega) (by omega))) ?_
  refine dU ?_
  refine aK rfl (fun h16r h16=>?_) (fun h16r h16=>?_)
  ·refine cP ?_
   refine aB rfl (.capN rfl rfl Tryz.underlying36) ?_
   refine aB rfl (.sliceN rfl Tryz.underlying36 cX rfl) ?_
   refine bE ?_
   refine aLF rfl rfl (.appz (d:=22) (z:=ratL 0) (n:=n) Tryz.underlying36 Tryz.underlying3 (eW ▸ eH) (by rw [aD.isAgg];exact cX) (aD.csize _) lB rfl rfl rfl (by omega) (by decide) (by omega) (by omega)) ?_
   refine cY ?_
   refine aB rfl (by first | exact .sliceLh (h:=_) aD rfl Tryz.underlying36 cX rfl om | exact .sliceRh rfl Tryz.underlying36 cX rfl om om) ?_
   refine cN ?_
   refine r9 (b:=22) (len:=0) (blk:=⟨3,(List.replicate n (0:Rat)).map ratL,true⟩) ?_ ?_ (aH aD _)
   ·exact cl
   ·exact cl
  ·omega
namespace Zq5
theorem dG {p q:Prop} (k:q) (e:p=q:=by simp only [e1,e2,e3,e4,p1,p2,p3,q1,q2,q3,l1,t0,t1,r1,r2,r3,r4,Nat.zero_add,Nat.reduceMul,Nat.reduceAdd,b1,b2,b3,b4,b5,b6,i1,i2,i3,i4,i5,i6,Nat.reduceBEq,iQ,aOH,List.getD_cons_zero,List.getD_cons_succ,List.length_cons,List.length_nil,htk,fW,List.take_zero,List.nil_append,List.map_append,List.length_append,List.length_map,List.set_cons_zero,List.set_cons_succ,Nat.reduceEqDiff,reduceIte,if_true,if_false,bG,bF,aC fF,aC eI,aC aD,aS,aZ,LV.kill,bB];exact rfl):p:=e.mpr k
end Zq5
open Zq5 in
theorem aEH (k m:List Rat) (h0:0<k.length) (hk:k.length≤1000) (hm:m.length≤1000):f3 Tryz.prog 221 [.list 1 ([k,m].map plL)] (.ref 1 3 0 (k.length+m.length)) [⟨3,(k++m).map ratL,true⟩]:=by
 have hpk:=aG aD 3 k
 have hpm:=aG aD 3 m
 have hkl:(k.map ratL).length=k.length:=List.length_map ..
 have htk:(k.map ratL).take k.length=k.map ratL:=List.take_of_length_le (by simp)
 refine fnO Tryz.func221 ?_
 refine mZ ?_
 refine aW ?_
 refine dB ?_
 refine bK (b:=_) rfl (rfl) ?_
 refine mY ?_
 refine aB rfl (.bin rfl rfl (lM (a:=0) (b:=k.length) (by omega))) ?_
 refine dU ?_
 refine aK rfl (fun h20r h20=>?_) (fun h20r h20=>?_)
 ·omega
 ·refine eC ?_
  refine aW ?_
  refine dB ?_
  refine bK (b:=_) rfl (rfl) ?_
  refine mY ?_
  refine aB rfl (.bin rfl rfl (lM (a:=k.length) (b:=m.length) (by omega))) ?_
  refine dU ?_
  refine aK rfl (fun h20r h20=>?_) (fun h20r h20=>?_)
  ·omega
  ·refine eC ?_
   refine aW ?_
   refine dB ?_
   refine bX (b:=_) rfl (rfl) ?_
   refine eC ?_
   refine lE [] rfl rfl (.cons (.pure rfl) (.cons (.pure rfl) .nil)) (aID (k.length+m.length) (by omega) (by omega)) (aH aD _) rfl ?_
   refine cW ?_
   refine aW ?_
   refine dB ?_
   refine bK (b:=_) rfl (rfl) ?_
   refine gC ?_
   refine bD rfl (.appX (d:=33) (news:=k.map ratL) rfl rfl rfl rfl (by simp) (.inr rfl) (by decide) Tryz.underlying36 Tryz.underlying36 eH cX rfl lB (.inr (.inl rfl)) (by rw [List.length_map];omega) (by rw [List.length_map];omega) (by decide)) ?_
   refine dU ?_
   refine aW ?_
   refine dB ?_
   refine bK (b:=_) rfl (rfl) ?_
   refine gC ?_
   refine bD rfl (.appX (d:=33) (news:=m.map ratL) rfl rfl rfl rfl (by simp) (.inl rfl) (by decide) Tryz.underlying36 Tryz.underlying36 eH cX rfl lB (.inr (.inl rfl)) (by rw [List.length_map];omega) (by rw [List.length_map];omega) (by decide)) ?_
   refine dU ?_
   refine aW ?_
   refine dB ?_
   refine bX (b:=_) rfl (rfl) ?_
   refine cW ?_
   refine r9 (b:=33) (len:=k.length+m.length) (blk:=⟨3,(k++m).map ratL,true⟩) ?_ ?_ (aH aD _)
   ·exact cl
   ·exact cl
namespace Zq143
theorem dG {p q:Prop} (k:q) (e:p=q:=by simp only [e1,e2,e3,e4,p1,p2,p3,q1,q2,q3,l1,t0,t1,r1,r2,r3,r4,Nat.zero_add,Nat.reduceMul,Nat.reduceAdd,b1,b2,b3,b4,b5,b6,i1,i2,i3,i4,i5,i6,Nat.reduceBEq,aDp,fz0,cM,ehetk,ehers,hs0,aPX,dS,aC gY,gB,gW,bJ,cI,bQ,List.length_cons,List.length_nil,List.nil_append,List.map_nil,List.take_nil,List.append_nil,List.set_cons_zero,List.set_cons_succ,Nat.reduceEqDiff,reduceIte,if_true,if_false,bG,bF,aC fF,aC eI,aC aD,aS,aZ,LV.kill,bB];exact rfl):p:=e.mpr k
end Zq143
open Zq143 in
theorem aIQ (U V:Nat) (kU kV:List Rat) (rows:List (List PoR)) (R:Nat) (hw:rwOK rows R) (h0:0<kU.length) (hkU:kU.length≤1000) (hkV:kV.length≤1000):aM Tryz.prog 155 [.agg [aE U,aE V,.list 3 (kU.map ratL),.list 3 (kV.map ratL),.list 1 (rows.map cM)]] (.list 3 ((x8 kU kV rows.flatten).map ratL)):=by
 have hsp:LV.pure (.agg [aE U,aE V,.list 3 (kU.map ratL),.list 3 (kV.map ratL),.list 1 (rows.map cM)])=true:=by simp [LV.pure,aY,aH aD,aH gY]
 have hwn:=hw.n
 have hwf:=hw.f
 have hs0:=aIJ kU kV
 have hp2:=aG plE 1 [kU,kV]
 refine dI Tryz.func155 (ht:=(fun g=>LV.ren_pure g _ (aG aD 3 _))) ?_
 have ehetk:True:=trivial
 have ehers:True:=trivial
 refine eA ?_
 refine lE [12] rfl rfl (.cons (cA plE rfl rfl rfl) .nil) (aEH kU kV h0 hkU hkV) (aH aD _) rfl ?_
 refine eA ?_
 refine eZ ((bI.kill _ 1).trans (bI.kill _ 12)) ?_
 refine nD (fun(i:Nat) (ps:List PoR) L=>(((((St.mk L.slot (hp [(1000209,⟨3,(x8 kU kV ps).map ratL,true⟩)])).put (some 3) (.ref 1000209 3 0 (kU.length+kV.length+4*ps.length))).put (some 15) (.list 1 (rows.map cM))).put (some 16) (aE rows.length)).put (some 17) (aE i))) (fun i ps=>rwI rows i ps) (fun i ps=>rows.length-i) 0 ([]) (rwI.zero rows) ?_
 rintro i ps L1 hI
 refine dB ?_
 refine aK rfl (fun h18r h18=>?_) (fun h18r h18=>?_)
 ·have hi2:i<rows.length:=by omega
  refine mZ ?_
  refine nD (fun(j:Nat) (qs:List PoR) L=>((((((((St.mk L.slot (hp [(1000209,⟨3,(x8 kU kV qs).map ratL,true⟩)])).put (some 3) (.ref 1000209 3 0 (kU.length+kV.length+4*qs.length))).put (some 15) (.list 1 (rows.map cM))).put (some 16) (aE rows.length)).put (some 17) (aE i)).put (some 21) (.list 12 ((rows.getD i []).map gZ))).put (some 22) (aE (rows.getD i []).length)).put (some 23) (aE j))) (fun j qs=>rwJ rows i j qs) (fun j qs=>(rows.getD i []).length-j) 0 ps (hI.go hi2) ?_
  rintro j qs L2 hJ
  refine dB ?_
  refine aK rfl (fun h24r h24=>?_) (fun h24r h24=>?_)
  ·have hj2:j<(rows.getD i []).length:=by omega
   have hJe:=hJ.hj
   have hJl:=hJ.le
   have hJi:=hJ.hi
   have hrm:=dZ hJi
   have hrl:=hw.m _ hrm
   have hlc:=aAv kU kV qs
   have ehers:(x8 kU kV qs)++[((rows.getD i []).getD j default).p.x,((rows.getD i []).getD j default).p.y,((rows.getD i []).getD j default).p.z,((rows.getD i []).getD j default).w]=(x8 kU kV (qs++[((rows.getD i []).getD j default)])):=aLt _ _ _ _
   have ehetk:((x8 kU kV qs).map ratL).take (kU.length+kV.length+4*qs.length)=(x8 kU kV qs).map ratL:=List.take_of_length_le (by rw [List.length_map];omega)
   have hJ2:=hJ.lt hj2
   refine aPJ ?_
   refine bD rfl (.appX (d:=1000209) (news:=[ratL ((rows.getD i []).getD j default).p.x,ratL ((rows.getD i []).getD j default).p.y,ratL ((rows.getD i []).getD j default).p.z,ratL ((rows.getD i []).getD j default).w]) rfl rfl rfl rfl (by simp;omega) (.inl rfl) (by decide) Tryz.underlying36 Tryz.underlying36 eH cX rfl lB (.inl ⟨39,0,_,rfl,by decide,rfl,rfl,by simp,rfl,by simp [aY,aD.pure]⟩) (by simp;omega) (by simp;omega) (by decide)) ?_
   refine cO ?_
   refine bR ((bI.kill _ 7).trans (bI.kill _ 39)) ?_
   refine aB rfl (.bin rfl rfl (bV (by omega))) ?_
   refine cP ?_
   exact lI (j+1) (qs++[((rows.getD i []).getD j default)]) (hJ.next hj2)
  ·have hJe:=hJ.hj
   have hJl:=hJ.le
   have hJi:=hJ.hi
   have hrm:=dZ hJi
   have hrl:=hw.m _ hrm
   obtain rfl:j=(rows.getD i []).length:=by omega
   refine dL ?_
   refine aB rfl (.bin rfl rfl (bV (by omega))) ?_
   refine cP ?_
   exact lI (i+1) qs hJ.last (hm:=by have:=hJ.hi;omega)
 ·have hIi:=hI.hi
  obtain rfl:i=rows.length:=by omega
  have hE:=hI.last
  subst hE
  refine cW ?_
  exact kP [1000209] rfl rfl (cA aD rfl rfl (by rw [aAv]))
namespace Zq66
theorem dG {p q:Prop} (k:q) (e:p=q:=by simp only [e1,e2,e3,e4,p1,p2,p3,q1,q2,q3,l1,t0,t1,r1,r2,r3,r4,Nat.zero_add,Nat.reduceMul,Nat.reduceAdd,b1,b2,b3,b4,b5,b6,i1,i2,i3,i4,i5,i6,Nat.reduceBEq,gB,List.set_cons_zero,List.set_cons_succ,Nat.reduceEqDiff,reduceIte,if_true,if_false,bG,bF,aC fF,aC eI,aC aD,aS,aZ,LV.kill,bB,List.length_map];exact rfl):p:=e.mpr k
end Zq66
open Zq66 in
theorem aLD (f:Nat) (cap:List LV) (hcp:aY cap=true) (hcs:∀ x∈cap,x.csize=1∧x.isAgg=false) (pr:List PoR→Bool) (l:List (List PoR)) (hl:l.length≤1048576) (hf:∀ x∈l,aM Tryz.prog f ([cM x]++cap) (bL (pr x))):aM Tryz.prog 270 [.list 1 (l.map cM),.clo f cap] (iL (uE pr l)):=by
 refine dI Tryz.func270 ?_
 refine gC ?_
 refine lX (fun(i:Nat) L=>((((((St.mk L.slot (hp [])).put (some 0) (.list 1 (l.map cM))).put (some 1) (.clo f cap)).put (some 6) (.list 1 (l.map cM))).put (some 7) (aE l.length)).put (some 8) (aE i))) (fun i=>i≤l.length∧∀ j,j<i→pr (l.getD j default)=false) (fun i=>l.length-i) 0 ⟨Nat.zero_le _,fun j hj=>absurd hj (Nat.not_lt_zero j)⟩ ?_
 rintro i L1 ⟨hi,h0⟩
 refine dB ?_
 refine aK rfl (fun h9r h9=>?_) (fun h9r h9=>?_)
 ·have hi2:i<l.length:=by omega
  have hc:=hf _ (pX hi2)
  have hpp:=gY.pure (l.getD i [])
  refine nY ?_
  refine eP [] rfl rfl (.clo (f:=f) (cap:=cap) (args:=[cM (l.getD i [])]) rfl (.cons kR .nil) ⟨hcp,hcs⟩ hc.1 (by decide) (fun _ h=>by cases h)) (hc.2 _) ?_
  refine cY ?_
  refine aK rfl (fun h16r h16=>?_) (fun h16r h16=>?_)
  ·have hV:uE pr l=(i:Int):=wS hi2 h0 (by first | exact h16r | exact h16)
   refine cW ?_
   rw [hV]
   exact bM rfl (.pure rfl)
  ·have hn:∀ j,j<i+1→pr (l.getD j default)=false:=fun j hj=>by
    rcases Nat.lt_succ_iff_lt_or_eq.1 hj with e | rfl
    ·exact h0 j e
    ·first | exact h16r | (simpa using h16)
   refine cO ?_
   refine aB rfl (.bin rfl rfl (bV (by omega))) ?_
   refine cP ?_
   exact kE (i+1) ⟨by omega,hn⟩
 ·obtain rfl:i=l.length:=by omega
  refine cV ?_
  rw [tG h0]
  exact bM rfl (.pure rfl)
namespace Zq63
theorem dG {p q:Prop} (k:q) (e:p=q:=by simp only [e1,e2,e3,e4,p1,p2,p3,q1,q2,q3,l1,t0,t1,r1,r2,r3,r4,Nat.zero_add,Nat.reduceMul,Nat.reduceAdd,b1,b2,b3,b4,b5,b6,i1,i2,i3,i4,i5,i6,Nat.reduceBEq,List.set_cons_zero,List.set_cons_succ,Nat.reduceEqDiff,reduceIte,if_true,if_false,bG,bF,aC fF,aC eI,aC aD,aS,aZ,LV.kill,bB];exact rfl):p:=e.mpr k
end Zq63
open Zq63 in
theorem aLp (f:Nat) (cap:List LV) (hcp:aY cap=true) (hcs:∀ x∈cap,x.csize=1∧x.isAgg=false) (pr:List PoR→Bool) (l:List (List PoR)) (hl:l.length≤1048576) (hf:∀ x∈l,aM Tryz.prog f ([cM x]++cap) (bL (pr x))):aM Tryz.prog 228 [.list 1 (l.map cM),.clo f cap] (bL (l.any pr)):=by
 refine dI Tryz.func228 ?_
 refine dU ?_
 refine dX rfl (.cons (.pure (aG gY 1 _)) (.cons (.pure (show LV.pure (.clo f cap)=true by simpa [LV.pure] using hcp)) .nil)) (aLD f cap hcp hcs pr l hl hf) ?_
 refine dR ?_
 rw [←xM]
 exact bM rfl (.pure rfl)
open H0 in
theorem aJq (q:Rat) (h:rl q≤1000):aM Tryz.prog 157 [ratL q] (bL false):=by
 refine dI Tryz.func157 ?_
 refine dU ?_
 refine cp dC (aGv _ (by omega)) ?_
 refine dR ?_
 exact bM rfl (.pure rfl)
namespace Zq105
theorem dG {p q:Prop} (k:q) (e:p=q:=by simp only [e1,e2,e3,e4,p1,p2,p3,q1,q2,q3,l1,t0,t1,r1,r2,r3,r4,Nat.zero_add,Nat.reduceMul,Nat.reduceAdd,b1,b2,b3,b4,b5,b6,i1,i2,i3,i4,i5,i6,Nat.reduceBEq,hsg];exact rfl):p:=e.mpr k
end Zq105
open Zq105 in
theorem aJB (q:PoR) (h:pY 1000 q):aM Tryz.prog 162 [gZ q] (bL false):=by
 obtain⟨_,hw,hp⟩:=h
 have hsg:mE q.w=1:=aEj hp
 refine dI Tryz.func162 ?_
 refine cN ?_
 refine cp dC (vC q.w (by omega)) ?_
 refine dR ?_
 exact bM rfl (.pure rfl)
open H0 in
theorem aJs (q:Rat) (h:rl q≤64):aM Tryz.prog 163 [ratL q] (bL false):=by
 have hb:=aEq h
 refine dI Tryz.func163 ?_
 refine dU ?_
 refine cp dC (aJG q (by omega)) ?_
 refine dR ?_
 refine bM (x:=bL (decide ((s7 q:Int) > 2048))) rfl ?_
 rw [decide_eq_false (by omega)]
 exact .pure rfl
namespace Zq107
theorem dG {p q:Prop} (k:q) (e:p=q:=by simp only [e1,e2,e3,e4,p1,p2,p3,q1,q2,q3,l1,t0,t1,r1,r2,r3,r4,Nat.zero_add,Nat.reduceMul,Nat.reduceAdd,b1,b2,b3,b4,b5,b6,i1,i2,i3,i4,i5,i6,Nat.reduceBEq,cM,List.length_map,dS,aC gY,gB,gW,bJ,cI,bQ,List.length_cons,List.length_nil,List.nil_append,List.map_nil,List.take_nil,List.append_nil,List.set_cons_zero,List.set_cons_succ,Nat.reduceEqDiff,reduceIte,if_true,if_false,bG,bF,aC fF,aC eI,aC aD,aS,aZ,LV.kill,bB];exact rfl):p:=e.mpr k
end Zq107
open Zq107 in
theorem aLO (U V:Nat) (kU kV:List Rat) (rows:List (List PoR)) (r:List PoR) (hl:V+1≤kV.length) (hkl:kV.length≤1000) (hr:r.length=kV.length-V-1):aM Tryz.prog 229 [cM r,.boxp (.agg [aE U,aE V,.list 3 (kU.map ratL),.list 3 (kV.map ratL),.list 1 (rows.map cM)])] (bL false):=by
 have hsp:LV.pure (.agg [aE U,aE V,.list 3 (kU.map ratL),.list 3 (kV.map ratL),.list 1 (rows.map cM)])=true:=by simp [LV.pure,aY,aH aD,aH gY]
 have hpr:=gY.pure r
 have hpv:=aG aD 3 kV
 refine dI Tryz.func229 ?_
 refine eA ?_
 refine cp b9 (aAT kV V hl (by omega)) ?_
 refine aB rfl (.bin rfl rfl ((aPa (by first | omega | (simp only [List.length_map,cM];omega))))) ?_
 refine cO ?_
 exact bM rfl (.pure rfl)
namespace Zq108
theorem dG {p q:Prop} (k:q) (e:p=q:=by simp only [e1,e2,e3,e4,p1,p2,p3,q1,q2,q3,l1,t0,t1,r1,r2,r3,r4,Nat.zero_add,Nat.reduceMul,Nat.reduceAdd,b1,b2,b3,b4,b5,b6,i1,i2,i3,i4,i5,i6,Nat.reduceBEq,cM,sY,List.length_map,dS,aC gY,gB,gW,bJ,cI,bQ,List.length_cons,List.length_nil,List.nil_append,List.map_nil,List.take_nil,List.append_nil,List.set_cons_zero,List.set_cons_succ,Nat.reduceEqDiff,reduceIte,if_true,if_false,bG,bF,aC fF,aC eI,aC aD,aS,aZ,LV.kill,bB];exact rfl):p:=e.mpr k
end Zq108
open Zq108 in
theorem aLx (U V:Nat) (kU kV:List Rat) (rows:List (List PoR)) (hkU:kOK kU U) (hkV:kOK kV V) (hn:rows.length=kU.length-U-1) (hm:∀ r∈rows,r.length=kV.length-V-1) (hq:∀ r∈rows,∀ q∈r,pY 64 q):aM Tryz.prog 160 [.agg [aE U,aE V,.list 3 (kU.map ratL),.list 3 (kV.map ratL),.list 1 (rows.map cM)]] (bL true):=by
 have hsp:LV.pure (.agg [aE U,aE V,.list 3 (kU.map ratL),.list 3 (kV.map ratL),.list 1 (rows.map cM)])=true:=by simp [LV.pure,aY,aH aD,aH gY]
 have hU1:=hkU.d1
 have hU6:=hkU.d6
 have hUl:=hkU.len
 have hUm:=hkU.max
 have hV1:=hkV.d1
 have hV6:=hkV.d6
 have hVl:=hkV.len
 have hVm:=hkV.max
 have hbp:aY [.boxp (.agg [aE U,aE V,.list 3 (kU.map ratL),.list 3 (kV.map ratL),.list 1 (rows.map cM)])]=true:=by simp [aY,LV.pure,aH aD,aH gY]
 refine dI Tryz.func160 ?_
 refine dL ?_
 refine aP 17 (by decide +kernel) ?_
 refine dL ?_
 refine cp b9 (aAT kU U (by omega) (by omega)) ?_
 refine cY ?_
 refine aB (aL (v:=true) rfl rfl ((beq_iff_eq.2 (by first | omega | (simp only [List.length_map];omega)))) rfl) mC ?_
 refine aB (aL (v:=true) rfl rfl ((beq_iff_eq.2 (by first | omega | (simp only [List.length_map];omega)))) rfl) kS ?_
 refine eP [1] (aL (v:=true) rfl rfl ((beq_iff_eq.2 (by first | omega | (simp only [List.length_map];omega)))) rfl) rfl (.mk (caps:=[.boxp (.agg [aE U,aE V,.list 3 (kU.map ratL),.list 3 (kV.map ratL),.list 1 (rows.map cM)])]) (.cons (.eptr rfl rfl rfl cs (dN cs rfl) hsp rfl) .nil) (fun x hx=>by rw [List.mem_singleton.1 hx];exact⟨rfl,rfl⟩)) rfl ?_
 refine dX (aL (v:=true) rfl rfl ((beq_iff_eq.2 (by first | omega | (simp only [List.length_map];omega)))) rfl) (.cons (.pure (aG gY 1 _)) (.cons (.pure (show LV.pure (.clo 229 [.boxp (.agg [aE U,aE V,.list 3 (kU.map ratL),.list 3 (kV.map ratL),.list 1 (rows.map cM)])])=true by simpa [LV.pure] using hbp)) .nil)) (aLp 229 [.boxp (.agg [aE U,aE V,.list 3 (kU.map ratL),.list 3 (kV.map ratL),.list 1 (rows.map cM)])] hbp (fun x hx=>by rw [List.mem_singleton.1 hx];exact⟨rfl,rfl⟩) (fun _=>false) rows (by omega) (fun x hx=>aLO U V kU kV rows x (by omega) (by omega) (hm x hx))) ?_
 refine aB (aL (v:=true) rfl rfl ((beq_iff_eq.2 (by first | omega | (simp only [List.length_map];omega)))) rfl) (.not rfl) ?_
 refine aB rfl (.pickT rfl ((beq_iff_eq.2 (by first | omega | (simp only [List.length_map];omega))))) ?_
 refine cO ?_
 refine bM ?_ (.pure rfl)
 first | rfl | (simp only [sY];rfl)
namespace Zq104
theorem dG {p q:Prop} (k:q) (e:p=q:=by simp only [e1,e2,e3,e4,p1,p2,p3,q1,q2,q3,l1,t0,t1,r1,r2,r3,r4,Nat.zero_add,Nat.reduceMul,Nat.reduceAdd,b1,b2,b3,b4,b5,b6,i1,i2,i3,i4,i5,i6,Nat.reduceBEq,cM,sY,gB,List.length_map,dS,aC gY,gB,gW,bJ,cI,bQ,List.length_cons,List.length_nil,List.nil_append,List.map_nil,List.take_nil,List.append_nil,List.set_cons_zero,List.set_cons_succ,Nat.reduceEqDiff,reduceIte,if_true,if_false,bG,bF,aC fF,aC eI,aC aD,aS,aZ,LV.kill,bB];exact rfl):p:=e.mpr k
end Zq104
open Zq104 in
theorem aBz (U V:Nat) (kU kV:List Rat) (rows:List (List PoR)) (hkU:kOK kU U) (hkV:kOK kV V) (hn:rows.length=kU.length-U-1) (hm:∀ r∈rows,r.length=kV.length-V-1) (hq:∀ r∈rows,∀ q∈r,pY 64 q):aM Tryz.prog 88 [.agg [aE U,aE V,.list 3 (kU.map ratL),.list 3 (kV.map ratL),.list 1 (rows.map cM)]] (iL 0):=by
 have hsp:LV.pure (.agg [aE U,aE V,.list 3 (kU.map ratL),.list 3 (kV.map ratL),.list 1 (rows.map cM)])=true:=by simp [LV.pure,aY,aH aD,aH gY]
 have hU1:=hkU.d1
 have hU6:=hkU.d6
 have hUl:=hkU.len
 have hUm:=hkU.max
 have hV1:=hkV.d1
 have hV6:=hkV.d6
 have hVl:=hkV.len
 have hVm:=hkV.max
 have hrw:rwOK rows 64:=by
  refine⟨hq,by omega,fun r hr=>by have:=hm r hr;omega,?_⟩
  rw [aBS hm]
  exact Nat.le_trans (Nat.mul_le_mul (show rows.length≤100 by omega) (show kV.length-V-1≤100 by omega)) (by decide)
 have hfl:=hrw.f
 have hN:=aAv kU kV rows.flatten
 have hR:=aLh (ps:=rows.flatten) hkU.sz hkV.sz (fun q hx=>by
  obtain⟨r,g1,g2⟩:=List.mem_flatten.1 hx
  exact hq r g1 q g2)
 refine dI Tryz.func88 ?_
 refine dU ?_
 refine cp dC (aIQ U V kU kV rows 64 hrw (by omega) (by omega) (by omega)) ?_
 refine dL ?_
 refine cp b9 (aGF 157 (fun _=>false) (x8 kU kV rows.flatten) (by omega) (fun x hx=>aJq x (Nat.le_trans (hR x hx) (by decide)))) ?_
 refine cY ?_
 refine bX (b:=_) rfl (by first | rfl | exact sY _) ?_
 refine dU ?_
 refine cp b9 (aA7 kU U hkU) ?_
 refine dU ?_
 refine bX (b:=_) rfl (rfl) ?_
 refine dU ?_
 refine cp b9 (aA7 kV V hkV) ?_
 refine dU ?_
 refine bX (b:=_) rfl (rfl) ?_
 refine dB ?_
 refine cp dC (aLx U V kU kV rows hkU hkV hn hm hq) ?_
 refine cP ?_
 refine bX (b:=_) rfl (rfl) ?_
 refine cW ?_
 refine lX (fun(i:Nat) L=>((((((St.mk L.slot (hp [(1,⟨5,[.agg [aE U,aE V,.list 3 (kU.map ratL),.list 3 (kV.map ratL),.list 1 (rows.map cM)]],true⟩)])).put (some 1) (.eptr 1 5 0 0)).put (some 3) (.list 3 ((x8 kU kV rows.flatten).map ratL))).put (some 32) (.list 1 (rows.map cM))).put (some 33) (aE rows.length)).put (some 34) (aE i))) (fun i=>i≤rows.length) (fun i=>rows.length-i) 0 (Nat.zero_le _) ?_
 rintro i L1 hi
 refine dB ?_
 refine aK rfl (fun h35r h35=>?_) (fun h35r h35=>?_)
 ·have hi2:i<rows.length:=by omega
  have hrm:=dZ hi2
  have hrl:=hm _ hrm
  refine gC ?_
  refine cp b9 (aLw 162 (fun _=>false) (rows.getD i []) (by omega) (fun x hx=>aJB x ((hq _ hrm x hx).le (by decide)))) ?_
  refine cY ?_
  refine bX (b:=_) rfl (by first | rfl | exact sY _) ?_
  refine cO ?_
  refine aB rfl (.bin rfl rfl (bV (by omega))) ?_
  refine cP ?_
  exact kE (i+1) (by omega)
 ·obtain rfl:i=rows.length:=by omega
  refine dU ?_
  refine cp b9 (aGF 163 (fun _=>false) (x8 kU kV rows.flatten) (by omega) (fun x hx=>aJs x (hR x hx))) ?_
  refine cY ?_
  refine bX (b:=_) rfl (by first | rfl | exact sY _) ?_
  refine eC ?_
  exact bM rfl (.pure rfl)
namespace Zq84
theorem dG {p q:Prop} (k:q) (e:p=q:=by simp only [e1,e2,e3,e4,p1,p2,p3,q1,q2,q3,l1,t0,t1,r1,r2,r3,r4,Nat.zero_add,Nat.reduceMul,Nat.reduceAdd,b1,b2,b3,b4,b5,b6,i1,i2,i3,i4,i5,i6,Nat.reduceBEq,cM,gB,List.length_map,dS,aC gY,gB,gW,bJ,cI,bQ,List.length_cons,List.length_nil,List.nil_append,List.map_nil,List.take_nil,List.append_nil,List.set_cons_zero,List.set_cons_succ,Nat.reduceEqDiff,reduceIte,if_true,if_false,bG,bF,aC fF,aC eI,aC aD,aS,aZ,LV.kill,bB];exact rfl):p:=e.mpr k
end Zq84
open Zq84 in
theorem aGU (U V:Nat) (kU kV:List Rat) (rows:List (List PoR)) (hkU:kOK kU U) (hkV:kOK kV V) (hn:rows.length=kU.length-U-1) (hm:∀ r∈rows,r.length=kV.length-V-1) (hq:∀ r∈rows,∀ q∈r,pY 64 q) (hpn:rows.length=U+1) (hpm:(rows.getD 0 []).length=V+1):aM Tryz.prog 29 [.agg [aE U,aE V,.list 3 (kU.map ratL),.list 3 (kV.map ratL),.list 1 (rows.map cM)]] (iL 0):=by
 have hsp:LV.pure (.agg [aE U,aE V,.list 3 (kU.map ratL),.list 3 (kV.map ratL),.list 1 (rows.map cM)])=true:=by simp [LV.pure,aY,aH aD,aH gY]
 have hU1:=hkU.d1
 have hU6:=hkU.d6
 have hUl:=hkU.len
 have hUm:=hkU.max
 have hV1:=hkV.d1
 have hV6:=hkV.d6
 have hVl:=hkV.len
 have hVm:=hkV.max
 refine dI Tryz.func29 ?_
 refine cN ?_
 refine cp dC (aBz U V kU kV rows hkU hkV hn hm hq) ?_
 refine dU ?_
 refine bX (b:=_) rfl (rfl) ?_
 refine cO ?_
 refine aP 18 (by decide +kernel) ?_
 refine dR ?_
 refine aB rfl (.bin rfl rfl (bV (by omega))) ?_
 refine cY ?_
 refine aB (aL (v:=false) rfl rfl ((bne_eq_false_iff_eq.2 (by first | omega | (simp only [List.length_map];omega)))) rfl) mC ?_
 refine aB (aL (v:=false) rfl rfl ((bne_eq_false_iff_eq.2 (by first | omega | (simp only [List.length_map];omega)))) rfl) kS ?_
 refine aB (aL (v:=false) rfl rfl ((bne_eq_false_iff_eq.2 (by first | omega | (simp only [List.length_map];omega)))) rfl) ixA ?_
 refine aB (aL (v:=false) rfl rfl ((bne_eq_false_iff_eq.2 (by first | omega | (simp only [List.length_map];omega)))) rfl) kS ?_
 refine aB (aL (v:=false) rfl rfl ((bne_eq_false_iff_eq.2 (by first | omega | (simp only [List.length_map];omega)))) rfl) lnA ?_
 refine aB (aL (v:=false) rfl rfl ((bne_eq_false_iff_eq.2 (by first | omega | (simp only [List.length_map];omega)))) rfl) mC ?_
 refine aB (aL (v:=false) rfl rfl ((bne_eq_false_iff_eq.2 (by first | omega | (simp only [List.length_map];omega)))) rfl) kS ?_
 refine aB (aL (v:=false) rfl rfl ((bne_eq_false_iff_eq.2 (by first | omega | (simp only [List.length_map];omega)))) rfl) (.bin rfl rfl (bV (by omega))) ?_
 refine aB (aL (v:=false) rfl rfl ((bne_eq_false_iff_eq.2 (by first | omega | (simp only [List.length_map];omega)))) rfl) (.bin rfl rfl rfl) ?_
 refine aB rfl (.pickF rfl ((bne_eq_false_iff_eq.2 (by first | omega | (simp only [List.length_map];omega))))) ?_
 refine cY ?_
 refine bX (b:=_) rfl (bne_eq_false_iff_eq.2 (by first | omega | (simp only [List.length_map,cM,gB,t0,hpm];omega))) ?_
 refine eC ?_
 exact bM rfl (.pure rfl)
def twK:List Rat:=[0,0,1,1]
def twA:List PoR:=[⟨⟨0,0,0⟩,1⟩,⟨⟨0,1,0⟩,1⟩]
def twB:List PoR:=[⟨⟨1,0,0⟩,1⟩,⟨⟨1,1,1⟩,1⟩]
def qL:List (List PoR):=[twA,twB]
theorem aLQ:nS 1 0 1=twK:=by decide +kernel
theorem aGL:∀ r∈qL,∀ q∈r,pY 1 q:=fun r hr q hq=>by
 simp only [qL,List.mem_cons,List.not_mem_nil,or_false] at hr
 rcases hr with rfl | rfl<;>simp only [twA,twB,List.mem_cons,List.not_mem_nil,or_false] at hq<;>rcases hq with rfl | rfl<;>exact⟨⟨by decide +kernel,by decide +kernel,by decide +kernel⟩,by decide +kernel,by decide +kernel⟩
theorem aH0:∀ r∈qL,r.length=2:=fun r hr=>by
 simp only [qL,List.mem_cons,List.not_mem_nil,or_false] at hr
 rcases hr with rfl | rfl<;>rfl
theorem aEd:pf 1 1 1 qL:=⟨by decide,by decide,by decide,by decide,by decide,by decide,rfl,aH0,aGL⟩
theorem aKh:kOK twK 1:=by
 have:=aK0 (d:=1) (T:=0) (by decide) (by decide) (by decide +kernel) (by decide +kernel)
 rwa [show kn0 1 0=twK from by decide +kernel] at this
theorem aLc {p q:V3} (h1:p.x=q.x) (h2:p.y=q.y) (h3:p.z=q.z):p=q:=by
 obtain⟨a,b,c⟩:=p
 obtain⟨d,e,f⟩:=q
 simp only at h1 h2 h3
 rw [h1,h2,h3]
theorem aLz:v3x (pdv 1 1 (1-1) 1 (xR 1 1) qL.flatten (1-0) 0 0) (pdv 1 1 1 (1-1) (xQ 1 1) qL.flatten (1-0) 0 0)=⟨0,0,1⟩ :=
 aLc (by decide +kernel) (by decide +kernel) (by decide +kernel)
theorem aJd:l6 (d7 ((qL.getD 0 []).getD 0 default).p ((qL.getD 1 []).getD 0 default).p ((qL.getD 0 []).getD 1 default).p) ⟨0,0,0⟩=false:=by decide +kernel
theorem aIw:xZ (d7 ((qL.getD 0 []).getD 0 default).p ((qL.getD 1 []).getD 0 default).p ((qL.getD 0 []).getD 1 default).p) (fL (d7 ((qL.getD 0 []).getD 0 default).p ((qL.getD 1 []).getD 0 default).p ((qL.getD 0 []).getD 1 default).p) ((qL.getD 0 []).getD 0 default).p) (qL.flatten.map (·.p)) /
  fL (d7 ((qL.getD 0 []).getD 0 default).p ((qL.getD 1 []).getD 0 default).p ((qL.getD 0 []).getD 1 default).p) (d7 ((qL.getD 0 []).getD 0 default).p ((qL.getD 1 []).getD 0 default).p ((qL.getD 0 []).getD 1 default).p)=1:=by decide +kernel
namespace Zq114
theorem dG {p q:Prop} (k:q) (e:p=q:=by simp only [e1,e2,e3,e4,p1,p2,p3,q1,q2,q3,l1,t0,t1,r1,r2,r3,r4,Nat.zero_add,Nat.reduceMul,Nat.reduceAdd,b1,b2,b3,b4,b5,b6,i1,i2,i3,i4,i5,i6,Nat.reduceBEq,List.set_cons_zero,List.set_cons_succ,Nat.reduceEqDiff,reduceIte,if_true,if_false,bG,bF,aC fF,aC eI,aC aD,aS,aZ,LV.kill,bB];exact rfl):p:=e.mpr k
end Zq114
open Zq114 in
theorem aIE :aM Tryz.prog 53 [iL 2] (fA ⟨0,0,1⟩):=by
 have hI1:aM Tryz.prog 60 [iL 1] (ratL 1):=jE 1 (by decide) (by decide)
 refine dI Tryz.func53 (ht:=(fun r=>LV.ren_pure r _ (fF.pure _))) ?_
 refine eA ?_
 refine cp dC (hI1) ?_
 refine cV ?_
 exact dQ [] rfl rfl rfl cs (dN cs rfl) sW (.pure pu)
namespace Zq147
theorem dG {p q:Prop} (k:q) (e:p=q:=by simp only [e1,e2,e3,e4,p1,p2,p3,q1,q2,q3,l1,t0,t1,r1,r2,r3,r4,Nat.zero_add,Nat.reduceMul,Nat.reduceAdd,b1,b2,b3,b4,b5,b6,i1,i2,i3,i4,i5,i6,Nat.reduceBEq,List.set_cons_zero,List.set_cons_succ,Nat.reduceEqDiff,reduceIte,if_true,if_false,bG,bF,aC fF,aC eI,aC aD,aS,aZ,LV.kill,bB];exact rfl):p:=e.mpr k
end Zq147
open Zq147 in
theorem aIi :aM Tryz.prog 52 [] (.agg [aE 1,aE 1,.list 3 (twK.map ratL),.list 3 (twK.map ratL),.list 1 (qL.map cM)]):=by
 have hI1:aM Tryz.prog 60 [iL 1] (ratL 1):=jE 1 (by decide) (by decide)
 refine dI Tryz.func52 (ht:=(fun g=>LV.ren_pure g _ (by simp [LV.pure,aY,aH aD,aH gY]))) ?_
 refine dL ?_
 refine cp dC (aIl) ?_
 refine cp dC (aIr) ?_
 refine eC ?_
 refine cp dC (hI1) ?_
 refine dB ?_
 refine aB rfl (.build0 tI eH) ?_
 refine aB rfl (.build0 tI eH) ?_
 refine cY ?_
 refine dD rfl rfl (.lit4 (a:=0) (b:=0) (c:=1) (f:=1) aD Tryz.underlying36 (eW ▸ eH) cX rfl rfl rfl rfl (by decide) (by decide)) ?_
 refine eC ?_
 refine oQ (bdW rfl) ?_
 refine cY ?_
 refine oQ (vZ (p:=⟨0,1,0⟩) (r:=1) rfl rfl) ?_
 refine dD rfl rfl (.lit2 (a:=⟨⟨0,0,0⟩,1⟩) (b:=⟨⟨0,1,0⟩,1⟩) (z:=⟨⟨0,0,0⟩,0⟩) eI Tryz.underlying60 (show bN _ _ (gZ ⟨⟨0,0,0⟩,0⟩) from Z62) uC rfl rfl (by decide) (by decide)) ?_
 refine cY ?_
 refine oQ (vZ (p:=⟨1,0,0⟩) (r:=1) rfl rfl) ?_
 refine dR ?_
 refine oQ (vZ (p:=⟨1,1,1⟩) (r:=1) rfl rfl) ?_
 refine dD rfl rfl (.lit2 (a:=⟨⟨1,0,0⟩,1⟩) (b:=⟨⟨1,1,1⟩,1⟩) (z:=⟨⟨0,0,0⟩,0⟩) eI Tryz.underlying60 (show bN _ _ (gZ ⟨⟨0,0,0⟩,0⟩) from Z62) uC rfl rfl (by decide) (by decide)) ?_
 refine dD rfl rfl (.lit (z:=cM []) (sz:=1) Tryz.underlying37 prZ T60 rfl (by decide) (by decide) (by decide) (by intro p hp;simp only [List.mem_cons,List.not_mem_nil,or_false] at hp;rcases hp with rfl | rfl<;>exact⟨by decide,rfl,(fun h=>by cases h),(fun _ h=>by cases h)⟩)) ?_
 refine aB rfl (.build (zs:=[.v (.int .i64 0),.v (.int .i64 0),.v (.slice none 0 0),.v (.slice none 0 0),.v (.slice none 0 0)]) aNl Z39 (by simp only [List.forall_mem_cons];exact⟨⟨_,rfl,rfl,uR⟩,⟨_,rfl,rfl,uR⟩,⟨_,rfl,rfl,uR⟩,⟨_,rfl,rfl,uR⟩,⟨_,rfl,rfl,uR⟩,fun _ h=>by cases h⟩)) ?_
 refine cO ?_
 exact dQ [12,20,30,31] rfl rfl rfl cs (dN cs rfl) T39 (.agg (.cons (.pure rfl) (.cons (.pure rfl) (.cons (cA (l:=twK) aD rfl rfl rfl) (.cons (cA (l:=twK) aD rfl rfl rfl) (.cons (.refI (blk:=⟨1,_,false⟩) rfl rfl (by decide) rfl (.cons (cA (l:=twA) eI rfl rfl rfl) (.cons (cA (l:=twB) eI rfl rfl rfl) .nil))) .nil))))))
namespace Zq122
theorem dG {p q:Prop} (k:q) (e:p=q:=by simp only [e1,e2,e3,e4,p1,p2,p3,q1,q2,q3,l1,t0,t1,r1,r2,r3,r4,Nat.zero_add,Nat.reduceMul,Nat.reduceAdd,b1,b2,b3,b4,b5,b6,i1,i2,i3,i4,i5,i6,Nat.reduceBEq,List.set_cons_zero,List.set_cons_succ,Nat.reduceEqDiff,reduceIte,if_true,if_false,bG,bF,aC fF,aC eI,aC aD,aS,aZ,LV.kill,bB];exact rfl):p:=e.mpr k
end Zq122
open Zq122 in
theorem yD :aM Tryz.prog 8 [] (bL true):=by
 have hsp:LV.pure (.agg [aE 1,aE 1,.list 3 (twK.map ratL),.list 3 (twK.map ratL),.list 1 (qL.map cM)])=true:=by simp [LV.pure,aY,aH aD,aH gY]
 have hb1:jF 210000000 (pdv 1 1 (1-1) 1 (xR 1 1) qL.flatten (1-0) 0 0):=(zI aEd (aKv (U:=1) (V:=1) (by decide) (by decide)) (by decide) (wd:=1-0) (by decide +kernel) (tM (by decide +kernel)) (tM (by decide +kernel))).2.2
 have hb2:jF 210000000 (pdv 1 1 1 (1-1) (xQ 1 1) qL.flatten (1-0) 0 0):=(zI aEd (aJW (U:=1) (V:=1) (by decide) (by decide)) (by decide) (wd:=1-0) (by decide +kernel) (tM (by decide +kernel)) (tM (by decide +kernel))).2.2
 have hD:=aLM 1 1 1 0 1 0 1 qL aEd (by decide +kernel) (by decide +kernel) (by decide +kernel) (by decide +kernel) (by decide +kernel) (by decide +kernel) 0 0 0 0 (by decide +kernel) (by decide +kernel) (tM (by decide +kernel)) (tM (by decide +kernel)) (by decide +kernel) (by decide +kernel) (by decide) (by decide +kernel) (by decide +kernel)
 rw [aLQ] at hD
 have hN:=aLj 1 1 twK twK qL 0 0 _ _ 0 hb1 hb2 hD
 rw [aLz] at hN
 have hF:=aDJ 1 1 1 twK twK qL aEd (by decide) aJd
 rw [aIw] at hF
 have hC:aM Tryz.prog 29 [.agg [aE 1,aE 1,.list 3 (twK.map ratL),.list 3 (twK.map ratL),.list 1 (qL.map cM)]] (iL 0):=aGU 1 1 twK twK qL aKh aKh rfl aH0 (fun r hr q hq=>(aGL r hr q hq).le (by decide)) rfl rfl
 have hS:aM Tryz.prog 20 [fA ⟨0,0,1⟩,fA ⟨0,0,1⟩] (bL true):=aEs ⟨0,0,1⟩ ⟨by decide +kernel,by decide +kernel,by decide +kernel⟩
 refine dI Tryz.func8 ?_
 refine dL ?_
 refine cp am0 (aIi) ?_
 refine dL ?_
 refine aB rfl (.build0 tI eH) ?_
 refine aB rfl (.build0 tI eH) ?_
 refine cp pS (hN) ?_
 refine cV ?_
 refine cp dC (hF) ?_
 refine dU ?_
 refine aP 22 (by decide +kernel) ?_
 refine bE ?_
 refine cp dC (hC) ?_
 refine cY ?_
 refine aB (aL (v:=true) rfl rfl ((by decide +kernel)) rfl) (.move _) ?_
 refine aB (aL (v:=true) rfl rfl ((by decide +kernel)) rfl) (.bin rfl rfl rfl) ?_
 refine aB rfl (.pickT rfl ((by decide +kernel))) ?_
 refine bE ?_
 refine aB (aL (v:=true) rfl rfl ((by decide +kernel)) rfl) kS ?_
 refine dX (aL (v:=true) rfl rfl ((by decide +kernel)) rfl) (.cons kR .nil) (aIE) ?_
 refine dX (aL (v:=true) rfl rfl ((by decide +kernel)) rfl) (.cons kR (.cons kR .nil)) (hS) ?_
 refine aB rfl (.pickT rfl ((by decide +kernel))) ?_
 refine bE ?_
 refine aB (aL (v:=true) rfl rfl ((by decide +kernel)) rfl) (.move _) ?_
 refine aB (aL (v:=true) rfl rfl ((by decide +kernel)) rfl) (.bin rfl rfl rfl) ?_
 refine aB rfl (.pickT rfl ((by decide +kernel))) ?_
 refine bE ?_
 refine aB (aL (v:=true) rfl rfl ((by decide +kernel)) rfl) kS ?_
 refine dX (aL (v:=true) rfl rfl ((by decide +kernel)) rfl) (.cons kR .nil) (aM7) ?_
 refine aB (aL (v:=true) rfl rfl ((by decide +kernel)) rfl) (.eqS rfl rfl) ?_
 refine aB rfl (.pickT rfl ((by decide +kernel))) ?_
 refine cO ?_
 refine bM (x:=bL ((⟨#[49]⟩:ByteArray).toList==(⟨#[49]⟩:ByteArray).toList)) rfl ?_
 have hbb:((⟨#[49]⟩:ByteArray).toList==(⟨#[49]⟩:ByteArray).toList)=true:=beq_self_eq_true _
 rw [hbb]
 exact .pure rfl
def pTU (l:List Int) (k n:Nat):Rat:=yS l (sJ2 l k)
def pTV (l:List Int) (k n:Nat):Rat:=yS l (sJ3 l k n 0)
theorem aBH (l:List Int) (k:Nat):kiN l k 0=0:=Nat.le_zero.1 (tD l k 0).2
theorem aKp (l:List Int) (d k:Nat):knX l d k 0=nS d (yS l k) (yS l k+1):=by
 unfold knX kiR
 rw [aBH];rfl
theorem aGW (l:List Int) (k n:Nat):sKU l k n 0=nS (sU l k n) (pTU l k n) (pTU l k n+1):=aKp ..
theorem aGT (l:List Int) (k n:Nat):sKV l k n 0=nS (sV l k n) (pTV l k n) (pTV l k n+1):=aKp ..
theorem aNr {l:List Int} {k n:Nat} (hl:l.length≤500) (hk:k≤500) (hn:0<n) (hn3:n≤3):pf 4 (sU l k n) (sV l k n) (sR l k n 0):=by
 have h:=aEZ l hl hk hn (show n≤6 by omega) (show 0≤2 by omega)
 have h1:=h.un
 have h2:=h.vn
 have ha:sA l k n 0=sU l k n+1:=by unfold sA;rw [aBH]
 have hb:sB l k n 0=sV l k n+1:=by unfold sB;rw [aBH]
 exact⟨by decide,by decide,h.u1,by omega,h.v1,by omega,by rw [h.rl,ha],fun r hr=>by rw [(h.rk r hr).1,hb],fun r hr=>(h.rk r hr).2⟩
theorem bdB.le {R S:Nat} {b:Bx3} (h:bdB R b) (k:R≤S):bdB S b:=⟨h.1.le k,h.2.1.le k,h.2.2.le k⟩
end Go.Proofs.YtfpdccbgngdhkaaGreat
end
section
set_option linter.unusedVariables false
set_option linter.unusedSimpArgs false
namespace Go.Lg
theorem bI.boxp {L:St} {t b sz:Nat} {y:LV} {m:Bool} (h:L.slot t=.eptr b sz 0 0) (hb:L.heap b=some ⟨sz,[y],m⟩) (hs:y.csize=sz) (ha:y.isAgg=true) (hp:y.pure=true) (h0:b≠0:=by decide):bI L ((L.put (some t) (.boxp y)).kill b):=by
 have h0':([b]:List Nat).contains 0=false:=by simp;omega
 have e1:=(bI.frz [b] h0' h (.eptr (blk:=⟨sz,[y],m && !([b]:List Nat).contains b⟩) (x:=y) (n:=sz) (ag:=true) (by simp only [St.frz,hb,Option.map_some]) rfl rfl hs (dN hs ha) hp (by simp))).trans (bI.kill _ b h0)
 have e2:((L.frz [b]).put (some t) (.boxp y)).kill b=(L.put (some t) (.boxp y)).kill b:=by
  unfold St.kill
  congr 1
  funext c
  rw [eE,eE]
  by_cases hcb:c=b
  ·simp [hcb]
  ·simp only [St.frz,if_neg hcb]
   cases L.heap c with
   | none=>rfl
   | some blk=>simp [hcb]
 rw [←e2]
 exact e1
theorem aHU {P:Program} {L L0:St} {Q:LEx→St→Prop} {ops:Array Oper} {id:Nat} (hw:bI L L0) (h:jJ P ops ops.size (Array.replicate ops.size false) L0 (Q .normal)):wpL P (.region id ops true) Q L:=⟨L0,hw,.inr (.inl ⟨rfl,h⟩)⟩
def aB2:List (Nat × Blk)→List (Nat × Blk)→Prop
 | [],_=>True
 | (b,x) :: t,l=>hp l b=some x∧aB2 t l
theorem aDh {l':List (Nat × Blk)}:∀ {l:List (Nat × Blk)},aB2 l l'→∀ c x,hp l c=some x→hp l' c=some x
 | [],_,c,x,h=>by cases h
 | (b,y) :: t,h,c,x,hc=>by
  simp only [hp] at hc
  by_cases hb:c=b
  ·subst hb
   simp only [Nat.beq_refl,cond_true,Option.some.injEq] at hc
   subst hc
   exact h.1
  ·have:Nat.beq c b=false:=by rw [←Bool.not_eq_true,Nat.beq_eq];exact hb
   rw [this] at hc
   exact aDh h.2 c x hc
theorem iP {l l':List (Nat × Blk)} (h:aB2 l l') (h':aB2 l' l):hp l=hp l':=by
 funext c
 cases hc:hp l c with
 | some x=>exact(aDh h c x hc).symm
 | none =>
  cases hc':hp l' c with
  | none=>rfl
  | some x=>rw [aDh h' c x hc'] at hc;cases hc
def rA:Op→Bool
 | .store ..=>true
 | .build ..=>true
 | .box ..=>true
 | .alloc ..=>true
 | .buildSlice ..=>true
 | .makeSlice ..=>true
 | .call ⟨.value (.func _),_,_⟩=>true
 | .call ⟨.builtin .append,_,_⟩=>true
 | op=>fP op
section
variable {P:Program} {H:dA} {ρ ρ':Operand→LV}
theorem aHa {ps:Array (Nat × Operand)} (hr:∀ p∈ps.toList,ρ' p.2=ρ p.2):(ps.toList.map fun p=>(p.1,ρ p.2))=ps.toList.map fun p=>(p.1,ρ' p.2) :=
 List.map_congr_left fun p hp=>by rw [hr p hp]
theorem OpA.cong {d:Nat} {op:Op} {r:LV} {blk:Blk} (h:OpA P ρ d op r blk) (hr:∀ x∈op.operands,ρ' x=ρ x):OpA P ρ' d op r blk:=by
 cases h with
 | make hT hz hE hzs hb hl hc hnm hm hm2=>exact .make hT hz hE hzs hb ((hr _ (by simp [Op.operands])).trans hl) ((hr _ (by simp [Op.operands])).trans hc) hnm hm hm2
 | @lit T E n ps z sz hT hz hE hzs hn h0 hs0 hp =>
  have hq:∀ p∈ps.toList,ρ' p.2=ρ p.2:=fun p hp=>hr _ (by simp only [Op.operands,List.mem_toArray];exact List.mem_map.2 ⟨p,hp,rfl⟩)
  rw [aHa hq]
  exact .lit hT hz hE hzs hn h0 hs0 fun p hp'=>by rw [hq p hp'];exact hp p hp'
 | lit0 hT hE=>exact .lit0 hT hE
 | @box T x hne =>
  have e:=hr x (by simp [Op.operands])
  rw [←e]
  rw [←e] at hne
  exact .box hne
 | alloc hz=>exact .alloc hz
theorem OpP.congB {T:TypeId} {ps:Array (Nat × Operand)} {r:LV} (h:OpP P H ρ (.build T ps) r) (hr:∀ x∈(Op.build T ps).operands,ρ' x=ρ x):OpP P H ρ' (.build T ps) r:=by
 have hq:∀ p∈ps.toList,ρ' p.2=ρ p.2:=fun p hp=>hr _ (by simp only [Op.operands,List.mem_toArray];exact List.mem_map.2 ⟨p,hp,rfl⟩)
 cases h with
 | buildA hT hE hf hz hp =>
  rw [aHa hq]
  exact .buildA hT hE hf hz fun p hp'=>by rw [hq p hp'];exact hp p hp'
 | build hT hz hp =>
  rw [aHa hq]
  exact .build hT hz fun p hp'=>by rw [hq p hp'];exact hp p hp'
end
theorem aHo (L:St) {d:Nat} {v:LV} (hv:∀ b,v.kill b=v) (b:Nat):(L.put (some d) v).kill b=(L.kill b).put (some d) v:=by
 have h1:∀ t,((L.put (some d) v).kill b).slot t=((L.kill b).put (some d) v).slot t:=fun t=>by
  rw [cQ]
  show (((L.put (some d) v).slot t).kill b)=_
  rw [cQ]
  split
  ·exact hv b
  ·rfl
 exact congrArg (fun f=>St.mk f (L.kill b).heap) (funext h1)
section
variable {P:Program} {ops:Array Oper}
theorem aCT {L L2:St} {d:Nat} {v:LV} {o:Oper} (hv:∀ b,v.kill b=v) (hk:rA o.op=true) (hl:d∉o.looksAt ops) (hd:o.dst≠some d) (h:Step P false ops o (L.put (some d) v) L2) :
  ∃ L1,Step P false ops o L L1∧L2=L1.put (some d) v∧∀ t,o.dst≠some t→(∀ b,(L.slot t).kill b=L.slot t)→L1.slot t=L.slot t:=by
 have hev:=aGt (L:=L) (v:=v) hl
 have hsl:∀ (M:St) (r:LV) t,M.slot t=L.slot t→o.dst≠some t→(M.put o.dst r).slot t=L.slot t:=fun M r t hM hne=>by
  cases hh:o.dst with
  | none=>exact hM
  | some e=>rw [cQ,if_neg (fun q=>hne (by rw [hh,q]))];exact hM
 cases h with
 | skip hg hL=>exact⟨L.put o.dst (.tup []),.skip (iA hl hg) rfl,by rw [hL,iE L hd],fun t ht _=>hsl L _ t rfl ht⟩
 | @val r fr H1 hg hle hfr hov hL =>
  obtain⟨dst,op,ty,pos,after,gd⟩:=o
  have hev':∀ x∈op.operands,L.ev x=(L.put (some d) v).ev x:=fun x hx=>(hev x hx).symm
  have hov2:OpV P H1 L.ev (dst.getD 0) op r fr:=by
   cases hov with
   | pure hp =>
    by_cases hpl:fP op=true
    ·exact .pure (hp.cong hpl hev')
    ·by_cases hbq:∃ T ps,op=.build T ps
     ·obtain⟨T,ps,rfl⟩:=hbq
      exact .pure (hp.congB hev')
     ·cases hp with
      | ext2 hf hname hb hn he hx hr h1 h2 =>
       refine .pure (.ext2 hf hname hb hn he ?_ hr h1 h2)
       rw [←hx]
       exact List.map_congr_left fun x hxm=>hev' x (nI hxm)
      | build=>exact absurd ⟨_,_,rfl⟩ hbq
      | buildA=>exact absurd ⟨_,_,rfl⟩ hbq
      | _=>first | (exfalso;exact hpl rfl) | (exfalso;revert hk hpl;simp [rA,fP])
   | alloc ha=>exact .alloc (ha.cong hev')
   | call hc =>
    cases hc with
    | func ha hkk hlen hpu =>
     refine .call (.func ?_ hkk hlen hpu)
     rw [show (_:Array Operand).toList.map L.ev=_ from List.map_congr_left fun x hxm=>hev' x (nI hxm)]
     exact ha
    | clo=>exfalso;revert hk;simp [rA,fP]
    | mk=>exfalso;revert hk;simp [rA,fP]
  refine⟨⟨(L.put dst r).slot,H1⟩,.val (iA hl hg) hle hfr hov2 rfl,?_,fun t ht _=>hsl L r t rfl ht⟩
  rw [hL]
  have:=iE L hd v r
  exact congrArg (fun M=>St.mk (St.slot M) H1) this
 | st hg hot =>
  obtain⟨dst,op,ty,pos,after,gd⟩:=o
  cases hot with
  | store hp hb hs hm hi hy hput hT hne =>
   rename_i T p x b sz i o' blk y y'
   have e1:=hev p (by simp [Op.operands])
   have e2:=hev x (by simp [Op.operands])
   rw [e1] at hp
   rw [e2] at hput hT hne
   refine⟨_,.st (iA hl hg) (.store hp hb hs hm hi hy hput hT hne),?_,fun t ht _=>?_⟩
   ·exact iE (L.setB b _) hd v .any
   ·exact hsl (L.setB b _) .any t rfl ht
  | appX hx hb hs hm hlen hbd hb0 hT hU hz hE hzs hby hy hsz h63 hs0 =>
   rename_i T U E E' d' b sz len blk x y news z by_
   have e1:=hev x (by simp [Op.operands,Call.operands])
   have e2:=hev y (by simp [Op.operands,Call.operands])
   rw [e1] at hx
   rw [e2] at hy
   refine⟨_,.st (iA hl hg) (.appX hx hb hs hm hlen hbd hb0 hT hU hz hE hzs hby hy hsz h63 hs0),?_,fun t ht hf=>?_⟩
   ·rw [aHo L hv]
    exact iE ((L.kill b).setB d' _) hd v _
   ·exact hsl ((L.kill b).setB d' _) _ t (hf b) ht
  | app0X hx hbd hT hU hz hE hzs hby hy hn hsz h63 hs0 =>
   rename_i T U E E' d' sz x y news z by_
   have e1:=hev x (by simp [Op.operands,Call.operands])
   have e2:=hev y (by simp [Op.operands,Call.operands])
   rw [e1] at hx
   rw [e2] at hy
   refine⟨_,.st (iA hl hg) (.app0X hx hbd hT hU hz hE hzs hby hy hn hsz h63 hs0),?_,fun t ht hf=>?_⟩
   ·exact iE (L.setB d' _) hd v _
   ·exact hsl (L.setB d' _) _ t rfl ht
  | _=>exfalso;revert hk;simp [rA,fP]
 | stM hdr hg hom =>
  obtain⟨dst,op,ty,pos,after,gd⟩:=o
  cases hom with
  | call hb hm hp ha hn hkk hm' hp' =>
   rename_i f xs ats args r b blk blk'
   have em:xs.toList.map (L.put (some d) v).ev=xs.toList.map L.ev:=List.map_congr_left fun x hxm=>hev x (nI hxm)
   rw [em] at ha hn
   refine⟨_,.stM hdr (iA hl hg) (.call hb hm hp ha hn hkk hm' hp'),?_,fun t ht _=>?_⟩
   ·exact iE (L.setB b _) hd v _
   ·exact hsl (L.setB b _) _ t rfl ht
  | appz hT hU hz hE hzs hb hx hy hbd h0 hs0 hm h63 =>
   rename_i T U E x y z k kl sz by_ n d'
   have e1:=hev x (by simp [Op.operands,Call.operands])
   have e2:=hev y (by simp [Op.operands,Call.operands])
   rw [e1] at hx
   rw [e2] at hy
   refine⟨_,.stM hdr (iA hl hg) (.appz hT hU hz hE hzs hb hx hy hbd h0 hs0 hm h63),?_,fun t ht _=>?_⟩
   ·exact iE (L.setB d' _) hd v _
   ·exact hsl (L.setB d' _) _ t rfl ht
def aAW (ops:Array Oper) (i:Nat) (D:Array Bool):Bool :=
 D.size==ops.size && !D.getD i true && (kC (ops.getD i default)).all (fun j=>D.getD j false) && (ops.getD i default).guard.isNone && fP (ops.getD i default).op &&
 (List.range ops.size).all fun j=>j==i || D.getD j true || (rA (ops.getD j default).op && ((ops.getD j default).dst != (ops.getD i default).dst) &&
  (match (ops.getD i default).dst with | some d=>!((ops.getD j default).looksAt ops).contains d || (kC (ops.getD j default)).contains i | none=>false) &&
  (match (ops.getD j default).dst with | some e=>!((ops.getD i default).looksAt ops).contains e | none=>true))
def aAf (L:St):List Operand→Prop
 | []=>True
 | x :: xs=>(∀ b,(L.ev x).kill b=L.ev x)∧aAf L xs
theorem tY {L:St}:∀ {l:List Operand},aAf L l→∀ x∈l,∀ b,(L.ev x).kill b=L.ev x
 | _ :: _,h,_,.head _=>h.1
 | _ :: _,h,_,.tail _ hx=>tY h.2 _ hx
theorem fmA {p:Prop} (h:p:=by first | exact And.intro (fun _=>rfl) trivial | exact And.intro (fun _=>rfl) (And.intro (fun _=>rfl) trivial) | exact And.intro (fun b=>LV.kill_pure b _ pu) trivial):p:=h
theorem fmV {p:Prop} (h:p:=by first | exact(fun _=>rfl) | exact(fun b=>LV.kill_pure b _ pu) | exact(fun b=>LV.kill_pure b _ (by assumption))):p:=h
theorem jB {m:Nat} {K:St→Prop} {L:St} {D:Array Bool} {d:Nat} {v:LV} (i:Nat) {o:Oper} (ho:ops[i]?=some o) (hdst:o.dst=some d) (hok:aAW ops i D=true) (hv:OpP P (fun _=>none) L.ev o.op v)
  (hfv:∀ b,v.kill b=v) (hfo:aAf L o.op.operands.toList)
  (h:jJ P ops m (D.setIfInBounds i true) (L.put (some d) v) K):jJ P ops (m+1) D L K:=by
 have getD_of:∀ i o,ops[i]?=some o→ops.getD i default=o:=fun i o h=>by rw [Array.getD_eq_getD_getElem?,h];rfl
 have hin:i<ops.size:=(Array.getElem?_eq_some_iff.1 ho).1
 let C:Array Bool→Prop:=fun D=>D.size=ops.size∧D.getD i false=false∧(∀ j∈kC o,D.getD j false=true)∧∀ j oj,ops[j]?=some oj→j≠i→D.getD j false=false →
  rA oj.op=true∧oj.dst≠some d∧(d∈oj.looksAt ops→i∈kC oj)∧∀ e,oj.dst=some e→e∉o.looksAt ops
 unfold aAW at hok
 rw [getD_of i o ho,hdst] at hok
 simp only [Bool.and_eq_true,List.all_eq_true,List.mem_range,Bool.or_eq_true,beq_iff_eq,Bool.not_eq_true',Option.isNone_iff_eq_none,bne_iff_ne,ne_eq] at hok
 obtain⟨⟨⟨⟨⟨hsz,hni⟩,hrd⟩,hgd⟩,hslim⟩,hall⟩:=hok
 have hC:C D:=by
  refine⟨hsz,by rw [jH (by omega) false true];exact hni,hrd,fun j oj hj hne hDj=>?_⟩
  have hjl:j<ops.size:=(Array.getElem?_eq_some_iff.1 hj).1
  have:=hall j hjl
  rw [getD_of j oj hj] at this
  rcases this with(q | q) | q
  ·exact absurd q hne
  ·rw [jH (by omega) true false,hDj] at q;cases q
  ·obtain⟨⟨⟨q1,q2⟩,q3⟩,q4⟩:=q
   refine⟨q1,q2,fun hm=>?_,fun e he hm=>?_⟩
   ·rcases q3 with q | q
    ·rw [List.contains_iff_mem.2 hm] at q;cases q
    ·exact List.contains_iff_mem.1 q
   ·rw [he] at q4
    simp only [Bool.not_eq_true'] at q4
    rw [List.contains_iff_mem.2 hm] at q4;cases q4
 have hstepi:∀ L:St,OpP P (fun _=>none) L.ev o.op v→Step P false ops o L (L.put (some d) v):=fun L hv=>by
  refine .val (fr:=[]) (H1:=L.heap) (r:=v) (by unfold bY;rw [hgd]) (dA.le_refl _) (fun _ _ hh=>by cases hh) (.pure (hv.le fun b blk h=>by cases h)) ?_
  rw [hdst];rfl
 clear hsz hni hrd hall
 have hfo':∀ x∈o.op.operands,∀ b,(L.ev x).kill b=L.ev x:=fun x hx=>tY hfo x (Array.mem_toList_iff.2 hx)
 clear hfo
 have main:∀ (n:Nat) (D:Array Bool) (L:St),C D→OpP P (fun _=>none) L.ev o.op v→(∀ x∈o.op.operands,∀ b,(L.ev x).kill b=L.ev x)→jJ P ops n (D.setIfInBounds i true) (L.put (some d) v) K→jJ P ops (n+1) D L K:=by
  intro n
  induction n with
  | zero =>
   intro D L ⟨c1,c2,c3,c4⟩ hv _ hh
   have hri:i∈Region.ready .any ops D:=(d8 c1).2 ⟨o,ho,by rw [jH (by omega) true false];exact c2,c3⟩
   refine⟨fun hr=>(by rw [hr] at hri;cases hri),fun j hj=>?_⟩
   by_cases hji:j=i
   ·subst hji
    exact⟨o,_,ho,hstepi L hv,hh⟩
   ·exfalso
    obtain⟨oj,h1,h2,h3⟩:=(d8 c1).1 hj
    have:j∈Region.ready .any ops (D.setIfInBounds i true):=(d8 (by simpa using c1)).2 ⟨oj,h1,by
     rw [Array.getD_eq_getD_getElem?,Array.getElem?_setIfInBounds_ne (Ne.symm hji),←Array.getD_eq_getD_getElem?];exact h2,fun k hk=>by
     by_cases hki:i=k
     ·subst hki
      rw [Array.getD_eq_getD_getElem?,Array.getElem?_setIfInBounds_self_of_lt (by omega)];rfl
     ·rw [Array.getD_eq_getD_getElem?,Array.getElem?_setIfInBounds_ne hki,←Array.getD_eq_getD_getElem?];exact h3 k hk⟩
    rw [hh.1] at this;cases this
  | succ n ih =>
   intro D L ⟨c1,c2,c3,c4⟩ hv hfo hh
   have hri:i∈Region.ready .any ops D:=(d8 c1).2 ⟨o,ho,by rw [jH (by omega) true false];exact c2,c3⟩
   refine⟨fun hr=>(by rw [hr] at hri;cases hri),fun j hj=>?_⟩
   by_cases hji:j=i
   ·subst hji
    exact⟨o,_,ho,hstepi L hv,hh⟩
   ·obtain⟨oj,h1,h2,h3⟩:=(d8 c1).1 hj
    have hjl:j<ops.size:=(Array.getElem?_eq_some_iff.1 h1).1
    have hDj:D.getD j false=false:=by rw [jH (by omega) false true];exact h2
    have hji2:j∈Region.ready .any ops (D.setIfInBounds i true):=(d8 (by simpa using c1)).2 ⟨oj,h1,by
     rw [Array.getD_eq_getD_getElem?,Array.getElem?_setIfInBounds_ne (Ne.symm hji),←Array.getD_eq_getD_getElem?];exact h2,fun k hk=>by
     by_cases hki:i=k
     ·subst hki
      rw [Array.getD_eq_getD_getElem?,Array.getElem?_setIfInBounds_self_of_lt (by omega)];rfl
     ·rw [Array.getD_eq_getD_getElem?,Array.getElem?_setIfInBounds_ne hki,←Array.getD_eq_getD_getElem?];exact h3 k hk⟩
    obtain⟨oj',L2,g1,g2,g3⟩:=hh.2 j hji2
    rw [h1] at g1;cases g1
    obtain⟨k1,k2,k3,k4⟩:=c4 j oj h1 hji hDj
    have hnl:d∉oj.looksAt ops:=fun hm=>by
     have:=h3 i (k3 hm)
     rw [c2] at this;cases this
    obtain⟨L1,s1,s2,s3⟩:=aCT hfv k1 hnl k2 g2
    have hsame:∀ x∈o.op.operands,L1.ev x=L.ev x:=fun x hx=>by
     cases x with
     | tmp t =>
      have ht:t∈o.looksAt ops:=by
       unfold Oper.looksAt
       simp only [List.mem_append,List.mem_filterMap]
       exact .inl ⟨.tmp t,by simpa using hx,rfl⟩
      exact s3 t (fun q=>k4 t q ht) (hfo _ hx)
     | const v=>rfl
     | func f=>rfl
     | global f=>rfl
    refine⟨oj,L1,h1,s1,ih (D.setIfInBounds j true) L1 ⟨by simpa using c1,?_,fun k hk=>?_,fun k ok hk hne hDk=>?_⟩ (hv.cong hslim hsame) (fun x hx b=>by rw [hsame x hx];exact hfo x hx b) ?_⟩
    ·rw [Array.getD_eq_getD_getElem?,Array.getElem?_setIfInBounds_ne hji,←Array.getD_eq_getD_getElem?];exact c2
    ·by_cases hjk:j=k
     ·subst hjk
      rw [Array.getD_eq_getD_getElem?,Array.getElem?_setIfInBounds_self_of_lt (by omega)];rfl
     ·rw [Array.getD_eq_getD_getElem?,Array.getElem?_setIfInBounds_ne hjk,←Array.getD_eq_getD_getElem?];exact c3 k hk
    ·by_cases hjk:j=k
     ·subst hjk
      rw [Array.getD_eq_getD_getElem?,Array.getElem?_setIfInBounds_self_of_lt (by omega)] at hDk
      cases hDk
     ·rw [Array.getD_eq_getD_getElem?,Array.getElem?_setIfInBounds_ne hjk,←Array.getD_eq_getD_getElem?] at hDk
      exact c4 k ok hk hne hDk
    ·rw [←s2]
     have:(D.setIfInBounds j true).setIfInBounds i true=(D.setIfInBounds i true).setIfInBounds j true:=by
      refine Array.ext_getElem? fun k=>?_
      by_cases q1:i=k
      ·subst q1
       rw [Array.getElem?_setIfInBounds_self_of_lt (by simp;omega),Array.getElem?_setIfInBounds_ne hji,Array.getElem?_setIfInBounds_self_of_lt (by omega)]
      ·by_cases q2:j=k
       ·subst q2
        rw [Array.getElem?_setIfInBounds_ne q1,Array.getElem?_setIfInBounds_self_of_lt (by omega),Array.getElem?_setIfInBounds_self_of_lt (by simp;omega)]
       ·rw [Array.getElem?_setIfInBounds_ne q1,Array.getElem?_setIfInBounds_ne q2,Array.getElem?_setIfInBounds_ne q2,Array.getElem?_setIfInBounds_ne q1]
     rw [this];exact g3
 exact main m D L hC hv hfo' h
end
end Go.Lg
end
section
set_option linter.unusedVariables false
set_option linter.unusedSimpArgs false
set_option maxHeartbeats 8000000
set_option maxRecDepth 100000
attribute [local irreducible] Go.Lg.opsL Go.Lg.wpL Go.Lg.thenL Go.Lg.blockL
namespace Go.Proofs.YtfpdccbgngdhkaaGreat
open Go.Lg
def swR (V:Nat) (rows:List (List PoR)):List (List PoR):=(List.range (V+1)).map fun j=>rows.map fun r=>r.getD j default
theorem aAt (V:Nat) (rows:List (List PoR)):(swR V rows).length=V+1:=by simp [swR]
theorem aH5 {V:Nat} (rows:List (List PoR)) {j:Nat} (h:j<V+1):(swR V rows)[j]?=some (rows.map fun r=>r.getD j default):=by
 rw [swR,List.getElem?_map,List.getElem?_range h];rfl
theorem aBP {V:Nat} (rows:List (List PoR)) {j:Nat} (h:j<V+1):(swR V rows).getD j []=rows.map fun r=>r.getD j default:=by
 rw [List.getD_eq_getElem?_getD,aH5 rows h];rfl
theorem aG6 {V:Nat} (rows:List (List PoR)) {j:Nat} (h:j<V+1):(swR V rows).take j++[rows.map fun r=>r.getD j default]=(swR V rows).take (j+1):=by
 rw [List.take_add_one,aH5 rows h];rfl
theorem aPQ {α β:Type} [Inhabited α] (f:α→β) (l:List α) (d:α) {i:Nat} (h:i<l.length):(l.map f).take i++[f (l.getD i d)]=(l.map f).take (i+1):=by
 rw [List.take_add_one,List.getElem?_map,List.getD_eq_getElem?_getD,List.getElem?_eq_getElem h];rfl
namespace Zq41
theorem dG {p q:Prop} (k:q) (e:p=q:=by simp only [e1,e2,e3,e4,p1,p2,p3,q1,q2,q3,l1,t0,t1,r1,r2,r3,r4,Nat.zero_add,Nat.reduceMul,Nat.reduceAdd,b1,b2,b3,b4,b5,b6,i1,i2,i3,i4,i5,i6,Nat.reduceBEq,cM,etk,eto,esw,egr,aC aD,aC gY,List.length_map,List.take_nil,List.nil_append,bQ,dS,aC gY,gB,gW,bJ,cI,bQ,List.length_cons,List.length_nil,List.nil_append,List.map_nil,List.take_nil,List.append_nil,List.set_cons_zero,List.set_cons_succ,Nat.reduceEqDiff,reduceIte,if_true,if_false,bG,bF,aC fF,aC eI,aC aD,aS,aZ,LV.kill,bB];exact rfl):p:=e.mpr k
end Zq41
open Zq41 in
theorem aJi (R U V:Nat) (kU kV:List Rat) (rows:List (List PoR)) (h:pf R U V rows) (hku:kU.length≤100) (hkv:kV.length≤100):aM Tryz.prog 15 [.agg [aE U,aE V,.list 3 (kU.map ratL),.list 3 (kV.map ratL),.list 1 (rows.map cM)]] (.agg [aE V,aE U,.list 3 (kV.map ratL),.list 3 (kU.map ratL),.list 1 ((swR V rows).map cM)]):=by
 have hsp:LV.pure (.agg [aE U,aE V,.list 3 (kU.map ratL),.list 3 (kV.map ratL),.list 1 (rows.map cM)])=true:=by simp [LV.pure,aY,aH aD,aH gY]
 have hpv:=aH aD kV
 have hpu:=aH aD kU
 have hpr:=aH gY rows
 have hu3:=h.u3
 have hv3:=h.v3
 have hrn:=h.n
 have hr0:=h.r0 (Nat.zero_le U)
 have hsl:=aAt V rows
 refine dI Tryz.func15 (ht:=(fun g=>LV.ren_pure g _ (by simp [LV.pure,aY,aH aD,aH gY]))) ?_
 have etk:True:=trivial
 have eto:True:=trivial
 have esw:True:=trivial
 have egr:True:=trivial
 refine dL ?_
 refine eB (fun L=>∃  (L1:St),(True)∧L=((((St.mk L1.slot (hp [(2,⟨5,[.agg [.v (.int .i64 0),.v (.int .i64 0),.v (.slice none 0 0),.v (.slice none 0 0),.v (.slice none 0 0)]],true⟩),(3,⟨5,[.agg [aE V,aE U,.ref 11 3 0 kV.length,.ref 15 3 0 kU.length,.v (.slice none 0 0)]],true⟩),(11,⟨3,kV.map ratL,true⟩),(15,⟨3,kU.map ratL,true⟩)])).put (some 1) (.boxp (.agg [aE U,aE V,.list 3 (kU.map ratL),.list 3 (kV.map ratL),.list 1 (rows.map cM)]))).put (some 2) (.eptr 2 5 0 0)).put (some 3) (.eptr 3 5 0 0))) ?_ ?_
 ·refine aHU (bI.boxp (t:=1) (b:=1) rfl rfl cs rfl hsp) ?_
  refine jB 0 rfl rfl (by decide +kernel) mC fmV fmA ?_
  refine jB 1 rfl rfl (by decide +kernel) kS fmV fmA ?_
  refine jB 2 rfl rfl (by decide +kernel) mC fmV fmA ?_
  refine jB 3 rfl rfl (by decide +kernel) kS fmV fmA ?_
  refine jB 5 rfl rfl (by decide +kernel) mC fmV fmA ?_
  refine jB 6 rfl rfl (by decide +kernel) (.ldbx rfl (aG aD 3 kV) rfl rfl) fmV fmA ?_
  refine jB 9 rfl rfl (by decide +kernel) mC fmV fmA ?_
  refine jB 10 rfl rfl (by decide +kernel) (.ldbx rfl (aG aD 3 kU) rfl rfl) fmV fmA ?_
  refine w9 4 8 13 _ _ _ (by decide +kernel) rfl rfl rfl ?_ ?_ ?_
  ·refine bE ?_
   refine aF ?_
   refine w9 7 8 13 _ _ _ (by decide +kernel) rfl rfl rfl ?_ ?_ ?_
   ·refine bD rfl (.appX (d:=11) (news:=kV.map ratL) rfl rfl rfl rfl (by simp) (.inl rfl) (by decide) Tryz.underlying36 Tryz.underlying36 eH cX rfl lB (.inr (.inl rfl)) (by simp;omega) (by simp;omega) (by decide)) ?_
    refine aF ?_
    refine dO 8 13 _ _ (by decide +kernel) rfl rfl ?_ ?_
    ·refine bE ?_
     refine aF ?_
     refine dO 11 13 _ _ (by decide +kernel) rfl rfl ?_ ?_
     ·refine bD rfl (.appX (d:=15) (news:=kU.map ratL) rfl rfl rfl rfl (by simp) (.inl rfl) (by decide) Tryz.underlying36 Tryz.underlying36 eH cX rfl lB (.inr (.inl rfl)) (by simp;omega) (by simp;omega) (by decide)) ?_
      refine aF ?_
      refine dO 12 13 _ _ (by decide +kernel) rfl rfl ?_ ?_
      ·refine bE ?_
       refine aF ?_
       refine aN 13 _ (by decide +kernel) rfl ?_
       refine bE ?_
       refine aF ?_
       refine aN 14 _ (by decide +kernel) rfl ?_
       refine bE ?_
       refine aF ?_
       refine cK (by decide +kernel) ?_
       refine bE ?_
       exact⟨_,trivial,((aA (aA (aA (bC (by first | exact cl | (refine dG ?_;refine iP ?_ ?_<;>repeat (first | exact trivial | refine And.intro rfl ?_)))) cl) cl) cl)).symm⟩
      ·refine bE ?_
       refine aF ?_
       refine aN 12 _ (by decide +kernel) rfl ?_
       refine bE ?_
       refine aF ?_
       refine aN 14 _ (by decide +kernel) rfl ?_
       refine bE ?_
       refine aF ?_
       refine cK (by decide +kernel) ?_
       refine bE ?_
       exact⟨_,trivial,((aA (aA (aA (bC (by first | exact cl | (refine dG ?_;refine iP ?_ ?_<;>repeat (first | exact trivial | refine And.intro rfl ?_)))) cl) cl) cl)).symm⟩
     ·refine bE ?_
      refine aF ?_
      refine aN 11 _ (by decide +kernel) rfl ?_
      refine bD rfl (.appX (d:=15) (news:=kU.map ratL) rfl rfl rfl rfl (by simp) (.inl rfl) (by decide) Tryz.underlying36 Tryz.underlying36 eH cX rfl lB (.inr (.inl rfl)) (by simp;omega) (by simp;omega) (by decide)) ?_
      refine aF ?_
      refine aN 12 _ (by decide +kernel) rfl ?_
      refine bE ?_
      refine aF ?_
      refine aN 14 _ (by decide +kernel) rfl ?_
      refine bE ?_
      refine aF ?_
      refine cK (by decide +kernel) ?_
      refine bE ?_
      exact⟨_,trivial,((aA (aA (aA (bC (by first | exact cl | (refine dG ?_;refine iP ?_ ?_<;>repeat (first | exact trivial | refine And.intro rfl ?_)))) cl) cl) cl)).symm⟩
    ·refine bE ?_
     refine aF ?_
     refine aN 8 _ (by decide +kernel) rfl ?_
     refine bE ?_
     refine aF ?_
     refine aN 11 _ (by decide +kernel) rfl ?_
     refine bD rfl (.appX (d:=15) (news:=kU.map ratL) rfl rfl rfl rfl (by simp) (.inl rfl) (by decide) Tryz.underlying36 Tryz.underlying36 eH cX rfl lB (.inr (.inl rfl)) (by simp;omega) (by simp;omega) (by decide)) ?_
     refine aF ?_
     refine aN 12 _ (by decide +kernel) rfl ?_
     refine bE ?_
     refine aF ?_
     refine aN 14 _ (by decide +kernel) rfl ?_
     refine bE ?_
     refine aF ?_
     refine cK (by decide +kernel) ?_
     refine bE ?_
     exact⟨_,trivial,((aA (aA (aA (bC (by first | exact cl | (refine dG ?_;refine iP ?_ ?_<;>repeat (first | exact trivial | refine And.intro rfl ?_)))) cl) cl) cl)).symm⟩
   ·refine bE ?_
    refine aF ?_
    refine dO 7 13 _ _ (by decide +kernel) rfl rfl ?_ ?_
    ·refine bD rfl (.appX (d:=11) (news:=kV.map ratL) rfl rfl rfl rfl (by simp) (.inl rfl) (by decide) Tryz.underlying36 Tryz.underlying36 eH cX rfl lB (.inr (.inl rfl)) (by simp;omega) (by simp;omega) (by decide)) ?_
     refine aF ?_
     refine dO 11 13 _ _ (by decide +kernel) rfl rfl ?_ ?_
     ·refine bD rfl (.appX (d:=15) (news:=kU.map ratL) rfl rfl rfl rfl (by simp) (.inl rfl) (by decide) Tryz.underlying36 Tryz.underlying36 eH cX rfl lB (.inr (.inl rfl)) (by simp;omega) (by simp;omega) (by decide)) ?_
      refine aF ?_
      refine dO 12 13 _ _ (by decide +kernel) rfl rfl ?_ ?_
      ·refine bE ?_
       refine aF ?_
       refine aN 13 _ (by decide +kernel) rfl ?_
       refine bE ?_
       refine aF ?_
       refine aN 14 _ (by decide +kernel) rfl ?_
       refine bE ?_
       refine aF ?_
       refine cK (by decide +kernel) ?_
       refine bE ?_
       exact⟨_,trivial,((aA (aA (aA (bC (by first | exact cl | (refine dG ?_;refine iP ?_ ?_<;>repeat (first | exact trivial | refine And.intro rfl ?_)))) cl) cl) cl)).symm⟩
      ·refine bE ?_
       refine aF ?_
       refine aN 12 _ (by decide +kernel) rfl ?_
       refine bE ?_
       refine aF ?_
       refine aN 14 _ (by decide +kernel) rfl ?_
       refine bE ?_
       refine aF ?_
       refine cK (by decide +kernel) ?_
       refine bE ?_
       exact⟨_,trivial,((aA (aA (aA (bC (by first | exact cl | (refine dG ?_;refine iP ?_ ?_<;>repeat (first | exact trivial | refine And.intro rfl ?_)))) cl) cl) cl)).symm⟩
     ·refine bE ?_
      refine aF ?_
      refine aN 11 _ (by decide +kernel) rfl ?_
      refine bD rfl (.appX (d:=15) (news:=kU.map ratL) rfl rfl rfl rfl (by simp) (.inl rfl) (by decide) Tryz.underlying36 Tryz.underlying36 eH cX rfl lB (.inr (.inl rfl)) (by simp;omega) (by simp;omega) (by decide)) ?_
      refine aF ?_
      refine aN 12 _ (by decide +kernel) rfl ?_
      refine bE ?_
      refine aF ?_
      refine aN 14 _ (by decide +kernel) rfl ?_
      refine bE ?_
      refine aF ?_
      refine cK (by decide +kernel) ?_
      refine bE ?_
      exact⟨_,trivial,((aA (aA (aA (bC (by first | exact cl | (refine dG ?_;refine iP ?_ ?_<;>repeat (first | exact trivial | refine And.intro rfl ?_)))) cl) cl) cl)).symm⟩
    ·refine bE ?_
     refine aF ?_
     refine aN 7 _ (by decide +kernel) rfl ?_
     refine bD rfl (.appX (d:=11) (news:=kV.map ratL) rfl rfl rfl rfl (by simp) (.inl rfl) (by decide) Tryz.underlying36 Tryz.underlying36 eH cX rfl lB (.inr (.inl rfl)) (by simp;omega) (by simp;omega) (by decide)) ?_
     refine aF ?_
     refine aN 11 _ (by decide +kernel) rfl ?_
     refine bD rfl (.appX (d:=15) (news:=kU.map ratL) rfl rfl rfl rfl (by simp) (.inl rfl) (by decide) Tryz.underlying36 Tryz.underlying36 eH cX rfl lB (.inr (.inl rfl)) (by simp;omega) (by simp;omega) (by decide)) ?_
     refine aF ?_
     refine aN 12 _ (by decide +kernel) rfl ?_
     refine bE ?_
     refine aF ?_
     refine aN 14 _ (by decide +kernel) rfl ?_
     refine bE ?_
     refine aF ?_
     refine cK (by decide +kernel) ?_
     refine bE ?_
     exact⟨_,trivial,((aA (aA (aA (bC (by first | exact cl | (refine dG ?_;refine iP ?_ ?_<;>repeat (first | exact trivial | refine And.intro rfl ?_)))) cl) cl) cl)).symm⟩
   ·refine bE ?_
    refine aF ?_
    refine dO 7 8 _ _ (by decide +kernel) rfl rfl ?_ ?_
    ·refine bD rfl (.appX (d:=11) (news:=kV.map ratL) rfl rfl rfl rfl (by simp) (.inl rfl) (by decide) Tryz.underlying36 Tryz.underlying36 eH cX rfl lB (.inr (.inl rfl)) (by simp;omega) (by simp;omega) (by decide)) ?_
     refine aF ?_
     refine aN 8 _ (by decide +kernel) rfl ?_
     refine bE ?_
     refine aF ?_
     refine aN 11 _ (by decide +kernel) rfl ?_
     refine bD rfl (.appX (d:=15) (news:=kU.map ratL) rfl rfl rfl rfl (by simp) (.inl rfl) (by decide) Tryz.underlying36 Tryz.underlying36 eH cX rfl lB (.inr (.inl rfl)) (by simp;omega) (by simp;omega) (by decide)) ?_
     refine aF ?_
     refine aN 12 _ (by decide +kernel) rfl ?_
     refine bE ?_
     refine aF ?_
     refine aN 14 _ (by decide +kernel) rfl ?_
     refine bE ?_
     refine aF ?_
     refine cK (by decide +kernel) ?_
     refine bE ?_
     exact⟨_,trivial,((aA (aA (aA (bC (by first | exact cl | (refine dG ?_;refine iP ?_ ?_<;>repeat (first | exact trivial | refine And.intro rfl ?_)))) cl) cl) cl)).symm⟩
    ·refine bE ?_
     refine aF ?_
     refine aN 7 _ (by decide +kernel) rfl ?_
     refine bD rfl (.appX (d:=11) (news:=kV.map ratL) rfl rfl rfl rfl (by simp) (.inl rfl) (by decide) Tryz.underlying36 Tryz.underlying36 eH cX rfl lB (.inr (.inl rfl)) (by simp;omega) (by simp;omega) (by decide)) ?_
     refine aF ?_
     refine aN 11 _ (by decide +kernel) rfl ?_
     refine bD rfl (.appX (d:=15) (news:=kU.map ratL) rfl rfl rfl rfl (by simp) (.inl rfl) (by decide) Tryz.underlying36 Tryz.underlying36 eH cX rfl lB (.inr (.inl rfl)) (by simp;omega) (by simp;omega) (by decide)) ?_
     refine aF ?_
     refine aN 12 _ (by decide +kernel) rfl ?_
     refine bE ?_
     refine aF ?_
     refine aN 14 _ (by decide +kernel) rfl ?_
     refine bE ?_
     refine aF ?_
     refine cK (by decide +kernel) ?_
     refine bE ?_
     exact⟨_,trivial,((aA (aA (aA (bC (by first | exact cl | (refine dG ?_;refine iP ?_ ?_<;>repeat (first | exact trivial | refine And.intro rfl ?_)))) cl) cl) cl)).symm⟩
  ·refine bE ?_
   refine aF ?_
   refine dO 4 13 _ _ (by decide +kernel) rfl rfl ?_ ?_
   ·refine bE ?_
    refine aF ?_
    refine dO 7 13 _ _ (by decide +kernel) rfl rfl ?_ ?_
    ·refine bD rfl (.appX (d:=11) (news:=kV.map ratL) rfl rfl rfl rfl (by simp) (.inl rfl) (by decide) Tryz.underlying36 Tryz.underlying36 eH cX rfl lB (.inr (.inl rfl)) (by simp;omega) (by simp;omega) (by decide)) ?_
     refine aF ?_
     refine dO 11 13 _ _ (by decide +kernel) rfl rfl ?_ ?_
     ·refine bD rfl (.appX (d:=15) (news:=kU.map ratL) rfl rfl rfl rfl (by simp) (.inl rfl) (by decide) Tryz.underlying36 Tryz.underlying36 eH cX rfl lB (.inr (.inl rfl)) (by simp;omega) (by simp;omega) (by decide)) ?_
      refine aF ?_
      refine dO 12 13 _ _ (by decide +kernel) rfl rfl ?_ ?_
      ·refine bE ?_
       refine aF ?_
       refine aN 13 _ (by decide +kernel) rfl ?_
       refine bE ?_
       refine aF ?_
       refine aN 14 _ (by decide +kernel) rfl ?_
       refine bE ?_
       refine aF ?_
       refine cK (by decide +kernel) ?_
       refine bE ?_
       exact⟨_,trivial,((aA (aA (aA (bC (by first | exact cl | (refine dG ?_;refine iP ?_ ?_<;>repeat (first | exact trivial | refine And.intro rfl ?_)))) cl) cl) cl)).symm⟩
      ·refine bE ?_
       refine aF ?_
       refine aN 12 _ (by decide +kernel) rfl ?_
       refine bE ?_
       refine aF ?_
       refine aN 14 _ (by decide +kernel) rfl ?_
       refine bE ?_
       refine aF ?_
       refine cK (by decide +kernel) ?_
       refine bE ?_
       exact⟨_,trivial,((aA (aA (aA (bC (by first | exact cl | (refine dG ?_;refine iP ?_ ?_<;>repeat (first | exact trivial | refine And.intro rfl ?_)))) cl) cl) cl)).symm⟩
     ·refine bE ?_
      refine aF ?_
      refine aN 11 _ (by decide +kernel) rfl ?_
      refine bD rfl (.appX (d:=15) (news:=kU.map ratL) rfl rfl rfl rfl (by simp) (.inl rfl) (by decide) Tryz.underlying36 Tryz.underlying36 eH cX rfl lB (.inr (.inl rfl)) (by simp;omega) (by simp;omega) (by decide)) ?_
      refine aF ?_
      refine aN 12 _ (by decide +kernel) rfl ?_
      refine bE ?_
      refine aF ?_
      refine aN 14 _ (by decide +kernel) rfl ?_
      refine bE ?_
      refine aF ?_
      refine cK (by decide +kernel) ?_
      refine bE ?_
      exact⟨_,trivial,((aA (aA (aA (bC (by first | exact cl | (refine dG ?_;refine iP ?_ ?_<;>repeat (first | exact trivial | refine And.intro rfl ?_)))) cl) cl) cl)).symm⟩
    ·refine bE ?_
     refine aF ?_
     refine aN 7 _ (by decide +kernel) rfl ?_
     refine bD rfl (.appX (d:=11) (news:=kV.map ratL) rfl rfl rfl rfl (by simp) (.inl rfl) (by decide) Tryz.underlying36 Tryz.underlying36 eH cX rfl lB (.inr (.inl rfl)) (by simp;omega) (by simp;omega) (by decide)) ?_
     refine aF ?_
     refine aN 11 _ (by decide +kernel) rfl ?_
     refine bD rfl (.appX (d:=15) (news:=kU.map ratL) rfl rfl rfl rfl (by simp) (.inl rfl) (by decide) Tryz.underlying36 Tryz.underlying36 eH cX rfl lB (.inr (.inl rfl)) (by simp;omega) (by simp;omega) (by decide)) ?_
     refine aF ?_
     refine aN 12 _ (by decide +kernel) rfl ?_
     refine bE ?_
     refine aF ?_
     refine aN 14 _ (by decide +kernel) rfl ?_
     refine bE ?_
     refine aF ?_
     refine cK (by decide +kernel) ?_
     refine bE ?_
     exact⟨_,trivial,((aA (aA (aA (bC (by first | exact cl | (refine dG ?_;refine iP ?_ ?_<;>repeat (first | exact trivial | refine And.intro rfl ?_)))) cl) cl) cl)).symm⟩
   ·refine bE ?_
    refine aF ?_
    refine aN 4 _ (by decide +kernel) rfl ?_
    refine bE ?_
    refine aF ?_
    refine aN 7 _ (by decide +kernel) rfl ?_
    refine bD rfl (.appX (d:=11) (news:=kV.map ratL) rfl rfl rfl rfl (by simp) (.inl rfl) (by decide) Tryz.underlying36 Tryz.underlying36 eH cX rfl lB (.inr (.inl rfl)) (by simp;omega) (by simp;omega) (by decide)) ?_
    refine aF ?_
    refine aN 11 _ (by decide +kernel) rfl ?_
    refine bD rfl (.appX (d:=15) (news:=kU.map ratL) rfl rfl rfl rfl (by simp) (.inl rfl) (by decide) Tryz.underlying36 Tryz.underlying36 eH cX rfl lB (.inr (.inl rfl)) (by simp;omega) (by simp;omega) (by decide)) ?_
    refine aF ?_
    refine aN 12 _ (by decide +kernel) rfl ?_
    refine bE ?_
    refine aF ?_
    refine aN 14 _ (by decide +kernel) rfl ?_
    refine bE ?_
    refine aF ?_
    refine cK (by decide +kernel) ?_
    refine bE ?_
    exact⟨_,trivial,((aA (aA (aA (bC (by first | exact cl | (refine dG ?_;refine iP ?_ ?_<;>repeat (first | exact trivial | refine And.intro rfl ?_)))) cl) cl) cl)).symm⟩
  ·refine bE ?_
   refine aF ?_
   refine dO 4 8 _ _ (by decide +kernel) rfl rfl ?_ ?_
   ·refine bE ?_
    refine aF ?_
    refine dO 7 8 _ _ (by decide +kernel) rfl rfl ?_ ?_
    ·refine bD rfl (.appX (d:=11) (news:=kV.map ratL) rfl rfl rfl rfl (by simp) (.inl rfl) (by decide) Tryz.underlying36 Tryz.underlying36 eH cX rfl lB (.inr (.inl rfl)) (by simp;omega) (by simp;omega) (by decide)) ?_
     refine aF ?_
     refine aN 8 _ (by decide +kernel) rfl ?_
     refine bE ?_
     refine aF ?_
     refine aN 11 _ (by decide +kernel) rfl ?_
     refine bD rfl (.appX (d:=15) (news:=kU.map ratL) rfl rfl rfl rfl (by simp) (.inl rfl) (by decide) Tryz.underlying36 Tryz.underlying36 eH cX rfl lB (.inr (.inl rfl)) (by simp;omega) (by simp;omega) (by decide)) ?_
     refine aF ?_
     refine aN 12 _ (by decide +kernel) rfl ?_
     refine bE ?_
     refine aF ?_
     refine aN 14 _ (by decide +kernel) rfl ?_
     refine bE ?_
     refine aF ?_
     refine cK (by decide +kernel) ?_
     refine bE ?_
     exact⟨_,trivial,((aA (aA (aA (bC (by first | exact cl | (refine dG ?_;refine iP ?_ ?_<;>repeat (first | exact trivial | refine And.intro rfl ?_)))) cl) cl) cl)).symm⟩
    ·refine bE ?_
     refine aF ?_
     refine aN 7 _ (by decide +kernel) rfl ?_
     refine bD rfl (.appX (d:=11) (news:=kV.map ratL) rfl rfl rfl rfl (by simp) (.inl rfl) (by decide) Tryz.underlying36 Tryz.underlying36 eH cX rfl lB (.inr (.inl rfl)) (by simp;omega) (by simp;omega) (by decide)) ?_
     refine aF ?_
     refine aN 11 _ (by decide +kernel) rfl ?_
     refine bD rfl (.appX (d:=15) (news:=kU.map ratL) rfl rfl rfl rfl (by simp) (.inl rfl) (by decide) Tryz.underlying36 Tryz.underlying36 eH cX rfl lB (.inr (.inl rfl)) (by simp;omega) (by simp;omega) (by decide)) ?_
     refine aF ?_
     refine aN 12 _ (by decide +kernel) rfl ?_
     refine bE ?_
     refine aF ?_
     refine aN 14 _ (by decide +kernel) rfl ?_
     refine bE ?_
     refine aF ?_
     refine cK (by decide +kernel) ?_
     refine bE ?_
     exact⟨_,trivial,((aA (aA (aA (bC (by first | exact cl | (refine dG ?_;refine iP ?_ ?_<;>repeat (first | exact trivial | refine And.intro rfl ?_)))) cl) cl) cl)).symm⟩
   ·refine bE ?_
    refine aF ?_
    refine aN 4 _ (by decide +kernel) rfl ?_
    refine bE ?_
    refine aF ?_
    refine aN 7 _ (by decide +kernel) rfl ?_
    refine bD rfl (.appX (d:=11) (news:=kV.map ratL) rfl rfl rfl rfl (by simp) (.inl rfl) (by decide) Tryz.underlying36 Tryz.underlying36 eH cX rfl lB (.inr (.inl rfl)) (by simp;omega) (by simp;omega) (by decide)) ?_
    refine aF ?_
    refine aN 11 _ (by decide +kernel) rfl ?_
    refine bD rfl (.appX (d:=15) (news:=kU.map ratL) rfl rfl rfl rfl (by simp) (.inl rfl) (by decide) Tryz.underlying36 Tryz.underlying36 eH cX rfl lB (.inr (.inl rfl)) (by simp;omega) (by simp;omega) (by decide)) ?_
    refine aF ?_
    refine aN 12 _ (by decide +kernel) rfl ?_
    refine bE ?_
    refine aF ?_
    refine aN 14 _ (by decide +kernel) rfl ?_
    refine bE ?_
    refine aF ?_
    refine cK (by decide +kernel) ?_
    refine bE ?_
    exact⟨_,trivial,((aA (aA (aA (bC (by first | exact cl | (refine dG ?_;refine iP ?_ ?_<;>repeat (first | exact trivial | refine And.intro rfl ?_)))) cl) cl) cl)).symm⟩
 ·rintro _ ⟨LR1,-,rfl⟩
  refine eC ?_
  refine eZ ((bI.cell 3 rfl (fun Z μ w cs h=>aAb 100 1 _ _ _ _ Z μ w cs h)).trans (bI.newB _ 100 1 rfl)) ?_
  refine lX (fun(j:Nat) L=>(((((St.mk L.slot (hp [(2,⟨5,[.agg [.v (.int .i64 0),.v (.int .i64 0),.v (.slice none 0 0),.v (.slice none 0 0),.v (.slice none 0 0)]],true⟩),(3,⟨5,[.agg [aE V,aE U,.ref 11 3 0 kV.length,.ref 15 3 0 kU.length,.ref 100 1 0 j]],true⟩),(11,⟨3,kV.map ratL,true⟩),(15,⟨3,kU.map ratL,true⟩),(100,⟨1,((swR V rows).take j).map cM,true⟩)])).put (some 1) (.boxp (.agg [aE U,aE V,.list 3 (kU.map ratL),.list 3 (kV.map ratL),.list 1 (rows.map cM)]))).put (some 2) (.eptr 2 5 0 0)).put (some 3) (.eptr 3 5 0 0)).put (some 4) (aE j))) (fun j=>j≤V+1) (fun j=>V+1-j) 0 (Nat.zero_le _) ?_
  rintro j L1 hj
  refine cW ?_
  refine aK rfl (fun h26r h26=>?_) (fun h26r h26=>?_)
  ·have hj2:j<V+1:=by omega
   have eto:(((swR V rows).take j).map cM).take j=((swR V rows).take j).map cM:=List.take_of_length_le (by simp;omega)
   have esw:((swR V rows).take j).map cM++[LV.list 12 ((rows.map fun r=>r.getD j default).map gZ)]=((swR V rows).take (j+1)).map cM:=by
    show ((swR V rows).take j).map cM++[cM (rows.map fun r=>r.getD j default)]=_
    rw [cI,aG6 rows hj2]
   refine mY ?_
   refine eZ (bI.own (t:=5) 95 12 rfl rfl) ?_
   refine lX (fun(i:Nat) L=>(((((((St.mk L.slot (hp [(2,⟨5,[.agg [.v (.int .i64 0),.v (.int .i64 0),.v (.slice none 0 0),.v (.slice none 0 0),.v (.slice none 0 0)]],true⟩),(3,⟨5,[.agg [aE V,aE U,.ref 11 3 0 kV.length,.ref 15 3 0 kU.length,.ref 100 1 0 j]],true⟩),(11,⟨3,kV.map ratL,true⟩),(15,⟨3,kU.map ratL,true⟩),(100,⟨1,((swR V rows).take j).map cM,true⟩),(95,⟨12,((rows.map fun r=>r.getD j default).take i).map gZ,true⟩)])).put (some 1) (.boxp (.agg [aE U,aE V,.list 3 (kU.map ratL),.list 3 (kV.map ratL),.list 1 (rows.map cM)]))).put (some 2) (.eptr 2 5 0 0)).put (some 3) (.eptr 3 5 0 0)).put (some 4) (aE j)).put (some 5) (.ref 95 12 0 i)).put (some 6) (aE i))) (fun i=>i≤U+1) (fun i=>U+1-i) 0 (Nat.zero_le _) ?_
   rintro i L2 hi
   refine cN ?_
   refine aK rfl (fun h33r h33=>?_) (fun h33r h33=>?_)
   ·have hi2:i<U+1:=by omega
    have hri:=h.r0 (Nat.le_of_lt_succ hi2)
    have etk:(((rows.map fun r=>r.getD j default).take i).map gZ).take i=((rows.map fun r=>r.getD j default).take i).map gZ:=List.take_of_length_le (by simp;omega)
    have egr:=aPQ (fun r:List PoR=>r.getD j default) rows [] (i:=i) (by omega)
    refine iJ ?_
    refine bD rfl (.appX (d:=95) (news:=[gZ ((rows.getD i []).getD j default)]) rfl rfl rfl rfl (by simp;omega) (.inl rfl) (by decide) Tryz.underlying60 Tryz.underlying60 Z62 uC cs B62 (.inl ⟨45,0,_,rfl,by decide,rfl,rfl,by simp,rfl,by simp [aY,eI.pure]⟩) (by simp;omega) (by simp;omega) (by decide)) ?_
    refine cO ?_
    refine bR (bI.kill _ 45) ?_
    refine bE ?_
    refine aB rfl (.bin rfl rfl (bV (by omega))) ?_
    refine cP ?_
    exact kE (i+1) (by omega)
   ·obtain rfl:i=U+1:=by omega
    rw [(List.take_of_length_le (by rw [List.length_map];omega):(rows.map fun r=>r.getD j default).take (U+1)=(rows.map fun r=>r.getD j default))]
    refine dR ?_
    refine bR (bI.hand (t:=5) (b:=95) eI rfl rfl (by simp;omega)) ?_
    refine cO ?_
    refine bD rfl (.appX (d:=100) (news:=[cM (rows.map fun r=>r.getD j default)]) rfl rfl rfl rfl (by simp only [aC gY,List.length_map,List.length_take,List.length_cons,List.length_nil];omega) (.inl rfl) (by decide) Tryz.underlying37 Tryz.underlying37 prZ T60 cs B60 (.inl ⟨50,0,_,rfl,by decide,rfl,rfl,by simp,rfl,by simp [aY,gY.pure]⟩) (by simp only [aC gY,List.length_map,List.length_take,List.length_cons,List.length_nil];omega) (by simp only [aC gY,List.length_map,List.length_take,List.length_cons,List.length_nil];omega) (by decide)) ?_
    refine dR ?_
    refine bR (bI.kill _ 50) ?_
    refine bE ?_
    refine aB rfl (.bin rfl rfl (bV (by omega))) ?_
    refine cP ?_
    exact kE (j+1) (by omega)
  ·obtain rfl:j=V+1:=by omega
   rw [List.take_of_length_le (by omega:(swR V rows).length≤V+1)]
   refine cW ?_
   exact dQ [11,15,100] rfl rfl rfl cs (dN cs rfl) T39 (.agg (.cons (.pure rfl) (.cons (.pure rfl) (.cons (cA aD rfl rfl rfl) (.cons (cA aD rfl rfl rfl) (.cons (cA gY rfl rfl (aAt V rows).symm) .nil))))))
theorem cvR.wp {po:List PoR} {d R:Nat} (h:cvR po d R) {x:Rat} (h0:0≤x) (h1:x≤1):0<evP (gI po) x:=by
 have hl:=k9 po
 have hp:0<(gI po).length:=by rw [hl,h.hl];omega
 have hb:=aKX (p:=gI po) h0 h1 hp
 unfold t7 at hb
 simp only [Bool.and_eq_true,decide_eq_true_eq] at hb
 refine aAX ?_ hb.1
 obtain⟨i,hi,e⟩:=((zB (gI po) (gI po).length).2 hp).1
 show 0<(bkP (gI po) (gI po).length).1
 rw [e]
 obtain⟨q,hq,hw⟩:=List.mem_map.1 (cC (p:=gI po) hi)
 rw [←hw]
 exact(h.ok q hq).2.2
section
variable {R U V:Nat} {rows:List (List PoR)} (h:pf R U V rows)
include h
theorem pf.cv {i:Nat} (hi:i≤U):cvR (rows.getD i []) V R where
 hl:=h.r0 hi
 hd:=h.v1
 h6:=by have:=h.v3;omega
 ok:=fun q hq=>h.ok _ (dZ (by rw [h.n];omega)) q hq
end
section
variable {R U V:Nat} {rows:List (List PoR)} (h:pf R U V rows) {x:Rat} (x0:0≤x) (x1:x≤1)
include h x0 x1
end
end Go.Proofs.YtfpdccbgngdhkaaGreat
end
section
set_option linter.unusedVariables false
set_option linter.unusedSimpArgs false
namespace Go.Lg
section
variable {P:Program} {ops:Array Oper}
inductive StepV (P:Program) (ops:Array Oper) (o:Oper) (L L':St):Prop
 | base (h:Step P false ops o L L')
 | hand {M:St} {t b sz len:Nat} {vals:List LV} {m:Bool} (h:Step P false ops o L M) (ht:M.slot t=.ref b sz 0 len) (hb:M.heap b=some ⟨sz,vals,m⟩) (hp:aY vals=true) (hl:len=vals.length) (h0:b≠0)
   (e:L'=(M.put (some t) (.list sz vals)).kill b)
section
variable {D:Array Bool} {L:St} {K:St→Prop} {fuel:Nat}
end
section
variable {W w:World} {X Z0:Nat→Prop} {a:Act} {n:Nat}
end
end
end Go.Lg
end
section
set_option linter.unusedVariables false
set_option linter.unusedSimpArgs false
set_option maxHeartbeats 8000000
set_option maxRecDepth 100000
attribute [local irreducible] Go.Lg.opsL Go.Lg.wpL Go.Lg.thenL Go.Lg.blockL
namespace Go.Proofs.YtfpdccbgngdhkaaGreat
open Go.Lg
structure M3 where
 a:V3
 b:V3
 c:V3
 t:V3
 deriving Inhabited
def mpL (m:M3):LV:=.agg [.agg [fA m.a,fA m.b,fA m.c],fA m.t]
theorem mpE:EncOK mpL 36 true:=⟨fun m=>by simp [mpL,LV.csize,aT,fF.csize],fun _=>rfl,fun m=>by simp [mpL,LV.pure,aY,fF.pure]⟩
instance:EC Tryz.prog 34 mpL 36 true ⟨⟨0,0,0⟩,⟨0,0,0⟩,⟨0,0,0⟩,⟨0,0,0⟩⟩:=⟨mpE,Z34,T34⟩
section
variable {P:Program} {H:dA} {ρ:Operand→LV} {T E:TypeId}
end
instance:ZI Tryz.prog 32 (.agg [fA ⟨0,0,0⟩,fA ⟨0,0,0⟩,fA ⟨0,0,0⟩]):=⟨Z32⟩
instance:ZI Tryz.prog 34 (.agg [.agg [fA ⟨0,0,0⟩,fA ⟨0,0,0⟩,fA ⟨0,0,0⟩],fA ⟨0,0,0⟩]):=⟨Z34⟩
instance:AE Tryz.prog 34 mpL 36 true ⟨⟨0,0,0⟩,⟨0,0,0⟩,⟨0,0,0⟩,⟨0,0,0⟩⟩:=⟨mpE,Z34⟩
end Go.Proofs.YtfpdccbgngdhkaaGreat
end
section
set_option linter.unusedVariables false
set_option linter.unusedSimpArgs false
namespace Go.Lg
section
variable {P:Program} {W w w':World} {X Z0 Z Zr:Nat→Prop} {μ μr:Nat→Option Nat} {H:dA} {a:Act} {L L':St} {n:Nat} {ops:Array Oper}
def qK (P:Program) (ops:Array Oper) (o:Oper) (L L':St):Prop :=
 ∀ (n:Nat) (W:World) (X Z0:Nat→Prop) (a:Act) (w:World) (K:Act→World→Prop) (Q:Exit→Act→World→Prop),mN n W X Z0 L a w→(∀ t,o.dst=some t→t<n) →
  (∀ a' w',mN n W X Z0 L' a' w'→K a' w')→if Region.wanted o (yielded ops a.tmps) then o.wp P a w K Q else K (a.put o.dst undef) w
def xW (P:Program) (ops:Array Oper):List Oper→St→(St→Prop)→Prop
 | [],L,K=>K L
 | o :: r,L,K=>∃ L',qK P ops o L L'∧xW P ops r L' K
theorem yT {K K':St→Prop} (h:∀ L,K L→K' L):∀ (l:List Oper) (L:St),xW P ops l L K→xW P ops l L K'
 | [],L,k=>h L k
 | o :: r,L,⟨L',h1,h2⟩=>⟨L',h1,yT h r L' h2⟩
theorem aBf {K:St→Prop}:∀ (l m:List Oper) (L:St),xW P ops l L (fun L'=>xW P ops m L' K)→xW P ops (l++m) L K
 | [],m,L,h=>h
 | o :: r,m,L,⟨L',h1,h2⟩=>⟨L',h1,aBf r m L' h2⟩
theorem aAD {dr:Bool} {K:St→Prop}:∀ (l:List Oper) (L:St),opsL P dr ops l L K→xW P ops l L K
 | [],L,h=>by unfold opsL at h;exact h
 | o :: r,L,h=>by
   unfold opsL at h
   obtain⟨L',h1,h2⟩:=h
   exact⟨L',fun n W X Z0 a w K' Q hs hd hK=>jV hs h1 hd hK,aAD r L' h2⟩
theorem xC {Q:Exit→Act→World→Prop} {K:St→Prop}:∀ (l:List Oper) (L:St) (a:Act) (w:World),mN n W X Z0 L a w→xW P ops l L K→(∀ o∈l,∀ t,o.dst=some t→t<n) →
  (∀ L' a' w',K L'→mN n W X Z0 L' a' w'→Q .normal a' w')→wpList P ops Q l a w
 | [],L,a,w,hs,hk,_,hq=>hq L a w hk hs
 | o :: r,L,a,w,hs,⟨L',h1,h2⟩,hd,hq=>by
   have:=h1 n W X Z0 a w (wpList P ops Q r) Q hs (hd o (by simp)) (fun a' w' hs'=>xC r L' a' w' hs' h2 (fun o' ho'=>hd o' (by simp [ho'])) hq)
   unfold wpList
   split
   ·rename_i h;rw [if_pos h] at this;exact .inl this
   ·rename_i h;rw [if_neg h] at this;exact this
variable {Q:LEx→St→Prop}
def aL1 (P:Program) (l:List Oper) (k:Nat) (K:St→Prop) (L:St):Prop:=∃ o L2,l[k]?=some o∧qK P l.toArray o L L2∧opsL P false l.toArray (l.drop (k+1)) L2 K
theorem aAx {l:List Oper} {id:Nat} (k:Nat) (h:opsL P false l.toArray (l.take k) L (aL1 P l k (Q .normal))):wpL P (.region id l.toArray false) Q L:=by
 refine zR fun n W X Z0 a w hs hd id=>?_
 have hd':∀ o'∈l,∀ t,o'.dst=some t→t<n:=fun o' ho t ht=>by
  simp only [fM,List.all_eq_true] at hd
  have:=hd o' (by simpa using ho)
  rw [ht] at this
  simpa using this
 have hx:xW P l.toArray l L (Q .normal):=by
  have h1:xW P l.toArray (l.take k++l.drop k) L (Q .normal) :=
   aBf (l.take k) _ L (yT (fun L1 ⟨o,L2,h0,h1,h2⟩=>by
    obtain⟨hk,e⟩:=List.getElem?_eq_some_iff.1 h0
    rw [List.drop_eq_getElem_cons hk,e]
    exact⟨L2,h1,aAD _ _ h2⟩) _ _ (aAD _ _ h))
  rwa [List.take_append_drop] at h1
 exact wp_region_list (xC _ _ _ _ hs hx hd' (fun L' a' w' hk hs'=>⟨L',hk,hs'⟩))
theorem aHt {l:List Oper} {id:Nat} {L0:St} (k:Nat) (hw:bI L L0) (h:opsL P false l.toArray (l.take k) L0 (aL1 P l k (Q .normal))):wpL P (.region id l.toArray false) Q L:=by
 have:=aAx (id:=id) (Q:=Q) k h
 obtain⟨L1,h1,h2⟩:=this
 exact⟨L1,hw.trans h1,h2⟩
theorem zG {l:List Oper} {k:Nat} {K:St→Prop} {ops:Array Oper} {o:Oper} {L2:St} (h1:l[k]?=some o) (h2:qK P l.toArray o L L2) (h3:opsL P false l.toArray (l.drop (k+1)) L2 K):opsL P false ops [] L (aL1 P l k K):=by
 unfold opsL
 exact⟨o,L2,h1,h2,h3⟩
theorem aCg {T U E E' ty:TypeId} {d b sz len:Nat} {blk:Blk} {x y:Operand} {news:List LV} {z:LV} {by_:Nat} (hc:Core W X Z0 μ Z L.heap w) (hr:∀ t,bZ Z μ w (L.slot t) (a.tmps.getD t undef))
  (hx:L.ev x=.ref b sz 0 len) (hb:L.heap b=some blk) (hs:blk.sz=sz) (hm:blk.mt=true) (hlen:len≤blk.vals.length) (hbd:d=b∨L.heap d=none) (hb0:b≠0)
  (hT:P.underlying T=some (.slice E)) (hU:P.underlying U=some (.slice E')) (hz:bN P E z) (hE:cF P E sz z.isAgg) (hzs:z.csize=sz) (hby:bU P E by_)
  {newc:List Value} (hsrc:Src P sz U (a.eval y) news.length newc w) (hnews:aQ Z μ w sz news newc)
  (hsz:(len+news.length)*by_≤140737488355328) (h63:len+news.length≤4611686018427387904) :
  ∃ v w' μ' Z',(Builtin.append_ #[T,U] ty #[a.eval x,a.eval y]).run P w=.ok v w' ∧
   Core W X Z0 μ' Z' ((L.kill b).setB d (some ⟨sz,bB b (blk.vals.take len++news),true⟩)).heap w' ∧
   (∀ t,bZ Z' μ' w' ((L.kill b).slot t) (a.tmps.getD t undef))∧bZ Z' μ' w' (.ref d sz 0 (len+news.length)) v:=by
 have e1:=gX (L:=L) hr x
 rw [hx] at e1
 have e2:=e1.2 rfl
 simp only [cL] at e2
 have hkd:(L.kill b).heap d=none:=by
  rcases hbd with rfl | h
  ·simp [St.kill]
  ·simp only [St.kill];split
   ·rfl
   ·rw [h];rfl
 rcases e2 with⟨q1,rfl⟩ | ⟨id,cap,c,U',fz,q1,q2,q3,q4,q5⟩
 ·simp only [List.cons.injEq,and_true] at q1
  have hk:=hc.kill b hb0
  have hkr:=nF b hr
  have hkl:(bB b news).length=news.length:=iN b news
  cases hnw:news with
  | nil =>
   subst hnw
   obtain⟨i,zv,z1,z2,z3,z4⟩:=hz
   have hsi:i.size=sz:=by have:=hE.1;rw [z1] at this;simpa using this
   have hcells:newc=[]:=by simpa [aQ] using hnews
   subst hcells
   have hrun:=run_append_nothing (P:=P) w T U ty E i hT z1 none 0 0 (Nat.le_refl _) (a.eval y) (hsi ▸ hsrc)
   refine⟨_,w,iI μ b,Z,by rw [q1];exact hrun,?_,hkr,⟨by simp [LV.isAgg],fun _=>by simp [cL]⟩⟩
   exact hk.reheap fun c id hcd=>by
    have:c≠d:=by rintro rfl;rw [iX hk hkd] at hcd;cases hcd
    simp [St.setB,this]
  | cons x0 xs0 =>
   rw [←hnw]
   have hpos:0<news.length:=by rw [hnw];simp
   obtain⟨v,w',μ',Z',r1,r2,r3,r4,r5,r6⟩:=l5 (P:=P) (ty:=ty) (U:=U) (olds:=[]) (news:=bB b news) (oldc:=[]) (sLen:=0) (sCap:=0) hk hkd hT hz hE hzs hby q1 (by simp [Builtin.firstCells]) (by rw [hkl];exact hsrc)
    (by simp [aQ]) rfl (aQ.kill' _ _ hnews) (by rw [hkl];omega) (by rw [hkl];exact hsz) (by rw [hkl];exact h63)
   rw [List.nil_append] at r2
   rw [hkl] at r6
   exact⟨v,w',μ',Z',r1,by simpa [St.setB] using r2,fun t=>(hkr t).mono r3 r4 r5,r6⟩
 simp only [List.cons.injEq,and_true,Nat.zero_mul] at q1
 obtain⟨bk,g1,c',T',part,rest,g2,g3,g4⟩:=hc.heap b id q2
 rw [hb] at g1;cases g1
 rw [q4] at g2;cases g2
 simp only [Nat.zero_add] at q5
 obtain⟨p1,p2,d1,d2,d3⟩:=aQ.split (blk.vals.take len) (blk.vals.drop len) part (by rw [List.take_append_drop];exact g4)
 rw [hs] at d2
 have hp1:=aQ.length _ _ d2
 rw [List.length_take,Nat.min_eq_left hlen] at hp1
 have hk:=hc.kill b hb0
 have hkr:=nF b hr
 have hno:∀ k,iI μ b k≠some id:=fun k h=>by
  unfold iI at h;split at h
  ·cases h
  ·rename_i hne;exact hne (hc.inj k b id h q2)
 have hlo:W.heap.size≤id:=by
  rcases hc.own b id q2 with h | h
  ·exact h
  ·exact absurd (hc.x0 b id q2 h) hb0
 have hnz:=hc.mutz b id blk q2 hb hm
 have hnl:=aQ.length _ _ hnews
 by_cases hroom:len+news.length≤cap
 ·have hfit:len*sz+newc.length≤c.size:=by
   rw [hnl,←Nat.add_mul]
   exact Nat.le_trans (Nat.mul_le_mul_right _ hroom) q5
  have hc1:∀ j,j<newc.length→(w.cell? ⟨id,0+len*sz+j,none⟩).isSome=true:=fun j hj=>by
   rw [cell_of_row w id _ c _ _ q4,Array.getElem?_eq_getElem (by omega)];rfl
  have hc2:∀ j,j<newc.length→w.frozen? ⟨id,0+len*sz+j,none⟩=false:=fun j hj=>by simp [World.frozen?,q4]
  obtain⟨i,zv,z1,z2,z3,z4⟩:=hz
  have hsi:i.size=sz:=by have:=hE.1;rw [z1] at this;simpa using this
  have hrun:=run_append_room_src (P:=P) w T U ty E i hT z1 id 0 len cap (a.eval y) news.length newc (by rw [hsi];exact hsrc) hroom (by rw [hsi];exact hc1) (by rw [hsi];exact hc2)
  rw [hsi,Nat.zero_add,lL q4 hfit hsrc.one] at hrun
  have hold:=(aQ.kill' (b:=b) _ _ d2)
  have hnew:=(aQ.kill' (b:=b) _ _ hnews)
  have hall:=aQ.append _ _ _ _ hold hnew
  rw [←iQ] at hall
  have hsplit:c.toList.take (len*sz)++newc++c.toList.drop (len*sz+newc.length)=(p1++newc)++c.toList.drop (len*sz+newc.length):=by
   rw [g3,d1,←hp1];simp
  rw [hsplit] at hrun
  obtain⟨k1,k2,k3,k4⟩:=hk.attach (d:=d) (id:=id) (blk:=⟨sz,bB b (blk.vals.take len++news),true⟩) (c':=((p1++newc)++c.toList.drop (len*sz+newc.length)).toArray)
   (part:=p1++newc) (rest:=c.toList.drop (len*sz+newc.length)) (iX hk hkd) rfl hno hnz hlo q4 (by simp) hall rfl
  refine⟨_,_,_,Z,by rw [q1];exact hrun,k1,fun t=>(hkr t).mono (fun _ h=>h) k3 k2,⟨by simp [LV.isAgg],fun _=>?_⟩⟩
  simp only [cL]
  refine .inr ⟨id,cap,_,U',(0,0),by simp,by simp [upd],hroom,k4,?_⟩
  rw [Nat.zero_add]
  simp only [List.size_toArray,List.length_append,hp1,List.length_drop,Array.length_toList]
  omega
 ·have hold:(Builtin.firstCells sz len (.slice (some ⟨id,0,none⟩) len cap)).run P w.drew=.ok p1.toArray w.drew:=by
   refine run_firstCells_some w.drew sz len ⟨id,0,none⟩ len cap p1 hp1 (fun j v hj=>?_)
   rw [Addr.add_mid]
   have hrange:=pH (w:=w) (off:=0) (part:=p1) (rest:=p2++rest) q4 (by rw [List.drop_zero,g3,d1];simp)
   exact hrange j v hj
  have hkl:(bB b news).length=news.length:=iN b news
  obtain⟨v,w',μ',Z',r1,r2,r3,r4,r5,r6⟩:=l5 (P:=P) (ty:=ty) (U:=U) (olds:=bB b (blk.vals.take len)) (news:=bB b news) hk hkd hT hz hE hzs hby q1 hold (by rw [hkl];exact hsrc)
   (aQ.kill' _ _ d2) (by rw [iN,List.length_take];omega) (aQ.kill' _ _ hnews) (by rw [hkl];omega) (by rw [hkl];exact hsz) (by rw [hkl];exact h63)
  rw [←iQ] at r2
  rw [hkl] at r6
  exact⟨v,w',μ',Z',r1,r2,fun t=>(hkr t).mono r3 r4 r5,r6⟩
theorem aI2 {T U E E':TypeId} {d b sz len:Nat} {blk:Blk} {x y:Operand} {news:List LV} {z:LV} {by_:Nat} {dst:Option Tmp} {ty:TypeId} {pos:String} {af:Array Edge} {g:Option (Nat × Bool)}
  (hg:bY ops L ⟨dst,.call ⟨.builtin .append,#[x,y],#[T,U]⟩,ty,pos,af,g⟩ true)
  (hx:L.ev x=.ref b sz 0 len) (hb:L.heap b=some blk) (hs:blk.sz=sz) (hm:blk.mt=true) (hlen:len≤blk.vals.length) (hbd:d=b∨L.heap d=none) (hb0:b≠0)
  (hT:P.underlying T=some (.slice E)) (hU:P.underlying U=some (.slice E')) (hz:bN P E z) (hE:cF P E sz z.isAgg) (hzs:z.csize=sz) (hby:bU P E by_)
  (hy:∃ c off blk2,L.ev y=.ref c sz off news.length∧c≠b∧L.heap c=some blk2∧blk2.sz=sz∧off+news.length≤blk2.vals.length∧news=(blk2.vals.drop off).take news.length)
  (hsz:(len+news.length)*by_≤140737488355328) (h63:len+news.length≤4611686018427387904) :
  qK P ops ⟨dst,.call ⟨.builtin .append,#[x,y],#[T,U]⟩,ty,pos,af,g⟩ L (((L.kill b).setB d (some ⟨sz,bB b (blk.vals.take len++news),true⟩)).put dst (.ref d sz 0 (len+news.length))):=by
 intro n W X Z0 a w K Q ⟨hdf,hsz',μ,Z,hc,hr⟩ hd hK
 rw [f6 hr hg]
 simp only [if_true]
 have hd':∀ t,dst=some t→t<a.tmps.size:=fun t h=>by rw [hsz'];exact hd t h
 obtain⟨newc,hsrc,hnews⟩:=aCV (P:=P) hc hr hU (y:=y) (news:=news) (sz:=sz) (by
  obtain⟨c,off,b2,q1,_,q3,q4,q5,q6⟩:=hy
  exact .inl ⟨c,off,b2,q1,q3,q4,q5,q6⟩)
 have key:∃ v w' μ' Z',(Builtin.append_ #[T,U] ty #[a.eval x,a.eval y]).run P w=.ok v w' ∧
   Core W X Z0 μ' Z' ((L.kill b).setB d (some ⟨sz,bB b (blk.vals.take len++news),true⟩)).heap w' ∧
   (∀ t,bZ Z' μ' w' ((L.kill b).slot t) (a.tmps.getD t undef))∧bZ Z' μ' w' (.ref d sz 0 (len+news.length)) v:=by
  exact aCg hc hr hx hb hs hm hlen hbd hb0 hT hU hz hE hzs hby hsrc hnews hsz h63
 obtain⟨v,w',μ',Z',r1,r2,r3,r4⟩:=key
 have hrun:(execOp a.eval ⟨dst,.call ⟨.builtin .append,#[x,y],#[T,U]⟩,ty,pos,af,g⟩).run P w=.ok (.value v) w':=by
  simp only [execOp,resolve,Sem.run_bind,Sem.run_pure,Result.andThen_ok,invoke,builtin]
  simp only [List.map_toArray,List.map_cons,List.map_nil,r1,Result.andThen_ok]
 unfold Oper.wp
 rw [hrun,Oper.upon_value]
 refine hK _ _ ⟨by rw [fG];exact hdf,by rw [gR];exact hsz',μ',Z',by rw [eE];exact r2,?_⟩
 exact iV hd' r3 r4
end
end Go.Lg
namespace Go.Lg
section
variable {P:Program} {W w w':World} {X X0 Z0 Z Zr:Nat→Prop} {μ μr:Nat→Option Nat} {H H' Hr:dA} {a:Act} {L L':St} {n d:Nat} {ops:Array Oper} {σ:Nat→Nat}
def jC (μ μr:Nat→Option Nat) (d:Nat):Nat→Option Nat:=fun c=>if 1000000+d*16<c∧c<1000000+d*16+16 then(μr (c-(1000000+d*16))).or (μ c) else μ c
theorem Core.callN (hc:Core W X Z0 μ Z H w) (hr:Core w X0 Z μr Zr Hr w') (hσ:∀ k id,μr k=some id→k≠0→k<16∧σ k=bP d k∧μ (bP d k)=none)
  (hb:∀ id,X0 id→μ (σ 0)=some id∧¬ Z id) (h0:∀ id,μr 0=some id→X0 id) (hH:∀ k id blk,μr k=some id→Hr k=some blk→H' (σ k)=some ⟨blk.sz,eJ σ blk.vals,blk.mt⟩)
  (hold:∀ c id,μ c=some id→¬ X0 id→H' c=H c) :
  Core W X Z0 (jC μ μr d) Zr H' w'∧(∀ c id,μ c=some id→jC μ μr d c=some id)∧Frame Z μ w w'∧(∀ k id,μr k=some id→jC μ μr d (σ k)=some id):=by
 have hold':∀ c id,μ c=some id→jC μ μr d c=some id:=fun c id h=>by
  unfold jC
  split
  ·rename_i hb'
   cases hq:μr (c-(1000000+d*16)) with
   | none=>simpa using h
   | some id' =>
    have:=(hσ _ _ hq (by omega)).2.2
    have e:bP d (c-(1000000+d*16))=c:=by unfold bP;omega
    rw [e,h] at this;cases this
  ·exact h
 have hnew1:∀ k id,μr k=some id→k≠0→jC μ μr d (bP d k)=some id:=fun k id h hk=>by
  have:=(hσ _ _ h hk).1
  unfold jC bP
  rw [if_pos (by omega)]
  have e:1000000+d*16+k-(1000000+d*16)=k:=by omega
  rw [e,h];rfl
 have hnew:∀ k id,μr k=some id→jC μ μr d (σ k)=some id:=fun k id h=>by
  by_cases hk:k=0
  ·subst hk;exact hold' _ _ (hb id (h0 id h)).1
  ·rw [(hσ _ _ h hk).2.1];exact hnew1 k id h hk
 have hinv:∀ c id,jC μ μr d c=some id→(∃ k,k≠0∧c=bP d k∧μr k=some id)∨μ c=some id:=fun c id h=>by
  unfold jC at h
  split at h
  ·rename_i hb'
   cases hq:μr (c-(1000000+d*16)) with
   | none=>rw [hq] at h;exact .inr (by simpa using h)
   | some id' =>
    rw [hq] at h
    simp only [Option.some_or,Option.some.injEq] at h
    subst h
    exact .inl ⟨c-(1000000+d*16),by omega,by unfold bP;omega,hq⟩
  ·exact .inr h
 have hlo:∀ k id,μr k=some id→k≠0→w.heap.size≤id:=fun k id h hk=>(hr.own k id h).resolve_right (fun hx=>hk (hr.x0 k id h hx))
 have hkeep:∀ k,k<w.heap.size→¬ X0 k→w'.heap[k]?=w.heap[k]?:=fun k hk hx=>hr.keep.block k hk hx
 have hfr:Frame Z μ w w':=by
  refine⟨fun id h=>hkeep id (hc.zone id h) (fun e=>(hb id e).2 h),fun c id h cc T fz hcc=>?_⟩
  by_cases e:X0 id
  ·exact hr.keep.xsz id e cc T fz hcc
  ·exact⟨cc,(hkeep id (hc.lt h) e).trans hcc,rfl⟩
 have hX:∀ k,k<W.heap.size→¬ X k→¬ X0 k:=fun k hk hx e=>by
  rcases hc.own (σ 0) k (hb k e).1 with h | h
  ·omega
  ·exact hx h
 refine⟨⟨?_,hr.zone,fun id h=>hr.zsup id (hc.zsup id h),?_,?_,?_,?_,hc.xlt,fun id h=>hold' 0 id (hc.x1 id h),?_,?_,?_⟩,hold',hfr,hnew⟩
 ·refine⟨hr.keep.os.trans hc.keep.os,hr.keep.tape.trans hc.keep.tape,hr.keep.output.trans hc.keep.output,Nat.le_trans hc.keep.size hr.keep.size,fun k hk hx=>?_,fun k hx c T fz h=>?_⟩
  ·exact(hkeep k (by have:=hc.keep.size;omega) (hX k hk hx)).trans (hc.keep.block k hk hx)
  ·obtain⟨c',g1,g2⟩:=hc.keep.xsz k hx c T fz h
   by_cases e:X0 k
   ·obtain⟨c2,g3,g4⟩:=hr.keep.xsz k e c' T fz g1
    exact⟨c2,g3,g4.trans g2⟩
   ·exact⟨c',(hkeep k (Array.getElem?_eq_some_iff.1 g1).1 e).trans g1,g2⟩
 ·intro id h
  rcases hr.zsub id h with h | h
  ·exact hc.zsub id h
  ·exact .inr (Nat.le_trans hc.keep.size h)
 ·intro c c' id h h'
  rcases hinv c id h with⟨k,k0,rfl,h1⟩ | h1<;>rcases hinv c' id h' with⟨k',k0',rfl,h2⟩ | h2
  ·rw [hr.inj k k' id h1 h2]
  ·have:=hlo k id h1 k0;have:=hc.lt h2;omega
  ·have:=hlo k' id h2 k0';have:=hc.lt h1;omega
  ·exact hc.inj c c' id h1 h2
 ·intro c id h
  rcases hinv c id h with⟨k,k0,rfl,h1⟩ | h1
  ·exact .inl (Nat.le_trans hc.keep.size (hlo k id h1 k0))
  ·exact hc.own c id h1
 ·intro c id h hx
  rcases hinv c id h with⟨k,k0,rfl,h1⟩ | h1
  ·have:=hlo k id h1 k0;have:=hc.xlt id hx;have:=hc.keep.size;omega
  ·exact hc.x0 c id h1 hx
 all_goals
  have hcase:∀ c id,jC μ μr d c=some id→(∃ k blk,c=σ k∧μr k=some id∧Hr k=some blk∧kI Zr μr w' blk id)∨(¬ X0 id∧μ c=some id):=fun c id h=>by
   rcases hinv c id h with⟨k,k0,rfl,h1⟩ | h1
   ·obtain⟨blk,g1,g2⟩:=hr.heap k id h1
    exact .inl ⟨k,blk,(hσ k id h1 k0).2.1.symm,h1,g1,g2⟩
   ·by_cases e:X0 id
    ·have hc0:=hc.inj c (σ 0) id h1 (hb id e).1
     have h2:=hr.x1 id e
     obtain⟨blk,g1,g2⟩:=hr.heap 0 id h2
     exact .inl ⟨0,blk,hc0,h2,g1,g2⟩
    ·exact .inr ⟨e,h1⟩
 ·intro c id blk h g hmt hz
  rcases hcase c id h with⟨k,b0,rfl,h1,g1,g2⟩ | ⟨e,h1⟩
  ·rw [hH k id b0 h1 g1] at g;cases g
   exact hr.mutz k id b0 h1 g1 hmt hz
  ·rw [hold c id h1 e] at g
   rcases hr.zsub id hz with hz | hz
   ·exact hc.mutz c id blk h1 g hmt hz
   ·have:=hc.lt h1;omega
 ·intro c id blk h g hmt
  rcases hcase c id h with⟨k,b0,rfl,h1,g1,g2⟩ | ⟨e,h1⟩
  ·rw [hH k id b0 h1 g1] at g;cases g
   exact hr.frz k id b0 h1 g1 hmt
  ·rw [hold c id h1 e] at g
   exact hr.zsup id (hc.frz c id blk h1 g hmt)
 ·intro c id h
  rcases hcase c id h with⟨k,b0,rfl,h1,g1,cc,T,part,rest,q1,q2,q3⟩ | ⟨e,h1⟩
  ·exact⟨_,hH k id b0 h1 g1,cc,T,part,rest,q1,q2,aQ.ren σ hnew _ _ _ q3⟩
  ·obtain⟨bk,g1,g2⟩:=hc.heap c id h1
   exact⟨bk,by rw [hold c id h1 e];exact g1,g2.mono hr.zsup hold' hfr (hkeep id (hc.lt h1) e)⟩
def rC (blk:Blk) (bs:List Blk):dA:=fun n=>if n=0 then some blk else bs[n-1]?
def r8 (P:Program) (f:FuncId) (blk:Blk) (args:List LV) (r:LV) (blk':Blk) (bs:List Blk):Prop :=
 r7 P f∧∀ (W:World) (Z0:Nat→Prop) (vs:List Value) (i0:Nat),(∀ id,Z0 id→id<W.heap.size)→¬ Z0 i0→kI Z0 (mu0 i0) W blk i0→eM Z0 (mu0 i0) W args vs →
  Calls P f vs.toArray W fun e w'=>∃ v μ Z,e=.returned v∧Core W (fun k=>k=i0) Z0 μ Z (rC blk' bs) w'∧bZ Z μ w' r v
def pT (σ:Nat→Nat):Nat→List Blk→St→St
 | _,[],L=>L
 | k,b :: bs,L=>pT σ (k+1) bs (L.setB (σ k) (some ⟨b.sz,eJ σ b.vals,b.mt⟩))
theorem tH:∀ (bs:List Blk) (k:Nat) (L:St),(pT σ k bs L).slot=L.slot
 | [],_,_=>rfl
 | b :: bs,k,L=>by rw [pT,tH bs];rfl
theorem pB:∀ (bs:List Blk) (k:Nat) (L:St) (c:Nat),(∀ j,k≤j→j<k+bs.length→c≠σ j)→(pT σ k bs L).heap c=L.heap c
 | [],_,_,_,_=>rfl
 | b :: bs,k,L,c,h=>by
   rw [pT,pB bs (k+1) _ c (fun j h1 h2=>h j (by omega) (by simp only [List.length_cons];omega))]
   show (if c=σ k then _ else L.heap c)=_
   rw [if_neg (h k (Nat.le_refl _) (by simp only [List.length_cons];omega))]
theorem wK:∀ (bs:List Blk) (k:Nat) (L:St) (i:Nat) (b:Blk),(∀ j j',k≤j→j<j'→j'<k+bs.length→σ j≠σ j')→bs[i]?=some b→(pT σ k bs L).heap (σ (k+i))=some ⟨b.sz,eJ σ b.vals,b.mt⟩
 | [],_,_,i,_,_,h=>by simp at h
 | x :: xs,k,L,0,b,hi,h=>by
   simp only [List.getElem?_cons_zero,Option.some.injEq] at h;subst h
   show (pT σ k (x :: xs) L).heap (σ k)=_
   rw [pT,pB xs (k+1) _ _ (fun j h1 h2=>hi k j (Nat.le_refl _) (by omega) (by simp only [List.length_cons];omega))]
   simp [St.setB]
 | x :: xs,k,L,i+1,b,hi,h=>by
   rw [pT]
   have:=wK xs (k+1) (L.setB (σ k) (some ⟨x.sz,eJ σ x.vals,x.mt⟩)) i b (fun j j' h1 h2 h3=>hi j j' (by omega) h2 (by simp only [List.length_cons];omega)) (by simpa using h)
   rwa [show k+1+i=k+(i+1) by omega] at this
def fS (b d:Nat):Nat→Nat:=fun k=>if k=0 then b else bP d k
theorem aCH {f:FuncId} {xs:Array Operand} {ats:Array TypeId} {args:List LV} {r:LV} {b:Nat} {blk blk':Blk} {bs:List Blk} {dst:Option Tmp} {ty:TypeId} {pos:String} {af:Array Edge} {g:Option (Nat × Bool)} (d:Nat)
  (hg:bY ops L ⟨dst,.call ⟨.value (.func f),xs,ats⟩,ty,pos,af,g⟩ true) (hb:L.heap b=some blk) (hm:blk.mt=true) (hp:aY blk.vals=true) (ha:ArgML L.heap b (xs.toList.map L.ev) args) (hn:Names b (xs.toList.map L.ev))
  (hk:r8 P f blk args r blk' bs) (hp':aY blk'.vals=true) (hlen:bs.length<16) (hf:∀ k,k<16→L.heap (bP d k)=none) :
  qK P ops ⟨dst,.call ⟨.value (.func f),xs,ats⟩,ty,pos,af,g⟩ L ((pT (fS b d) 1 bs (L.setB b (some blk'))).put dst (r.ren (fS b d))):=by
 intro n W X Z0 a w K Q ⟨hdf,hsz',μ,Z,hc,hr⟩ hd hK
 rw [f6 hr hg]
 simp only [if_true]
 have hd':∀ t,dst=some t→t<a.tmps.size:=fun t h=>by rw [hsz'];exact hd t h
 obtain⟨i0,hi0⟩:=Names.mu (μ:=μ) (Z:=Z) (w:=w) (a:=a) xs.toList hn (fun x _=>gX (L:=L) hr x)
 have hargs:=rD (a:=a) hc hi0 xs.toList args ha (fun x _=>gX (L:=L) hr x)
 have hrun:(execOp a.eval (Oper.mk dst (.call ⟨.value (.func f),xs,ats⟩) ty pos af g)).run P w=.ok (.enter f (xs.map a.eval)) w:=by
  have:=kL (P:=P) (w:=w) (args:=xs.map a.eval) hk.1
  simp only [execOp,resolve,Act.eval,Deferred.ofValue,Sem.run_bind,Sem.run_pure,Result.andThen_ok,invoke]
  simpa using this
 unfold Oper.wp
 rw [hrun,Oper.upon_enter]
 obtain⟨blk1,g1,g2⟩:=hc.heap b i0 hi0
 rw [hb] at g1;cases g1
 have hbr:kI Z (mu0 i0) w blk i0:=by
  obtain⟨c,T,part,rest,q1,q2,q3⟩:=g2
  exact⟨c,T,part,rest,q1,q2,aQ.repure (fun _ h=>h) (fun _ _=>rfl) _ _ _ hp q3⟩
 have hnz:=hc.mutz b i0 blk hi0 hb hm
 have:=hk.2 w Z (xs.toList.map a.eval) i0 hc.zone hnz hbr hargs
 rw [show (xs.toList.map a.eval).toArray=xs.map a.eval from by apply Array.ext';simp] at this
 refine this.mono ?_
 rintro e w' ⟨v,μr,Zr,rfl,hrr,hv⟩
 have hinj:∀ j j',1≤j→j<j'→j'<1+bs.length→fS b d j≠fS b d j':=fun j j' h1 h2 _ e=>by
  unfold fS at e
  rw [if_neg (by omega),if_neg (by omega)] at e
  unfold bP at e;omega
 have hk16:∀ k id,μr k=some id→k≠0→k<16∧∃ blk,bs[k-1]?=some blk:=fun k id h h0=>by
  obtain⟨bk,q1,_⟩:=hrr.heap k id h
  simp only [rC,if_neg h0] at q1
  have:=(List.getElem?_eq_some_iff.1 q1).1
  exact⟨by omega,bk,q1⟩
 obtain⟨h1,h2,h3,h4⟩:=hc.callN (d:=d) (σ:=fS b d) (H':=(pT (fS b d) 1 bs (L.setB b (some blk'))).heap) hrr
  (fun k id h h0=>⟨(hk16 k id h h0).1,by unfold fS;rw [if_neg h0],iX hc (hf k (hk16 k id h h0).1)⟩)
  (fun id e=>by subst e;exact⟨hi0,hnz⟩)
  (fun id h=>by have:=hrr.x1 i0 rfl;rw [h] at this;cases this;rfl)
  (fun k id bk h g=>by
   by_cases h0:k=0
   ·subst h0
    simp only [rC,if_true,Option.some.injEq] at g;subst g
    rw [pB _ _ _ _ (fun j h1 h2 e=>by
     unfold fS at e
     rw [if_pos rfl,if_neg (by omega)] at e
     have:=hf j (by omega)
     rw [←e,hb] at this;cases this),gM _ _ hp']
    simp [St.setB,fS]
   ·simp only [rC,if_neg h0] at g
    have:=wK (σ:=fS b d) bs 1 (L.setB b (some blk')) (k-1) bk hinj g
    rwa [show 1+(k-1)=k by omega] at this)
  (fun c id h e=>by
   have hcb:c≠b:=by rintro rfl;rw [hi0] at h;cases h;exact e rfl
   rw [pB _ _ _ _ (fun j h1 h2 ej=>by
    have hj:=hf j (by omega)
    unfold fS at ej
    rw [if_neg (by omega)] at ej
    subst ej
    rw [iX hc hj] at h;cases h)]
   simp [St.setB,hcb])
 refine hK _ _ ⟨by rw [fG];exact hdf,by rw [gR];exact hsz',_,Zr,by rw [eE];exact h1,?_⟩
 refine iV (L:=pT (fS b d) 1 bs (L.setB b (some blk'))) hd' (fun t=>?_) (hv.ren _ h4)
 rw [tH]
 exact(hr t).mono hrr.zsup h2 h3
theorem aE5 {f:FuncId} {xs:Array Operand} {ats:Array TypeId} {args:List LV} {r:LV} {bs:List Blk} {dst:Option Tmp} {ty:TypeId} {pos:String} {af:Array Edge} {g:Option (Nat × Bool)} (d:Nat)
  (hg:bY ops L ⟨dst,.call ⟨.value (.func f),xs,ats⟩,ty,pos,af,g⟩ true) (ha:ImmL L.heap (xs.toList.map L.ev) args) (hk:f3 P f args r bs) (hlen:bs.length<16) (hf:∀ k,k<16→L.heap (bP d k)=none) :
  qK P ops ⟨dst,.call ⟨.value (.func f),xs,ats⟩,ty,pos,af,g⟩ L ((pT (fS 0 d) 1 bs L).put dst (r.ren (fS 0 d))):=by
 intro n W X Z0 a w K Q ⟨hdf,hsz',μ,Z,hc,hr⟩ hd hK
 rw [f6 hr hg]
 simp only [if_true]
 have hd':∀ t,dst=some t→t<a.tmps.size:=fun t h=>by rw [hsz'];exact hd t h
 have hargs:=nG (a:=a) hc xs.toList args ha (fun x _=>gX (L:=L) hr x)
 have hrun:(execOp a.eval (Oper.mk dst (.call ⟨.value (.func f),xs,ats⟩) ty pos af g)).run P w=.ok (.enter f (xs.map a.eval)) w:=by
  have:=kL (P:=P) (w:=w) (args:=xs.map a.eval) hk.1
  simp only [execOp,resolve,Act.eval,Deferred.ofValue,Sem.run_bind,Sem.run_pure,Result.andThen_ok,invoke]
  simpa using this
 unfold Oper.wp
 rw [hrun,Oper.upon_enter]
 have:=hk.2 w Z (xs.toList.map a.eval) hc.zone hargs
 rw [show (xs.toList.map a.eval).toArray=xs.map a.eval from by apply Array.ext';simp] at this
 refine this.mono ?_
 rintro e w' ⟨v,μr,Zr,rfl,hrr,hv⟩
 have h00:∀ id,μr 0=some id→False:=fun id h=>by
  obtain⟨bk,q1,_⟩:=hrr.heap 0 id h
  simp [eN] at q1
 have hinj:∀ j j',1≤j→j<j'→j'<1+bs.length→fS 0 d j≠fS 0 d j':=fun j j' h1 h2 _ e=>by
  unfold fS at e
  rw [if_neg (by omega),if_neg (by omega)] at e
  unfold bP at e;omega
 have hk16:∀ k id,μr k=some id→k≠0→k<16∧∃ blk,bs[k-1]?=some blk:=fun k id h h0=>by
  obtain⟨bk,q1,_⟩:=hrr.heap k id h
  simp only [eN,if_neg h0] at q1
  have:=(List.getElem?_eq_some_iff.1 q1).1
  exact⟨by omega,bk,q1⟩
 obtain⟨h1,h2,h3,h4⟩:=hc.callN (d:=d) (σ:=fS 0 d) (H':=(pT (fS 0 d) 1 bs L).heap) hrr
  (fun k id h h0=>⟨(hk16 k id h h0).1,by unfold fS;rw [if_neg h0],iX hc (hf k (hk16 k id h h0).1)⟩)
  (fun id e=>e.elim)
  (fun id h=>h00 id h)
  (fun k id bk h g=>by
   by_cases h0:k=0
   ·subst h0;exact(h00 id h).elim
   ·simp only [eN,if_neg h0] at g
    have:=wK (σ:=fS 0 d) bs 1 L (k-1) bk hinj g
    rwa [show 1+(k-1)=k by omega] at this)
  (fun c id h e=>pB _ _ _ _ (fun j h1 h2 ej=>by
    have hj:=hf j (by omega)
    unfold fS at ej
    rw [if_neg (by omega)] at ej
    subst ej
    rw [iX hc hj] at h;cases h))
 refine hK _ _ ⟨by rw [fG];exact hdf,by rw [gR];exact hsz',_,Zr,by rw [eE];exact h1,?_⟩
 refine iV (L:=pT (fS 0 d) 1 bs L) hd' (fun t=>?_) (hv.ren _ h4)
 rw [tH]
 exact(hr t).mono hrr.zsup h2 h3
end
end Go.Lg
namespace Go.Lg
section
variable {P:Program} {W w w':World} {X X0 Z0 Z Zr:Nat→Prop} {μ μr:Nat→Option Nat} {H H' Hr:dA} {a:Act} {L L':St} {n d:Nat} {ops:Array Oper} {σ:Nat→Nat}
def lC (own:List Nat):Nat→Nat:=fun b=>if b=0 then 0 else own.idxOf b+1
def lQ (μ:Nat→Option Nat) (own:List Nat):Nat→Option Nat:=fun k=>if k=0 then μ 0 else(own[k-1]?).bind μ
theorem aBO {own:List Nat} {k id:Nat} (hnd:own.Nodup) (h:lQ μ own k=some id):(k=0∧μ 0=some id)∨∃ b,k≠0∧own[k-1]?=some b∧μ b=some id:=by
 unfold lQ at h
 split at h
 ·rename_i e;exact .inl ⟨e,h⟩
 ·rename_i e
  rw [Option.bind_eq_some_iff] at h
  obtain⟨b,g1,g2⟩:=h
  exact .inr ⟨b,e,g1,g2⟩
theorem aA6 {own:List Nat} {H:dA} (hc:∀ c id,μ c=some id→H c≠none) (hdom:∀ c,c≠0→H c≠none→c∈own):∀ c id,μ c=some id→lQ μ own (lC own c)=some id:=fun c id h=>by
 by_cases h0:c=0
 ·subst h0;simpa [lC,lQ] using h
 ·have hm:=hdom c h0 (hc c id h)
  have hl:=List.idxOf_lt_length_of_mem hm
  have he:own[own.idxOf c]?=some c:=by rw [List.getElem?_eq_getElem hl,List.getElem_idxOf hl]
  simp [lC,lQ,h0,he,h]
theorem lZ {μ':Nat→Option Nat} (f:Nat→Nat) (hm:∀ c id,μ c=some id→μ' (f c)=some id) (hc:Core W X Z0 μ Z L.heap w) (hr:∀ t,bZ Z μ w (L.slot t) (a.tmps.getD t undef)) :
  ∀ (rs:List ResultVar) (xs:List LV),ResL P L rs xs→(∀ x∈xs,x≠.any∧∀ l,x≠.tup l)→∃ us,(rs.mapM (m8 a.tmps)).run P w=.ok us w∧eM Z μ' w (eJ f xs) us
 | _,_,.nil,_=>⟨[],rfl,rfl⟩
 | _,_,.cons (vs:=vs) (xs:=xs) h t,hx=>by
   obtain⟨u,q1,q2⟩:=o8 hc hr h (hx _ (by simp))
   obtain⟨us,q3,q4⟩:=lZ f hm hc hr _ _ t (fun y hy=>hx y (by simp [hy]))
   refine⟨u :: us,?_,u,us,rfl,q2.ren f hm,q4⟩
   rw [List.mapM_cons,Sem.run_bind,q1]
   simp only [Result.andThen_ok,Sem.run_bind,q3,Sem.run_pure]
theorem tT {ys:List LV} {us:List Value} (h:eM Z μ w ys us):bZ Z μ w (lW ys) (if h:us.toArray.size=1 then us.toArray[0] else .tuple us.toArray):=by
 have hyl:=gV _ _ h
 match ys,us,h,hyl with
 | [y],[u],q2,_ =>
  obtain⟨v,vs',e,g1,g2⟩:=q2
  simp only [List.cons.injEq] at e
  obtain⟨rfl,_⟩:=e
  have hnt:∀ l,y≠.tup l:=fun l e=>by subst e;have:=g1.2 rfl;simp [cL] at this
  exact bZ.of1 hnt g1
 | [],[],q2,_=>exact⟨_,rfl,by simpa using q2⟩
 | y :: y' :: ys,u :: u' :: us,q2,_=>exact⟨(u :: u' :: us).toArray,by simp,by simpa using q2⟩
def aIL (P:Program) (rs:List ResultVar) (L:St) (r:LV) (bs:List Blk):Prop :=
 ∃ (xs:List LV) (own:List Nat),L.heap 0=none∧ResL P L rs xs∧(∀ x∈xs,x≠.any∧∀ l,x≠.tup l)∧own.Nodup∧0∉own∧(∀ c,c≠0→L.heap c≠none→c∈own) ∧
  (∀ (k b:Nat),own[k]?=some b→∃ blk:Blk,L.heap b=some blk∧bs[k]?=some ⟨blk.sz,eJ (lC own) blk.vals,blk.mt⟩)∧r=lW (eJ (lC own) xs)
theorem Core.outN {own:List Nat} {Hr:dA} {bs:List Blk} (hc:Core W X Z0 μ Z H w) (hnd:own.Nodup) (hn0:0∉own) (hdom:∀ c,c≠0→H c≠none→c∈own)
  (hbs:∀ (k b:Nat),own[k]?=some b→∃ blk:Blk,H b=some blk∧bs[k]?=some ⟨blk.sz,eJ (lC own) blk.vals,blk.mt⟩)
  (hr1:∀ k,k≠0→Hr k=bs[k-1]?) (hr0:∀ id blk,μ 0=some id→H 0=some blk→Hr 0=some ⟨blk.sz,eJ (lC own) blk.vals,blk.mt⟩) :
  Core W X Z0 (lQ μ own) Z Hr w∧∀ c id,μ c=some id→lQ μ own (lC own c)=some id:=by
 have hhm:∀ c id,μ c=some id→H c≠none:=fun c id h e=>by obtain⟨bk,g,_⟩:=hc.heap c id h;rw [e] at g;cases g
 have hm:=aA6 (μ:=μ) (own:=own) hhm hdom
 have hcase:∀ k id,lQ μ own k=some id→∃ c blk,μ c=some id∧H c=some blk∧kI Z μ w blk id∧Hr k=some ⟨blk.sz,eJ (lC own) blk.vals,blk.mt⟩∧((k=0∧c=0)∨(k≠0∧c≠0∧own[k-1]?=some c)):=fun k id h=>by
  rcases aBO hnd h with⟨rfl,h0⟩ | ⟨b,k0,g1,g2⟩
  ·obtain⟨blk,q1,q2⟩:=hc.heap 0 id h0
   exact⟨0,blk,h0,q1,q2,hr0 id blk h0 q1,.inl ⟨rfl,rfl⟩⟩
  ·obtain⟨blk,q1,q2⟩:=hc.heap b id g2
   obtain⟨blk',j1,j2⟩:=hbs _ _ g1
   rw [q1] at j1;cases j1
   exact⟨b,blk,g2,q1,q2,by rw [hr1 k k0];exact j2,.inr ⟨k0,fun e=>hn0 (e ▸ List.mem_of_getElem? g1),g1⟩⟩
 refine⟨⟨hc.keep,hc.zone,hc.zsup,hc.zsub,?_,?_,?_,hc.xlt,fun id h=>by simpa [lQ] using hc.x1 id h,?_,?_,?_⟩,hm⟩
 ·intro k k' id h h'
  obtain⟨c,_,g1,_,_,_,g2⟩:=hcase k id h
  obtain⟨c',_,g1',_,_,_,g2'⟩:=hcase k' id h'
  have e:=hc.inj c c' id g1 g1'
  subst e
  rcases g2 with⟨rfl,c0⟩ | ⟨k0,c0,q⟩<;>rcases g2' with⟨rfl,c0'⟩ | ⟨k0',c0',q'⟩
  ·rfl
  ·exact absurd c0 c0'
  ·exact absurd c0' c0
  ·obtain⟨l1,e1⟩:=List.getElem?_eq_some_iff.1 q
   obtain⟨l2,e2⟩:=List.getElem?_eq_some_iff.1 q'
   have hp:=List.pairwise_iff_getElem.1 hnd
   rcases Nat.lt_trichotomy (k-1) (k'-1) with h | h | h
   ·exact absurd (e1.trans e2.symm) (hp _ _ l1 l2 h)
   ·omega
   ·exact absurd (e2.trans e1.symm) (hp _ _ l2 l1 h)
 ·intro k id h
  obtain⟨c,_,g1,_⟩:=hcase k id h
  exact hc.own c id g1
 ·intro k id h hx
  obtain⟨c,_,g1,_,_,_,g2⟩:=hcase k id h
  have:=hc.x0 c id g1 hx
  rcases g2 with⟨rfl,_⟩ | ⟨_,c0,_⟩
  ·rfl
  ·exact absurd this c0
 ·intro k id blk h g hmt
  obtain⟨c,b0,g1,g2,g3,g4,_⟩:=hcase k id h
  rw [g4] at g;cases g
  exact hc.mutz c id b0 g1 g2 hmt
 ·intro k id blk h g hmt
  obtain⟨c,b0,g1,g2,g3,g4,_⟩:=hcase k id h
  rw [g4] at g;cases g
  exact hc.frz c id b0 g1 g2 hmt
 ·intro k id h
  obtain⟨c,b0,g1,g2,⟨cc,T,part,rest,j1,j2,j3⟩,g4,_⟩:=hcase k id h
  exact⟨_,g4,cc,T,part,rest,j1,j2,aQ.ren _ hm _ _ _ j3⟩
theorem aC1 {f:FuncId} {fn:Func} {c:Code} {args:List LV} {r:LV} {bs:List Blk} (hfol:P.follows .mixedOrders=true) (hf:P.funcs[f]?=some fn) (hb:fn.body=some c)
  (hn:(fn.name== "runtime.NumGoroutine")=false) (hd:fM fn.ntmps c=true) (hlen:args.length≤fn.ntmps)
  (h:wpL P c (fun e L=>match e with | .exit _=>False | _=>aIL P fn.results.toList L r bs) (St0 args)):f3 P f args r bs:=by
 refine⟨⟨fn,hf,by rw [hb];rfl,hn⟩,fun W Z0 vs hz hargs=>?_⟩
 have hvl:=gV _ _ hargs
 refine calls_of_wp hf hb ?_
 have hsim:mN fn.ntmps W (fun _=>False) Z0 (St0 args) ⟨vs.toArray++Array.replicate (fn.ntmps-vs.toArray.size) undef,[]⟩ W:=by
  have hn0:∀ {p:Prop} (b id:Nat),(fun _:Nat=>(none:Option Nat)) b=some id→p:=fun b id h=>by cases h
  refine⟨rfl,by simp;omega,fun _=>none,Z0,⟨Kept.refl _ _,hz,fun _ h=>h,fun _ h=>.inl h,fun b _ id h _=>hn0 b id h,fun b id h=>hn0 b id h,fun b id h _=>hn0 b id h,fun _ h=>False.elim h,fun _ h=>False.elim h,
   fun b id _ h _ _=>hn0 b id h,fun b id _ h _ _=>hn0 b id h,fun b id h=>hn0 b id h⟩,fun t=>?_⟩
  have e:vs.toArray++Array.replicate (fn.ntmps-vs.toArray.size) undef=(vs++List.replicate (fn.ntmps-vs.toArray.size) undef).toArray:=by apply Array.ext';simp
  show bZ Z0 (fun _=>none) W ((St0 args).slot t) ((vs.toArray++Array.replicate (fn.ntmps-vs.toArray.size) undef).getD t undef)
  rw [e]
  exact rZ (Z:=Z0) (μ:=fun _=>none) (w:=W) args vs _ hargs t
 refine wp_mono (iT hfol c _ _ _ _ hsim h hd) fun e a w q=>?_
 have main:∀ L,aIL P fn.results.toList L r bs→mN fn.ntmps W (fun _=>False) Z0 L a w →
   a.defers=[]∧∃ v,(results fn a.tmps).run P w=.ok v w∧∃ v' μ Z,Ending.returned v=.returned v'∧Core W (fun _=>False) Z0 μ Z (eN bs) w∧bZ Z μ w r v':=by
  rintro L ⟨xs,own,h0,h1,hx,h2,h3,h4,h5,h6⟩ ⟨hdf,hsz,μ,Z,hc,hr⟩
  have hno0:∀ id,μ 0≠some id:=fun id e=>by obtain⟨bk,g,_⟩:=hc.heap 0 id e;rw [h0] at g;cases g
  obtain⟨k1,k2⟩:=hc.outN (Hr:=eN bs) h2 h3 h4 h5 (fun k hk=>by simp [eN,hk]) (fun id blk e=>absurd e (hno0 id))
  obtain⟨us,q1,q2⟩:=lZ (lC own) k2 hc hr _ _ h1 hx
  have hrs:(fn.results.mapM (m8 a.tmps)).run P w=.ok us.toArray w:=by
   rw [Array.mapM_eq_mapM_toList,Sem.run_map,q1];rfl
  refine⟨hdf,(if h:us.toArray.size=1 then us.toArray[0] else .tuple us.toArray),?_,_,_,Z,rfl,k1,?_⟩
  ·rw [oH,Sem.run_bind,hrs]
   rfl
  ·subst h6;exact tT q2
 cases e with
 | normal=>obtain⟨L,q1,q2⟩:=q;exact main L q1 q2
 | ret=>obtain⟨L,q1,q2⟩:=q;exact main L q1 q2
 | exit id=>obtain⟨L,q1,q2⟩:=q;exact q1.elim
 | _=>exact q.elim
def aDW (P:Program) (rs:List ResultVar) (L:St) (r:LV) (blk':Blk) (bs:List Blk):Prop :=
 ∃ (xs:List LV) (own:List Nat),L.heap 0=some blk'∧aY blk'.vals=true∧ResL P L rs xs∧(∀ x∈xs,x≠.any∧∀ l,x≠.tup l)∧own.Nodup∧0∉own∧(∀ c,c≠0→L.heap c≠none→c∈own) ∧
  (∀ (k b:Nat),own[k]?=some b→∃ blk:Blk,L.heap b=some blk∧bs[k]?=some ⟨blk.sz,eJ (lC own) blk.vals,blk.mt⟩)∧r=lW (eJ (lC own) xs)
theorem aBX {f:FuncId} {fn:Func} {c:Code} {args:List LV} {r:LV} {blk blk':Blk} {bs:List Blk} (hfol:P.follows .mixedOrders=true) (hf:P.funcs[f]?=some fn) (hb:fn.body=some c)
  (hn:(fn.name== "runtime.NumGoroutine")=false) (hd:fM fn.ntmps c=true) (hlen:args.length≤fn.ntmps) (hmt:blk.mt=true)
  (h:wpL P c (fun e L=>match e with | .exit _=>False | _=>aDW P fn.results.toList L r blk' bs) (StM args blk)):r8 P f blk args r blk' bs:=by
 refine⟨⟨fn,hf,by rw [hb];rfl,hn⟩,fun W Z0 vs i0 hz hnz hbr hargs=>?_⟩
 have hvl:=gV _ _ hargs
 refine calls_of_wp hf hb ?_
 have hm0:∀ b id,mu0 i0 b=some id→b=0∧id=i0:=fun b id h=>by
  unfold mu0 at h;split at h
  ·cases h;exact⟨by assumption,rfl⟩
  ·cases h
 have hlt:i0<W.heap.size:=by
  obtain⟨c,T,part,rest,h1,_⟩:=hbr
  exact(Array.getElem?_eq_some_iff.1 h1).1
 have hsim:mN fn.ntmps W (fun k=>k=i0) Z0 (StM args blk) ⟨vs.toArray++Array.replicate (fn.ntmps-vs.toArray.size) undef,[]⟩ W:=by
  refine⟨rfl,by simp;omega,mu0 i0,Z0,⟨Kept.refl _ _,hz,fun _ h=>h,fun _ h=>.inl h,fun b b' id h h'=>(hm0 b id h).1.trans (hm0 b' id h').1.symm,fun b id h=>.inr (hm0 b id h).2,
   fun b id h _=>(hm0 b id h).1,fun id h=>by subst h;exact hlt,fun id h=>by subst h;rfl,fun b id bk h _ _=>by rw [(hm0 b id h).2];exact hnz,
   fun b id bk h g hm=>?_,fun b id h=>?_⟩,fun t=>?_⟩
  ·obtain⟨rfl,rfl⟩:=hm0 b id h
   simp only [StM,if_true] at g;cases g
   rw [hmt] at hm;cases hm
  ·obtain⟨rfl,rfl⟩:=hm0 b id h
   exact⟨blk,rfl,hbr⟩
  ·have e:vs.toArray++Array.replicate (fn.ntmps-vs.toArray.size) undef=(vs++List.replicate (fn.ntmps-vs.toArray.size) undef).toArray:=by apply Array.ext';simp
   show bZ Z0 (mu0 i0) W ((St0 args).slot t) ((vs.toArray++Array.replicate (fn.ntmps-vs.toArray.size) undef).getD t undef)
   rw [e]
   exact rZ args vs _ hargs t
 refine wp_mono (iT hfol c _ _ _ _ hsim h hd) fun e a w q=>?_
 have main:∀ L,aDW P fn.results.toList L r blk' bs→mN fn.ntmps W (fun k=>k=i0) Z0 L a w →
   a.defers=[]∧∃ v,(results fn a.tmps).run P w=.ok v w∧∃ v' μ Z,Ending.returned v=.returned v'∧Core W (fun k=>k=i0) Z0 μ Z (rC blk' bs) w∧bZ Z μ w r v':=by
  rintro L ⟨xs,own,h0,hp0,h1,hx,h2,h3,h4,h5,h6⟩ ⟨hdf,hsz,μ,Z,hc,hr⟩
  obtain⟨k1,k2⟩:=hc.outN (Hr:=rC blk' bs) h2 h3 h4 h5 (fun k hk=>by simp [rC,hk]) (fun id blk e g=>by rw [h0] at g;cases g;rw [gM _ _ hp0];rfl)
  obtain⟨us,q1,q2⟩:=lZ (lC own) k2 hc hr _ _ h1 hx
  have hrs:(fn.results.mapM (m8 a.tmps)).run P w=.ok us.toArray w:=by
   rw [Array.mapM_eq_mapM_toList,Sem.run_map,q1];rfl
  refine⟨hdf,(if h:us.toArray.size=1 then us.toArray[0] else .tuple us.toArray),?_,_,_,Z,rfl,k1,?_⟩
  ·rw [oH,Sem.run_bind,hrs]
   rfl
  ·subst h6;exact tT q2
 cases e with
 | normal=>obtain⟨L,q1,q2⟩:=q;exact main L q1 q2
 | ret=>obtain⟨L,q1,q2⟩:=q;exact main L q1 q2
 | exit id=>obtain⟨L,q1,q2⟩:=q;exact q1.elim
 | _=>exact q.elim
def nT (b b':Nat):Nat→Nat:=fun k=>if k=b then b' else k
def St.move (L:St) (b b':Nat):St :=
 ⟨fun t=>(L.slot t).ren (nT b b'),fun c=>if c=b' then(L.heap b).map fun x=>⟨x.sz,eJ (nT b b') x.vals,x.mt⟩ else if c=b then none else(L.heap c).map fun x=>⟨x.sz,eJ (nT b b') x.vals,x.mt⟩⟩
theorem bI.move0 {L:St} {b b':Nat} (hb:b≠0) (hb':b'≠0) (hne:b≠b') (hf:L.heap b'=none):bI L (L.move b b'):=by
 rintro n W X Z0 a w ⟨hdf,hsz,μ,Z,hc,hr⟩
 have hμ:μ b'=none:=iX hc hf
 let μ':Nat→Option Nat:=fun c=>if c=b' then μ b else if c=b then none else μ c
 have hm:∀ c id,μ c=some id→μ' (nT b b' c)=some id:=fun c id h=>by
  by_cases e:c=b
  ·subst e;simp [μ',nT,h]
  ·have e':c≠b':=by rintro rfl;rw [hμ] at h;cases h
   simp [μ',nT,e,e',h]
 have hinv:∀ c id,μ' c=some id→∃ c0,μ c0=some id∧c=nT b b' c0:=fun c id h=>by
  simp only [μ'] at h
  split at h
  ·rename_i e;exact⟨b,h,by simp [nT,e]⟩
  ·split at h
   ·cases h
   ·rename_i e1 e2;exact⟨c,h,by simp [nT,e2]⟩
 have hmi:∀ c c' id id',μ c=some id→μ c'=some id'→nT b b' c=nT b b' c'→c=c':=fun c c' id id' h h' e=>by
  have e1:c≠b':=by rintro rfl;rw [hμ] at h;cases h
  have e2:c'≠b':=by rintro rfl;rw [hμ] at h';cases h'
  unfold nT at e
  split at e<;>split at e<;>first | omega | (subst_vars;first | rfl | (exact absurd rfl (by assumption)) | (exfalso;apply e2;exact e.symm) | (exfalso;apply e1;exact e))
 have hH:∀ c id blk,μ c=some id→L.heap c=some blk→(L.move b b').heap (nT b b' c)=some ⟨blk.sz,eJ (nT b b') blk.vals,blk.mt⟩:=fun c id blk h g=>by
  by_cases e:c=b
  ·subst e;simp [St.move,nT,g]
  ·have e':c≠b':=by rintro rfl;rw [hμ] at h;cases h
   simp [St.move,nT,e,e',g]
 refine⟨hdf,hsz,μ',Z,⟨hc.keep,hc.zone,hc.zsup,hc.zsub,?_,?_,?_,hc.xlt,?_,?_,?_,?_⟩,fun t=>bZ.ren _ hm (hr t)⟩
 ·intro c c' id h h'
  obtain⟨d,g1,rfl⟩:=hinv c id h
  obtain⟨d',g2,rfl⟩:=hinv c' id h'
  rw [hc.inj d d' id g1 g2]
 ·intro c id h
  obtain⟨d,g1,rfl⟩:=hinv c id h
  exact hc.own d id g1
 ·intro c id h hx
  obtain⟨d,g1,rfl⟩:=hinv c id h
  have:=hc.x0 d id g1 hx
  subst this
  simp [nT,Ne.symm hb]
 ·intro id h
  have:=hm 0 id (hc.x1 id h)
  simpa [nT,Ne.symm hb] using this
 ·intro c id blk h g hmt
  obtain⟨d,g1,rfl⟩:=hinv c id h
  obtain⟨b0,j1,j2⟩:=hc.heap d id g1
  rw [hH d id b0 g1 j1] at g;cases g
  exact hc.mutz d id b0 g1 j1 hmt
 ·intro c id blk h g hmt
  obtain⟨d,g1,rfl⟩:=hinv c id h
  obtain⟨b0,j1,j2⟩:=hc.heap d id g1
  rw [hH d id b0 g1 j1] at g;cases g
  exact hc.frz d id b0 g1 j1 hmt
 ·intro c id h
  obtain⟨d,g1,rfl⟩:=hinv c id h
  obtain⟨b0,j1,cc,T,part,rest,q1,q2,q3⟩:=hc.heap d id g1
  exact⟨_,hH d id b0 g1 j1,cc,T,part,rest,q1,q2,aQ.ren _ hm _ _ _ q3⟩
theorem aKd {b b':Nat} (f:Blk→Blk) (hne:b≠b'):∀ (l:List (Nat × Blk)),(∀ p∈l,p.1≠b')→∀ c,hp (l.map fun p=>(nT b b' p.1,f p.2)) c=if c=b' then(hp l b).map f else if c=b then none else(hp l c).map f
 | [],_,c=>by simp [hp]
 | (d,y) :: t,hl,c=>by
   have ih:=aKd f hne t (fun p hp=>hl p (by simp [hp])) c
   have hd:d≠b':=hl (d,y) (by simp)
   have hpc:∀ (e:Nat) (z:Blk) (u:List (Nat × Blk)) (x:Nat),hp ((e,z) :: u) x=if x=e then some z else hp u x:=fun e z u x=>by
    simp only [hp]
    by_cases h:x=e
    ·simp [h]
    ·have:Nat.beq x e=false:=by rw [←Bool.not_eq_true,Nat.beq_eq];exact h
     rw [this,if_neg h];rfl
   simp only [List.map_cons,hpc,ih]
   by_cases h1:d=b
   ·subst h1
    simp only [nT,if_true]
    by_cases h2:c=b'
    ·simp [h2]
    ·by_cases h3:c=d
     ·subst h3;simp [h2]
     ·simp [h2,h3]
   ·have e1:nT b b' d=d:=by simp [nT,h1]
    rw [e1]
    by_cases h2:c=b'
    ·subst h2
     have:c≠d:=fun e=>hd e.symm
     simp [this,Ne.symm h1]
    ·by_cases h3:c=b
     ·subst h3
      simp [h2,Ne.symm h1]
     ·by_cases h4:c=d
      ·subst h4;simp [h2,h3]
      ·simp [h2,h3,h4]
theorem bI.moveH {L:St} {b b':Nat} {l:List (Nat × Blk)} (hl:L.heap=hp l) (hb:b≠0) (hb':b'≠0) (hne:b≠b') :
  bI L ⟨fun t=>((L.slot t).kill b').ren (nT b b'),hp ((jY b' l).map fun p=>(nT b b' p.1,(⟨p.2.sz,eJ (nT b b') p.2.vals,p.2.mt⟩:Blk)))⟩:=by
 have hk:(L.kill b').heap=hp (jY b' l):=by
  funext c
  rw [uF]
  simp only [St.kill,hl]
 have hn:∀ p∈jY b' l,p.1≠b':=by
  clear hk hl
  induction l with
  | nil=>simp [jY]
  | cons q t ih =>
   obtain⟨d,y⟩:=q
   simp only [jY]
   by_cases h:d=b'
   ·subst h;simpa using ih
   ·have:Nat.beq d b'=false:=by rw [←Bool.not_eq_true,Nat.beq_eq];exact h
    rw [this]
    simp only [cond_false,List.mem_cons]
    rintro p (rfl | hp)
    ·exact h
    ·exact ih p hp
 refine(bI.kill L b' hb').trans ((bI.move0 (b:=b) (b':=b') hb hb' hne (by simp [St.kill])).trans (bI.of_eq ?_))
 simp only [St.move,St.mk.injEq]
 refine⟨rfl,?_⟩
 funext c
 rw [aKd (fun x=>⟨x.sz,eJ (nT b b') x.vals,x.mt⟩) hne _ hn c,hk]
end
end Go.Lg
end
section
set_option linter.unusedVariables false
set_option linter.unusedSimpArgs false
set_option maxHeartbeats 8000000
set_option maxRecDepth 100000
attribute [local irreducible] Go.Lg.opsL Go.Lg.wpL Go.Lg.thenL Go.Lg.blockL
namespace Go.Proofs.YtfpdccbgngdhkaaGreat
open Go.Lg
section
variable {f:FuncId} {fn:Func} {c:Code} {args:List LV} {r:LV}
theorem aOJ {bs:List Blk} (hf:Tryz.prog.funcs[f]?=some fn)
  (h:wpL Tryz.prog c (fun e L=>match e with | .exit _=>False | _=>aIL Tryz.prog fn.results.toList L r bs) (St.mk (fun t=>args.getD t .any) (hp [])))
  (hb:fn.body=some c:=by exact rfl) (hn:(fn.name== "runtime.NumGoroutine")=false:=by decide +kernel) (hd:fM fn.ntmps c=true:=by decide +kernel) (hlen:args.length≤fn.ntmps:=by exact Nat.le_of_ble_eq_true rfl):f3 Tryz.prog f args r bs:=by
 refine aC1 fol hf hb hn hd hlen ?_
 have:St0 args=St.mk (fun t=>args.getD t .any) (hp []):=by
  simp only [St0,St.mk.injEq,true_and]
  rfl
 rw [this];exact h
theorem aOa {blk blk':Blk} {bs:List Blk} (hf:Tryz.prog.funcs[f]?=some fn)
  (h:wpL Tryz.prog c (fun e L=>match e with | .exit _=>False | _=>aDW Tryz.prog fn.results.toList L r blk' bs) (St.mk (fun t=>args.getD t .any) (hp [(0,blk)])))
  (hb:fn.body=some c:=by exact rfl) (hn:(fn.name== "runtime.NumGoroutine")=false:=by decide +kernel) (hd:fM fn.ntmps c=true:=by decide +kernel) (hlen:args.length≤fn.ntmps:=by exact Nat.le_of_ble_eq_true rfl) (hmt:blk.mt=true:=by exact rfl):r8 Tryz.prog f blk args r blk' bs:=by
 refine aBX fol hf hb hn hd hlen hmt ?_
 have:StM args blk=St.mk (fun t=>args.getD t .any) (hp [(0,blk)]):=by
  simp only [StM,St.mk.injEq,true_and]
  funext c
  simp only [hp]
  by_cases h:c=0
  ·simp [h]
  ·have:Nat.beq c 0=false:=by rw [←Bool.not_eq_true,Nat.beq_eq];exact h
   rw [this,if_neg h];rfl
 rw [this];exact h
end
def kJ (B n i:Nat):List LV:=(List.range i).map fun j=>.ref (B+j) 12 0 n
theorem sL (B n i:Nat):(kJ B n i).length=i:=by simp [kJ]
theorem oY (B n i:Nat):kJ B n (i+1)=kJ B n i++[.ref (B+i) 12 0 n]:=by simp [kJ,List.range_succ]
theorem aBo (B n i:Nat):(kJ B n i).take i=kJ B n i:=List.take_of_length_le (by rw [sL];exact Nat.le_refl _)
theorem qD {B n i k:Nat} (h:k<i):(kJ B n i)[k]?=some (.ref (B+k) 12 0 n):=by simp [kJ,h]
theorem s6 (b:Nat) (l m:List LV):bB b (l++m)=bB b l++bB b m:=iQ b l m
theorem l7 {b B n:Nat}:∀ (i:Nat),b<B∨B+i≤b→bB b (kJ B n i)=kJ B n i
 | 0,_=>rfl
 | i+1,h=>by
   rw [oY,s6,l7 i (by omega)]
   have:¬ (B+i=b):=by omega
   simp [bB,LV.kill,this]
theorem xP (g:Nat→Nat):∀ (l m:List LV),eJ g (l++m)=eJ g l++eJ g m
 | [],m=>rfl
 | x :: xs,m=>by simp [eJ,xP g xs m]
theorem uU {B B' n:Nat} {g:Nat→Nat}:∀ (i:Nat),(∀ j,j<i→g (B+j)=B'+j)→eJ g (kJ B n i)=kJ B' n i
 | 0,_=>rfl
 | i+1,h=>by
   rw [oY,oY,xP,uU i (fun j hj=>h j (by omega))]
   simp [eJ,LV.ren,h i (by omega)]
def dK (o:List (List PoR)) (j:Nat):Blk:=⟨12,(o.getD j []).map gZ,true⟩
theorem aL2 (o:List (List PoR)) (j:Nat):aY (dK o j).vals=true:=aH eI _
theorem yE (o:List (List PoR)) (j b:Nat):bB b (dK o j).vals=(dK o j).vals:=aC eI ..
theorem aAw (o:List (List PoR)) (j b:Nat):(⟨(dK o j).sz,bB b (dK o j).vals,(dK o j).mt⟩:Blk)=dK o j:=by rw [yE]
theorem vH (o:List (List PoR)) (j:Nat) (g:Nat→Nat):eJ g (dK o j).vals=(dK o j).vals:=gM g _ (aL2 o j)
theorem aHH {o:List (List PoR)} {r:List PoR} {i:Nat} (h:o.length=i):dK (o++[r]) i=⟨12,r.map gZ,true⟩:=by subst h;simp [dK,List.getD]
theorem aHq {o:List (List PoR)} {r:List PoR} {i j:Nat} (h:o.length=i) (hj:j≠i):dK (o++[r]) j=dK o j:=by
 subst h
 rcases Nat.lt_or_ge j o.length with h | h
 ·simp [dK,List.getD,List.getElem?_append_left h]
 ·have e1:(o++[r])[j]?=none:=by simp;omega
  have e2:o[j]?=none:=by simp [h]
  simp [dK,List.getD,e1,e2]
theorem aE8 {L:St} {b0 b6 b7:Blk} {o:List (List PoR)} {r:List PoR} {i n:Nat} (hi:i<4) (ho:o.length=i)
  (hL:L.heap=hp [(0,b0),(6,b6),(7,b7),(201,dK o 0),(202,dK o 1),(203,dK o 2),(204,dK o 3),(95,⟨12,r.map gZ,true⟩),(100,⟨1,kJ 201 n i++[.ref 95 12 0 n],true⟩)])
  (h0:∀ c,200<c→eJ (nT 95 c) (bB c b0.vals)=b0.vals) (h6:∀ c,200<c→eJ (nT 95 c) (bB c b6.vals)=b6.vals) (h7:∀ c,200<c→eJ (nT 95 c) (bB c b7.vals)=b7.vals) :
  bI L ⟨fun t=>((L.slot t).kill (201+i)).ren (nT 95 (201+i)),hp [(0,b0),(6,b6),(7,b7),(201,dK (o++[r]) 0),(202,dK (o++[r]) 1),(203,dK (o++[r]) 2),(204,dK (o++[r]) 3),(100,⟨1,kJ 201 n (i+1),true⟩)]⟩:=by
 refine(bI.moveH (b:=95) (b':=201+i) hL (by omega) (by omega) (by omega)).trans (bI.of_eq ?_)
 simp only [St.mk.injEq,true_and]
 have hr100:eJ (nT 95 (201+i)) (bB (201+i) (kJ 201 n i++[.ref 95 12 0 n]))=kJ 201 n (i+1):=by
  rw [s6,l7 i (.inr (by omega)),xP,uU (B':=201) i (fun j hj=>by unfold nT;rw [if_neg (by omega)]),oY]
  have:¬ (95=201+i):=by omega
  simp [bB,LV.kill,eJ,LV.ren,nT,this]
 have hrr:∀ c,eJ (nT 95 c) (bB c (r.map gZ))=r.map gZ:=fun c=>by rw [aC eI,gM _ _ (aH eI _)]
 have hro:∀ j c,eJ (nT 95 c) (bB c (dK o j).vals)=(dK o j).vals:=fun j c=>by rw [yE,vH]
 have blkEta:∀ b:Blk,(⟨b.sz,b.vals,b.mt⟩:Blk)=b:=fun _=>rfl
 have hbq:∀ a b:Nat,Nat.beq a b=(a==b):=fun a b=>by rw [Bool.eq_iff_iff,Nat.beq_eq,beq_iff_eq]
 rcases(show i=0∨i=1∨i=2∨i=3 by omega) with rfl | rfl | rfl | rfl
 all_goals
  refine iP ?_ ?_
  all_goals
   simp only [jY,hbq,Nat.reduceAdd,Nat.reduceBEq,Nat.reduceEqDiff,cond_false,cond_true,List.map_cons,List.map_nil] at hr100 hrr hro h0 h6 h7 ⊢
   simp only [h0,h6,h7,hr100,hrr,hro,blkEta,aHH ho,aHq ho,ne_eq,Nat.reduceEqDiff,not_false_eq_true,Nat.reduceLT]
   simp only [nT,Nat.reduceEqDiff,reduceIte,aB2,hp,hbq,Nat.reduceBEq,cond_false,cond_true,and_self]
theorem rfk {b n i:Nat} (h:Nat.blt b 201=true):bB b (kJ 201 n i)=kJ 201 n i:=l7 i (.inl (by simpa [Nat.blt_eq] using h))
theorem aM6 (n i:Nat):bB 12 (kJ 201 n i)=kJ 201 n i:=rfk rfl
theorem aMZ (n i:Nat):bB 94 (kJ 201 n i)=kJ 201 n i:=rfk rfl
theorem aM1 (n i:Nat):bB 95 (kJ 201 n i)=kJ 201 n i:=rfk rfl
theorem aMY (n i:Nat):bB 99 (kJ 201 n i)=kJ 201 n i:=rfk rfl
theorem aLo (n i:Nat):bB 100 (kJ 201 n i)=kJ 201 n i:=rfk rfl
theorem aFr {b sz i o c:Nat} (h:b<95) (hc:200<c):((LV.eptr b sz i o).kill c).ren (nT 95 c)=.eptr b sz i o:=by
 have h1:¬ (b=c):=by omega
 have h2:¬ (b=95):=by omega
 simp [LV.kill,LV.ren,nT,h1,h2]
theorem aKx {x:LV} {c:Nat} {g:Nat→Nat} (h:x.pure=true):(x.kill c).ren g=x:=by rw [LV.kill_pure c x h,LV.ren_pure g x h]
theorem aNd {x y z u:LV} {i c:Nat} (hx:x.pure=true) (hy:y.pure=true) (hz:z.pure=true) (hu:u.pure=true) (hc:200<c):eJ (nT 95 c) (bB c [.agg [x,y,z,u,.ref 100 1 0 i]])=[.agg [x,y,z,u,.ref 100 1 0 i]]:=by
 have h1:¬ (100=c):=by omega
 simp only [bB,LV.kill,eJ,LV.ren,LV.kill_pure c x hx,LV.kill_pure c y hy,LV.kill_pure c z hz,LV.kill_pure c u hu,LV.ren_pure _ x hx,LV.ren_pure _ y hy,LV.ren_pure _ z hz,LV.ren_pure _ u hu,if_neg h1,nT]
 simp [LV.ren,LV.kill,h1]
theorem aKt {l:List LV} {c:Nat} {g:Nat→Nat} (h:aY l=true):eJ g (bB c l)=l:=by rw [kY c l h,gM g l h]
theorem zH:∀ (l:List (Nat × Blk)) (c:Nat),hp l c≠none→c∈l.map (·.1)
 | [],c,h=>absurd rfl h
 | (d,y) :: t,c,h=>by
   by_cases e:c=d
   ·simp [e]
   ·have:Nat.beq c d=false:=by rw [←Bool.not_eq_true,Nat.beq_eq];exact e
    simp only [hp,this,cond_false] at h
    simp only [List.map_cons,List.mem_cons]
    exact .inr (zH t c h)
inductive BsOK (H:dA) (g:Nat→Nat):List Nat→List Blk→Prop
 | nil:BsOK H g [] []
 | cons {b:Nat} {blk x:Blk} {own:List Nat} {bs:List Blk} (h:H b=some blk) (e:x=⟨blk.sz,eJ g blk.vals,blk.mt⟩) (t:BsOK H g own bs):BsOK H g (b :: own) (x :: bs)
theorem BsOK.at {H:dA} {g:Nat→Nat}:∀ {own:List Nat} {bs:List Blk},BsOK H g own bs→∀ (k b:Nat),own[k]?=some b→∃ blk:Blk,H b=some blk∧bs[k]?=some ⟨blk.sz,eJ g blk.vals,blk.mt⟩
 | _,_,.nil,k,b,h=>by simp at h
 | _,_,.cons (blk:=blk) h e t,0,b,hb=>by simp only [List.getElem?_cons_zero,Option.some.injEq] at hb;subst hb;exact⟨blk,h,by simp [e]⟩
 | _,_,.cons h e t,k+1,b,hb=>by
   obtain⟨blk,h1,h2⟩:=t.at k b (by simpa using hb)
   exact⟨blk,h1,by simpa using h2⟩
theorem aMr {P:Program} {L:St} {a b sz n:Nat} {T:TypeId} {x r:LV} {m ag:Bool} {blk':Blk} {bs:List Blk} {l:List (Nat × Blk)} (own:List Nat) (hl:L.heap=hp l) (h:L.slot a=.eptr b sz 0 0) (hb:hp l b=some ⟨sz,[x],m⟩)
  (hx:x.csize=sz) (hat:x.at 0 n ag=some x) (hT:cF P T n ag) (hne:x≠.any∧∀ l,x≠.tup l) (h0:hp l 0=some blk') (hp0:aY blk'.vals=true) (hnd:own.Nodup) (hn0:0∉own) (hdom:∀ c∈l.map (·.1),c≠0→c∈own)
  (hbs:BsOK (hp l) (lC own) own bs) (hr:r=x.ren (lC own)):aDW P [.cell a T] L r blk' bs :=
 ⟨[x],own,by rw [hl];exact h0,hp0,.cons ⟨b,sz,0,0,_,x,n,ag,h,by rw [hl];exact hb,rfl,rfl,hx,hat,hT⟩ .nil,by simpa using hne,hnd,hn0,fun c hc hh=>hdom c (zH l c (by rwa [hl] at hh)) hc,by rw [hl];exact hbs.at,by rw [hr];rfl⟩
theorem aN0 {P:Program} {L:St} {a b sz n:Nat} {T:TypeId} {x r:LV} {m ag:Bool} {bs:List Blk} {l:List (Nat × Blk)} (own:List Nat) (hl:L.heap=hp l) (h:L.slot a=.eptr b sz 0 0) (hb:hp l b=some ⟨sz,[x],m⟩)
  (hx:x.csize=sz) (hat:x.at 0 n ag=some x) (hT:cF P T n ag) (hne:x≠.any∧∀ l,x≠.tup l) (h0:hp l 0=none) (hnd:own.Nodup) (hn0:0∉own) (hdom:∀ c∈l.map (·.1),c≠0→c∈own)
  (hbs:BsOK (hp l) (lC own) own bs) (hr:r=x.ren (lC own)):aIL P [.cell a T] L r bs :=
 ⟨[x],own,by rw [hl];exact h0,.cons ⟨b,sz,0,0,_,x,n,ag,h,by rw [hl];exact hb,rfl,rfl,hx,hat,hT⟩ .nil,by simpa using hne,hnd,hn0,fun c hc hh=>hdom c (zH l c (by rwa [hl] at hh)) hc,by rw [hl];exact hbs.at,by rw [hr];rfl⟩
theorem mT (o:List (List PoR)) (j:Nat) (g:Nat→Nat):dK o j=⟨(dK o j).sz,eJ g (dK o j).vals,(dK o j).mt⟩:=by rw [vH]
theorem aGq {B B' n i:Nat} {g:Nat→Nat} (h:∀ j,j<i→g (B+j)=B'+j):(⟨1,kJ B' n i,true⟩:Blk)=⟨1,eJ g (kJ B n i),true⟩:=by rw [uU i h]
theorem uH {x y z u:LV} {b b' i:Nat} {g:Nat→Nat} (hg:g b=b') (hx:x.pure=true) (hy:y.pure=true) (hz:z.pure=true) (hu:u.pure=true):LV.agg [x,y,z,u,.ref b' 1 0 i]=(LV.agg [x,y,z,u,.ref b 1 0 i]).ren g:=by
 simp only [LV.ren,eJ,hg,LV.ren_pure _ x hx,LV.ren_pure _ y hy,LV.ren_pure _ z hz,LV.ren_pure _ u hu]
theorem wB {x y z u:LV} {b b' i:Nat} {g:Nat→Nat} (hg:g b=b') (hx:x.pure=true) (hy:y.pure=true) (hz:z.pure=true) (hu:u.pure=true):(⟨5,[LV.agg [x,y,z,u,.ref b' 1 0 i]],true⟩:Blk)=⟨5,eJ g [LV.agg [x,y,z,u,.ref b 1 0 i]],true⟩:=by
 rw [uH hg hx hy hz hu];rfl
theorem aM2 {P:Program} {ρ:Operand→LV} {d:Nat} {T E:TypeId} {x:Operand} {z:LV} {b sz n:Nat} (hT:P.underlying T=some (.slice E)) (hz:bN P E z) (hE:cF P E 1 false) (hz1:z.csize=1) (hz2:z.isAgg=false) (hl:lay (.ref b sz 0 n)=lay z) (hx:ρ x=.ref b sz 0 n) :
  OpA P ρ d (.buildSlice T 1 #[(0,x)]) (.ref d 1 0 1) ⟨1,[.ref b sz 0 n],true⟩:=by
 have:=OpA.lit (P:=P) (ρ:=ρ) (d:=d) (T:=T) (n:=1) (sz:=1) (ps:=#[(0,x)]) hT hz (by rw [hz2];exact hE) hz1 (by decide) (by decide) (by decide) (by
  intro p hp
  simp only [List.mem_singleton] at hp
  subst hp
  exact⟨Nat.zero_lt_one,by rw [hx];exact hl,by rw [hx];simp,by rw [hx];simp⟩)
 simp only [fU,List.map_cons,List.map_nil,hx] at this
 exact this
namespace Zq9
theorem dG {p q:Prop} (k:q) (e:p=q:=by simp only [e1,e2,e3,e4,p1,p2,p3,q1,q2,q3,l1,t0,t1,r1,r2,r3,r4,Nat.zero_add,Nat.reduceMul,Nat.reduceAdd,b1,b2,b3,b4,b5,b6,i1,i2,i3,i4,i5,i6,Nat.reduceBEq,l1,erl,egp,egq,fW,aAw,aBo,aM6,aMZ,aM1,aMY,aLo,s6,LV.kill,bB,Nat.reduceEqDiff,reduceIte,←oY,hlu,hlv,dS,aC gY,List.length_map,bJ,cI,bQ,List.length_cons,List.length_nil,List.length_map,List.set_cons_zero,List.set_cons_succ,Nat.reduceEqDiff,reduceIte,if_true,if_false,bG,bF,aC eI,aC aD,aS,aZ,LV.kill,bB,kX];exact rfl):p:=e.mpr k
end Zq9
open Zq9 in
theorem aBW (l:List Int) (k:Nat) (hl:l.length≤500) (n:Nat) (hn:0<n) (hn6:n≤6) (m:Nat) (hm:m≤2) (hk:k≤500) (h4:sA l k n m≤4):r8 Tryz.prog 11 ⟨2,[fJ l k],true⟩ [.eptr 0 2 0 0,aE n,aE m] (.agg [aE (sU l k n),aE (sV l k n),.list 3 ((sKU l k n m).map ratL),.list 3 ((sKV l k n m).map ratL),.ref 1 1 0 (sA l k n m)]) ⟨2,[fJ l (sE l k n m)],true⟩ [⟨1,kJ 2 (sB l k n m) (sA l k n m),true⟩,dK (sR l k n m) 0,dK (sR l k n m) 1,dK (sR l k n m) 2,dK (sR l k n m) 3,⟨5,[.agg [aE (sU l k n),aE (sV l k n),.list 3 ((sKU l k n m).map ratL),.list 3 ((sKV l k n m).map ratL),.ref 1 1 0 (sA l k n m)]],true⟩,⟨5,[.agg [aE (sU l k n),aE (sV l k n),.list 3 ((sKU l k n m).map ratL),.list 3 ((sKV l k n m).map ratL),.ref 1 1 0 (sA l k n m)]],true⟩]:=by
 have hS:=aEZ l hl hk hn hn6 hm
 have hu1:=hS.u1
 have hun:=hS.un
 have hv1:=hS.v1
 have hvn:=hS.vn
 have hj1:=hS.j1
 have hj2:=hS.j2
 have hj3:=hS.j3
 have hj4:=hS.j4
 have hj5:=hS.j5
 have hlu:=hS.lu
 have hlv:=hS.lv
 have ha8:=hS.a8
 have hb8:=hS.b8
 have hb:=iO (l:=l) (k:=k) (n:=(n:Int)) (by omega)
 have hb1:=iO (l:=l) (k:=iM l k) (n:=(n:Int)) (by omega)
 have hA:dW .add .i64 1 (lG l k (n:Int))=some (.int .i64 (((sU l k n):Nat):Int)):=by rw [hS.ue];exact iS (by omega) (by omega)
 have hA2:dW .add .i64 1 (lG l (iM l k) (n:Int))=some (.int .i64 (((sV l k n):Nat):Int)):=by rw [hS.ve];exact iS (by omega) (by omega)
 have hku:=aG aD 3 (sKU l k n m)
 have hkv:=aG aD 3 (sKV l k n m)
 refine aOa Tryz.func11 ?_
 have erl:True:=trivial
 have egp:True:=trivial
 have egq:True:=trivial
 refine dU ?_
 refine cG 0 rfl rfl rfl (aR l _) (.cons .ptr (.cons (.imm (.pure rfl)) .nil)) .ptr (iF l k n (by omega) (by omega) (by omega) (by omega)) rfl (aR l _) rfl ?_
 refine aB rfl (.bin rfl rfl (hA)) ?_
 refine cY ?_
 refine cG 0 rfl rfl rfl (aR l _) (.cons .ptr (.cons (.imm (.pure rfl)) .nil)) .ptr (iF l (iM l k) n (by omega) (by omega) (by omega) (by omega)) rfl (aR l _) rfl ?_
 refine aB rfl (.bin rfl rfl (hA2)) ?_
 refine dB ?_
 refine eB (fun L=>∃  (L1:St),(True)∧L=((((St.mk L1.slot (hp [(0,⟨2,[fJ l (sJ4 l k n m)],true⟩),(6,⟨5,[.agg [.v (.int .i64 0),.v (.int .i64 0),.v (.slice none 0 0),.v (.slice none 0 0),.v (.slice none 0 0)]],true⟩),(7,⟨5,[.agg [aE (sU l k n),aE (sV l k n),.list 3 ((sKU l k n m).map ratL),.list 3 ((sKV l k n m).map ratL),.v (.slice none 0 0)]],true⟩)])).put (some 0) (.eptr 0 2 0 0)).put (some 6) (.eptr 6 5 0 0)).put (some 7) (.eptr 7 5 0 0))) ?_ ?_
 ·refine qJ ?_
  refine dT 0 rfl rfl (by decide +kernel) (.move _) ?_
  refine dT 1 rfl rfl (by decide +kernel) mC ?_
  refine dT 3 rfl rfl (by decide +kernel) (.move _) ?_
  refine dT 5 rfl rfl (by decide +kernel) (.move _) ?_
  refine dT 6 rfl rfl (by decide +kernel) mC ?_
  refine dT 8 rfl rfl (by decide +kernel) (.move _) ?_
  refine dO 2 7 _ _ (by decide +kernel) rfl rfl ?_ ?_
  ·refine bE ?_
   refine aF ?_
   refine dO 4 7 _ _ (by decide +kernel) rfl rfl ?_ ?_
   ·refine cG 0 rfl rfl rfl (aR l _) (.cons .ptr (.cons (.imm (.pure rfl)) (.cons (.imm (.pure rfl)) .nil))) .ptr (gO l (sJ2 l k) (by omega) (sU l k n) (by omega) (by omega) m hm (by omega)) rfl (aR l _) (aG aD 3 _) ?_
    refine aF ?_
    refine aN 7 _ (by decide +kernel) rfl ?_
    refine bE ?_
    refine aF ?_
    refine dT 10 rfl rfl (by decide +kernel) mC ?_
    refine aN 9 _ (by decide +kernel) rfl ?_
    refine cG 0 rfl rfl rfl (aR l _) (.cons .ptr (.cons (.imm (.pure rfl)) (.cons (.imm (.pure rfl)) .nil))) .ptr (gO l (sJ3 l k n m) (by omega) (sV l k n) (by omega) (by omega) m hm (by omega)) rfl (aR l _) (aG aD 3 _) ?_
    refine aF ?_
    refine aN 11 _ (by decide +kernel) rfl ?_
    refine bE ?_
    refine aF ?_
    refine aN 12 _ (by decide +kernel) rfl ?_
    refine bE ?_
    refine aF ?_
    refine aN 13 _ (by decide +kernel) rfl ?_
    refine bE ?_
    refine aF ?_
    refine cK (by decide +kernel) ?_
    refine bE ?_
    exact⟨_,trivial,((aA (aA (aA (bC cl) cl) cl) cl)).symm⟩
   ·refine bE ?_
    refine aF ?_
    refine aN 4 _ (by decide +kernel) rfl ?_
    refine cG 0 rfl rfl rfl (aR l _) (.cons .ptr (.cons (.imm (.pure rfl)) (.cons (.imm (.pure rfl)) .nil))) .ptr (gO l (sJ2 l k) (by omega) (sU l k n) (by omega) (by omega) m hm (by omega)) rfl (aR l _) (aG aD 3 _) ?_
    refine aF ?_
    refine dT 10 rfl rfl (by decide +kernel) mC ?_
    refine aN 9 _ (by decide +kernel) rfl ?_
    refine cG 0 rfl rfl rfl (aR l _) (.cons .ptr (.cons (.imm (.pure rfl)) (.cons (.imm (.pure rfl)) .nil))) .ptr (gO l (sJ3 l k n m) (by omega) (sV l k n) (by omega) (by omega) m hm (by omega)) rfl (aR l _) (aG aD 3 _) ?_
    refine aF ?_
    refine aN 11 _ (by decide +kernel) rfl ?_
    refine bE ?_
    refine aF ?_
    refine aN 12 _ (by decide +kernel) rfl ?_
    refine bE ?_
    refine aF ?_
    refine aN 13 _ (by decide +kernel) rfl ?_
    refine bE ?_
    refine aF ?_
    refine cK (by decide +kernel) ?_
    refine bE ?_
    exact⟨_,trivial,((aA (aA (aA (bC cl) cl) cl) cl)).symm⟩
  ·refine bE ?_
   refine aF ?_
   refine aN 2 _ (by decide +kernel) rfl ?_
   refine bE ?_
   refine aF ?_
   refine aN 4 _ (by decide +kernel) rfl ?_
   refine cG 0 rfl rfl rfl (aR l _) (.cons .ptr (.cons (.imm (.pure rfl)) (.cons (.imm (.pure rfl)) .nil))) .ptr (gO l (sJ2 l k) (by omega) (sU l k n) (by omega) (by omega) m hm (by omega)) rfl (aR l _) (aG aD 3 _) ?_
   refine aF ?_
   refine dT 10 rfl rfl (by decide +kernel) mC ?_
   refine aN 9 _ (by decide +kernel) rfl ?_
   refine cG 0 rfl rfl rfl (aR l _) (.cons .ptr (.cons (.imm (.pure rfl)) (.cons (.imm (.pure rfl)) .nil))) .ptr (gO l (sJ3 l k n m) (by omega) (sV l k n) (by omega) (by omega) m hm (by omega)) rfl (aR l _) (aG aD 3 _) ?_
   refine aF ?_
   refine aN 11 _ (by decide +kernel) rfl ?_
   refine bE ?_
   refine aF ?_
   refine aN 12 _ (by decide +kernel) rfl ?_
   refine bE ?_
   refine aF ?_
   refine aN 13 _ (by decide +kernel) rfl ?_
   refine bE ?_
   refine aF ?_
   refine cK (by decide +kernel) ?_
   refine bE ?_
   exact⟨_,trivial,((aA (aA (aA (bC cl) cl) cl) cl)).symm⟩
 ·rintro _ ⟨LR2,-,rfl⟩
  refine cO ?_
  refine cG 0 rfl rfl rfl (aR l _) (.cons .ptr (.cons (.imm (.pure rfl)) .nil)) .ptr (iF l (sJ4 l k n m) 3 (by omega) (by omega) (by omega) (by omega)) rfl (aR l _) rfl ?_
  refine cV ?_
  refine eZ (((((((bI.cell 7 rfl (fun Z μ w cs h=>aAb 100 1 _ _ _ _ Z μ w cs h))).trans (bI.newB _ 201 12 rfl)).trans (bI.newB _ 202 12 rfl)).trans (bI.newB _ 203 12 rfl)).trans (bI.newB _ 204 12 rfl)).trans (bI.newB _ 100 1 rfl)) ?_
  refine lp4 (fun(i p c:Nat) (o:List (List PoR)) L=>((((((St.mk L.slot (hp [(0,⟨2,[fJ l p],true⟩),(6,⟨5,[.agg [.v (.int .i64 0),.v (.int .i64 0),.v (.slice none 0 0),.v (.slice none 0 0),.v (.slice none 0 0)]],true⟩),(7,⟨5,[.agg [aE (sU l k n),aE (sV l k n),.list 3 ((sKU l k n m).map ratL),.list 3 ((sKV l k n m).map ratL),.ref 100 1 0 i]],true⟩),(201,(dK o 0)),(202,(dK o 1)),(203,(dK o 2)),(204,(dK o 3)),(100,⟨1,kJ 201 (sB l k n m) i,true⟩)])).put (some 0) (.eptr 0 2 0 0)).put (some 6) (.eptr 6 5 0 0)).put (some 7) (.eptr 7 5 0 0)).put (some 8) (bL (sH l k n m))).put (some 9) (aE i))) (fun i p c o=>p≤500∧o.length=i∧i+c=(sA l k n m)∧o++ssV l (sH l k n m) (sB l k n m) i c p=sR l k n m∧ssK l (sB l k n m) c p=sE l k n m) (fun i p c o=>c) 0 (iM l (sJ4 l k n m)) (sA l k n m) ([]) ⟨hj5,rfl,by simp,rfl,rfl⟩ ?_
  rintro i p c o L1 ⟨hp5,hol,hic,hR,hE⟩
  refine dU ?_
  refine aB rfl (.bin rfl rfl (iK (by omega) (by omega))) ?_
  refine aB rfl (.bin rfl rfl (iK (by omega) (by omega))) ?_
  refine cP ?_
  refine aK rfl (fun h45r h45=>?_) (fun h45r h45=>?_)
  ·obtain⟨e,rfl⟩:∃ e,c=e+1:=⟨c-1,by omega⟩
   refine mY ?_
   refine eZ (bI.own (t:=10) 95 12 rfl rfl) ?_
   refine lp3 (fun(d q:Nat) (r:List PoR) L=>((((((((St.mk L.slot (hp [(0,⟨2,[fJ l q],true⟩),(6,⟨5,[.agg [.v (.int .i64 0),.v (.int .i64 0),.v (.slice none 0 0),.v (.slice none 0 0),.v (.slice none 0 0)]],true⟩),(7,⟨5,[.agg [aE (sU l k n),aE (sV l k n),.list 3 ((sKU l k n m).map ratL),.list 3 ((sKV l k n m).map ratL),.ref 100 1 0 i]],true⟩),(201,(dK o 0)),(202,(dK o 1)),(203,(dK o 2)),(204,(dK o 3)),(100,⟨1,kJ 201 (sB l k n m) i,true⟩),(95,⟨12,r.map gZ,true⟩)])).put (some 0) (.eptr 0 2 0 0)).put (some 6) (.eptr 6 5 0 0)).put (some 7) (.eptr 7 5 0 0)).put (some 8) (bL (sH l k n m))).put (some 9) (aE i)).put (some 10) (.ref 95 12 0 r.length)).put (some 11) (aE r.length))) (fun d q r=>q≤500∧r.length+d=(sB l k n m)∧r++srV l (sH l k n m) i r.length d q=srV l (sH l k n m) i 0 (sB l k n m) p∧dqK l q d=dqK l p (sB l k n m)) (fun d q r=>d) (sB l k n m) p ([]) ⟨hp5,by simp,rfl,rfl⟩ ?_
   rintro d q r L2 ⟨hq5,hrl,hV,hK⟩
   refine dU ?_
   refine aB rfl (.bin rfl rfl (iK (by omega) (by omega))) ?_
   refine aB rfl (.bin rfl rfl (iK (by omega) (by omega))) ?_
   refine cP ?_
   refine aK rfl (fun h56r h56=>?_) (fun h56r h56=>?_)
   ·obtain⟨f,rfl⟩:∃ f,d=f+1:=⟨d-1,by omega⟩
    obtain⟨⟨hx1,hx2,hx3⟩,hx4,_⟩:=aJU l q
    obtain⟨hz1,hz2,hz3,hz4,hz5⟩:=aJS (i:=i) (j:=r.length) hx1 hx2 hx3 (by omega) (by omega)
    skip
    refine dL ?_
    refine cG 0 rfl rfl rfl (aR l _) (.cons .ptr (.cons (.imm (.pure rfl)) .nil)) .ptr (aEe l q (by omega) (by omega)) rfl (aR l _) (eI.pure _) ?_
    refine cV ?_
    refine aK rfl (fun h62r h62=>?_) (fun h62r h62=>?_)
    ·have hwd:(sH l k n m)=false:=by simpa using h62
     have egp:LV.agg [.agg [ratL (((2*(i:Int):Int):Rat)+(o6 l q).p.x*(((1:Int):Rat)/((8:Int):Rat))),ratL (((2*(r.length:Int):Int):Rat)+(o6 l q).p.y*(((1:Int):Rat)/((8:Int):Rat))),ratL ((o6 l q).p.z*(((1:Int):Rat)/((4:Int):Rat)))],ratL (o6 l q).w]=gZ (gpV (sH l k n m) i r.length (o6 l q)):=by unfold gpV;rw [hwd];rfl
     refine bE ?_
     refine aP 11 (by decide +kernel) ?_
     refine bE ?_
     refine aB rfl (.bin rfl rfl (tX (by omega) (by omega))) ?_
     refine cp dC (jE (2*(i:Int)) (by omega) (by omega)) ?_
     refine cP ?_
     refine cp b9 (kK 1 8 (by decide) (by decide) (by decide) (by decide) (by decide)) ?_
     refine cp b9 (f8 (o6 l q).p.x _ (by omega)) ?_
     refine cp b9 (jI _ _ (by omega)) ?_
     refine dB ?_
     refine aP 11 (by decide +kernel) ?_
     refine bE ?_
     refine aB rfl (.bin rfl rfl (tX (by omega) (by omega))) ?_
     refine cp dC (jE (2*(r.length:Int)) (by omega) (by omega)) ?_
     refine cP ?_
     refine cp b9 (kK 1 8 (by decide) (by decide) (by decide) (by decide) (by decide)) ?_
     refine cp b9 (f8 (o6 l q).p.y _ (by omega)) ?_
     refine cp b9 (jI _ _ (by omega)) ?_
     refine dR ?_
     refine aP 7 (by decide +kernel) ?_
     refine cP ?_
     refine cp b9 (kK 1 4 (by decide) (by decide) (by decide) (by decide) (by decide)) ?_
     refine cp b9 (f8 (o6 l q).p.z _ (by omega)) ?_
     refine dU ?_
     first | refine bD rfl (.appX (d:=95) (news:=[gZ (gpV (sH l k n m) i r.length (o6 l q))]) rfl rfl rfl rfl (by simp) (.inl rfl) (by decide) Tryz.underlying60 Tryz.underlying60 Z62 uC cs B62 (.inl ⟨94,0,_,rfl,by decide,rfl,rfl,by simp,rfl,by simp [aY,eI.pure]⟩) (by simp;omega) (by simp;omega) (by decide)) ?_ | refine bD rfl (.appX (d:=95) (news:=[gZ (o6 l q)]) rfl rfl rfl rfl (by simp) (.inl rfl) (by decide) Tryz.underlying60 Tryz.underlying60 Z62 uC cs B62 (.inl ⟨94,0,_,rfl,by decide,rfl,rfl,by simp,rfl,by simp [aY,eI.pure]⟩) (by simp;omega) (by simp;omega) (by decide)) ?_
     refine cO ?_
     refine bR ((bI.kill _ 94).trans (bI.kill _ 12)) ?_
     refine bE ?_
     refine aB rfl (.bin rfl rfl (bV (by omega))) ?_
     refine cP ?_
     exact nx3 f (dpK l q) (r++[gpV (sH l k n m) i r.length (o6 l q)]) ⟨xA hl hq5,by simp;omega,by rw [List.append_assoc,bQ];exact hV,hK⟩
    ·have hwd:(sH l k n m)=true:=by simpa using h62
     have egq:r++[(o6 l q)]=r++[(gpV (sH l k n m) i r.length (o6 l q))]:=by unfold gpV;rw [hwd];rfl
     refine dB ?_
     first | refine bD rfl (.appX (d:=95) (news:=[gZ (gpV (sH l k n m) i r.length (o6 l q))]) rfl rfl rfl rfl (by simp) (.inl rfl) (by decide) Tryz.underlying60 Tryz.underlying60 Z62 uC cs B62 (.inl ⟨94,0,_,rfl,by decide,rfl,rfl,by simp,rfl,by simp [aY,eI.pure]⟩) (by simp;omega) (by simp;omega) (by decide)) ?_ | refine bD rfl (.appX (d:=95) (news:=[gZ (o6 l q)]) rfl rfl rfl rfl (by simp) (.inl rfl) (by decide) Tryz.underlying60 Tryz.underlying60 Z62 uC cs B62 (.inl ⟨94,0,_,rfl,by decide,rfl,rfl,by simp,rfl,by simp [aY,eI.pure]⟩) (by simp;omega) (by simp;omega) (by decide)) ?_
     refine cO ?_
     refine bR ((bI.kill _ 94).trans (bI.kill _ 12)) ?_
     refine bE ?_
     refine aB rfl (.bin rfl rfl (bV (by omega))) ?_
     refine cP ?_
     exact nx3 f (dpK l q) (r++[gpV (sH l k n m) i r.length (o6 l q)]) ⟨xA hl hq5,by simp;omega,by rw [List.append_assoc,bQ];exact hV,hK⟩
   ·obtain rfl:d=0:=by omega
    rw [srV,List.append_nil] at hV
    rw [dqK] at hK
    subst hK
    have erl:r.length=(sB l k n m):=by omega
    refine dR ?_
    refine aAx 4 ?_
    simp only [List.take_succ_cons,List.take_zero]
    refine cP ?_
    refine dD rfl rfl (aM2 Tryz.underlying37 prZ T60 rfl rfl rfl rfl) ?_
    refine zG rfl (aI2 (d:=100) (news:=[.ref 95 12 0 r.length]) rfl rfl rfl rfl rfl (by rw [sL];exact Nat.le_refl _) (.inl rfl) (by decide) Tryz.underlying37 Tryz.underlying37 prZ T60 cs B60 ⟨99,0,_,rfl,by decide,rfl,rfl,by simp,rfl⟩ (by simp;omega) (by simp;omega)) ?_
    simp only [List.drop_succ_cons,List.drop_zero]
    refine dR ?_
    refine bR (bI.kill _ 99) ?_
    refine bE ?_
    refine aB rfl (.bin rfl rfl (bV (by omega))) ?_
    refine cP ?_
    exact nx4 (i+1) (dqK l p (sB l k n m)) e (o++[r]) ⟨aCl hl _ _ hp5,by simp;omega,by omega,by rw [hV,List.append_assoc];exact hR,hE⟩ (he:=(aE8 (o:=o) (r:=r) (i:=i) (n:=(sB l k n m)) (by omega) hol rfl (fun c _=>aKt (aR l _)) (fun c _=>aKt rfl) (fun c h=>aNd rfl rfl hku hkv h)).trans (bI.of_eq (aA (aA (aA (aA (aA (bC rfl) (aFr (by decide) (by omega))) (aFr (by decide) (by omega))) (aFr (by decide) (by omega))) (aKx rfl)) (aKx rfl))))
  ·obtain rfl:c=0:=by omega
   rw [ssV,List.append_nil] at hR
   rw [ssK] at hE
   subst hol
   refine cW ?_
   rw [←hE]
   subst hR
   rw [hS.rl]
   exact aMr [100,201,202,203,204,6,7] rfl rfl rfl rfl rfl T39 ⟨by simp,by simp⟩ rfl (aR l _) (by decide) (by decide) (by intro c hc h0;simp at hc ⊢;omega) (.cons rfl (aGq (i:=(sA l k n m)) (fun j hj=>by rcases(show j=0∨j=1∨j=2∨j=3 by omega) with rfl | rfl | rfl | rfl<;>rfl)) (.cons rfl (mT _ _ _) (.cons rfl (mT _ _ _) (.cons rfl (mT _ _ _) (.cons rfl (mT _ _ _) (.cons rfl (wB rfl rfl rfl hku hkv) (.cons rfl (wB rfl rfl rfl hku hkv) .nil))))))) (uH rfl rfl rfl hku hkv)
theorem aJ6 {l:List (Nat × Blk)} {c:Nat} (h:∀ x∈l.map (·.1),c≠x):hp l c=none:=by
 by_cases e:hp l c=none
 ·exact e
 ·exact absurd rfl (h c (zH l c e))
theorem aA2 (o:List (List PoR)) (j:Nat) (g:Nat→Nat):(⟨(dK o j).sz,eJ g (dK o j).vals,(dK o j).mt⟩:Blk)=dK o j:=by rw [vH]
theorem aFW (b d k n i:Nat) (h:k≠0):eJ (fS b d) (kJ k n i)=kJ (bP d k) n i:=uU i fun j hj=>by
 unfold fS bP
 rw [if_neg (by omega)];omega
theorem yC (b d n i:Nat):eJ (fS b d) (kJ 2 n i)=kJ (1000000+d*16+2) n i:=aFW b d 2 n i (by decide)
theorem aKk (b d:Nat):fS b d 1=1000000+d*16+1:=rfl
theorem aJR (b d:Nat):fS b d 2=1000000+d*16+2:=rfl
theorem aJZ (b d:Nat):fS b d 3=1000000+d*16+3:=rfl
theorem aKi (b d:Nat):fS b d 4=1000000+d*16+4:=rfl
theorem aJY (b d:Nat):fS b d 5=1000000+d*16+5:=rfl
theorem aKn (b d:Nat):fS b d 6=1000000+d*16+6:=rfl
theorem aKu (b d:Nat):fS b d 7=1000000+d*16+7:=rfl
theorem aJ5 (b d:Nat):fS b d 8=1000000+d*16+8:=rfl
theorem aJV (b d:Nat):fS b d 9=1000000+d*16+9:=rfl
theorem aDE (a b:Nat) (k m:List Rat) (c i:Nat) (g:Nat→Nat):(LV.agg [aE a,aE b,.list 3 (k.map ratL),.list 3 (m.map ratL),.ref c 1 0 i]).ren g=.agg [aE a,aE b,.list 3 (k.map ratL),.list 3 (m.map ratL),.ref (g c) 1 0 i] :=
 (uH rfl rfl rfl (aG aD 3 k) (aG aD 3 m)).symm
theorem aJQ (g:Nat→Nat) (x:LV):eJ g [x]=[x.ren g]:=rfl
theorem aA1 (l:List Int) (k:Nat) (g:Nat→Nat):(fJ l k).ren g=fJ l k:=LV.ren_pure g _ (gA (aR l k)).1
namespace Zq132
theorem dG {p q:Prop} (k:q) (e:p=q:=by simp only [e1,e2,e3,e4,p1,p2,p3,q1,q2,q3,l1,t0,t1,r1,r2,r3,r4,Nat.zero_add,Nat.reduceMul,Nat.reduceAdd,b1,b2,b3,b4,b5,b6,i1,i2,i3,i4,i5,i6,Nat.reduceBEq,pT,aKk,aJR,aJZ,aKi,aJY,aKn,aKu,aJ5,aJV,aDE,aJQ,aA1,aA2,yC,Nat.reduceMul,Nat.reduceAdd,fW,aAw,kX,List.set_cons_zero,List.set_cons_succ,Nat.reduceEqDiff,reduceIte,if_true,if_false,bG,bF,aC eI,aC aD,aS,aZ,LV.kill,bB,kX];exact rfl):p:=e.mpr k
end Zq132
open Zq132 in
theorem aEF (l:List Int) (hl5:l.length≤500):f3 Tryz.prog 22 [.list 1 (l.map lJ)] (.agg [aE (sU l 0 3),aE (sV l 0 3),.list 3 ((nS (sU l 0 3) (pTU l 0 3) ((pTU l 0 3)+1)).map ratL),.list 3 ((nS (sV l 0 3) (pTV l 0 3) ((pTV l 0 3)+1)).map ratL),.ref 1 1 0 (sA l 0 3 0)]) [⟨1,kJ 2 (sB l 0 3 0) (sA l 0 3 0),true⟩,dK (sR l 0 3 0) 0,dK (sR l 0 3 0) 1,dK (sR l 0 3 0) 2,dK (sR l 0 3 0) 3,⟨5,[.agg [aE (sU l 0 3),aE (sV l 0 3),.list 3 ((nS (sU l 0 3) (pTU l 0 3) ((pTU l 0 3)+1)).map ratL),.list 3 ((nS (sV l 0 3) (pTV l 0 3) ((pTV l 0 3)+1)).map ratL),.ref 1 1 0 (sA l 0 3 0)]],true⟩,⟨5,[.agg [aE (sU l 0 3),aE (sV l 0 3),.list 3 ((nS (sU l 0 3) (pTU l 0 3) ((pTU l 0 3)+1)).map ratL),.list 3 ((nS (sV l 0 3) (pTV l 0 3) ((pTV l 0 3)+1)).map ratL),.ref 1 1 0 (sA l 0 3 0)]],true⟩,⟨2,[fJ l (sE l 0 3 0)],true⟩,⟨5,[.agg [aE (sU l 0 3),aE (sV l 0 3),.list 3 ((nS (sU l 0 3) (pTU l 0 3) ((pTU l 0 3)+1)).map ratL),.list 3 ((nS (sV l 0 3) (pTV l 0 3) ((pTV l 0 3)+1)).map ratL),.ref 1 1 0 (sA l 0 3 0)]],true⟩]:=by
 have h4:(sA l 0 3 0)≤4:=by
  have h1:=(aEZ l hl5 (Nat.zero_le 500) (show 0<3 by decide) (by decide) (show 0≤2 by decide)).un
  have h2:=(tD l (sJ2 l 0) 0).2
  unfold sA;omega
 have hS:=aBW l 0 hl5 3 (by decide) (by decide) 0 (by decide) (Nat.zero_le _) h4
 rw [aGW l 0 3,aGT l 0 3] at hS
 have hku:=aG aD 3 (nS (sU l 0 3) (pTU l 0 3) ((pTU l 0 3)+1))
 have hkv:=aG aD 3 (nS (sV l 0 3) (pTV l 0 3) ((pTV l 0 3)+1))
 refine aOJ Tryz.func22 ?_
 refine dB ?_
 refine aAx 2 ?_
 simp only [List.take_succ_cons,List.take_zero]
 refine bE ?_
 refine lE [] rfl rfl (.cons kR .nil) (aFX l) (aR l 0) rfl ?_
 refine dG ?_
 refine zG rfl (aCH 5 rfl rfl rfl (aR l _) (.cons .ptr (.cons (.imm (.pure rfl)) (.cons (.imm (.pure rfl)) .nil))) .ptr hS (aR l _) (by simp) (fun k hk=>aJ6 (by intro x hx;simp at hx;unfold bP;omega))) ?_
 simp only [List.drop_succ_cons,List.drop_zero]
 refine cO ?_
 exact aN0 [1000081,1000082,1000083,1000084,1000085,1000086,1000087,1000065,2] rfl rfl rfl rfl rfl T39 ⟨by simp,by simp⟩ rfl (by decide) (by decide) (by intro c hc h0;simp at hc ⊢;omega) (.cons rfl (aGq (i:=(sA l 0 3 0)) (fun j hj=>by rcases(show j=0∨j=1∨j=2∨j=3 by omega) with rfl | rfl | rfl | rfl<;>rfl)) (.cons rfl (mT _ _ _) (.cons rfl (mT _ _ _) (.cons rfl (mT _ _ _) (.cons rfl (mT _ _ _) (.cons rfl (wB rfl rfl rfl hku hkv) (.cons rfl (wB rfl rfl rfl hku hkv) (.cons rfl (by rw [gM _ _ (aR l _)]) (.cons rfl (wB rfl rfl rfl hku hkv) .nil))))))))) (uH rfl rfl rfl hku hkv)
def pcE (U V:Nat) (rows:List (List PoR)):Int:=if rows.length=U+1∧(rows.getD 0 []).length=V+1 then 0 else 5
theorem s4 {U V:Nat} {rows:List (List PoR)} (h1:rows.length=U+1) (h2:(rows.getD 0 []).length=V+1):pcE U V rows=0:=if_pos ⟨h1,h2⟩
theorem tF {U V:Nat} {rows:List (List PoR)} (h1:rows.length≠U+1):pcE U V rows=5:=if_neg fun h=>h1 h.1
theorem tL {U V:Nat} {rows:List (List PoR)} (h1:(rows.getD 0 []).length≠V+1):pcE U V rows=5:=if_neg fun h=>h1 h.2
theorem aGN {q:PoR} (h:pY 64 q):shL [q.p.x,q.p.y,q.p.z,q.w]=true:=by
 obtain⟨⟨h1,h2,h3⟩,h4,_⟩:=h
 refine aC3 (R:=64) (Nat.le_refl _) fun x hx=>?_
 simp only [List.mem_cons,List.not_mem_nil,or_false] at hx
 rcases hx with rfl | rfl | rfl | rfl<;>assumption
theorem aIh {q:PoR} (h:pY 64 q):∀ x∈[q.p.x,q.p.y,q.p.z,q.w],rl x≤1000000:=fun x hx=>by
 obtain⟨⟨h1,h2,h3⟩,h4,_⟩:=h
 simp only [List.mem_cons,List.not_mem_nil,or_false] at hx
 rcases hx with rfl | rfl | rfl | rfl
 ·exact Nat.le_trans h1 (by decide)
 ·exact Nat.le_trans h2 (by decide)
 ·exact Nat.le_trans h3 (by decide)
 ·exact Nat.le_trans h4 (by decide)
namespace Zq14
theorem dG {p q:Prop} (k:q) (e:p=q:=by simp only [e1,e2,e3,e4,p1,p2,p3,q1,q2,q3,l1,t0,t1,r1,r2,r3,r4,Nat.zero_add,Nat.reduceMul,Nat.reduceAdd,b1,b2,b3,b4,b5,b6,i1,i2,i3,i4,i5,i6,Nat.reduceBEq,cM,gB,hsU,hsV,List.length_map,dS,aC gY,gB,gW,bJ,cI,bQ,List.length_cons,List.length_nil,List.nil_append,List.map_nil,List.take_nil,List.append_nil,List.set_cons_zero,List.set_cons_succ,Nat.reduceEqDiff,reduceIte,if_true,if_false,bG,bF,aC fF,aC eI,aC aD,aS,aZ,LV.kill,bB];exact rfl):p:=e.mpr k
end Zq14
open Zq14 in
theorem aHS (U V:Nat) (kU kV:List Rat) (rows:List (List PoR)) (hkU:kOK kU U) (hkV:kOK kV V) (hn:rows.length=kU.length-U-1) (hm:∀ r∈rows,r.length=kV.length-V-1) (hq:∀ r∈rows,∀ q∈r,pY 64 q):aM Tryz.prog 89 [.agg [aE U,aE V,.list 3 (kU.map ratL),.list 3 (kV.map ratL),.list 1 (rows.map cM)]] (iL 0):=by
 have hsp:LV.pure (.agg [aE U,aE V,.list 3 (kU.map ratL),.list 3 (kV.map ratL),.list 1 (rows.map cM)])=true:=by simp [LV.pure,aY,aH aD,aH gY]
 have hU1:=hkU.d1
 have hU6:=hkU.d6
 have hUl:=hkU.len
 have hUm:=hkU.max
 have hV1:=hkV.d1
 have hV6:=hkV.d6
 have hVl:=hkV.len
 have hVm:=hkV.max
 have hrU:∀ x∈kU,rl x≤1000000:=fun x hx=>Nat.le_trans (hkU.sz x hx) (by decide)
 have hrV:∀ x∈kV,rl x≤1000000:=fun x hx=>Nat.le_trans (hkV.sz x hx) (by decide)
 have hsU:=aC3 (R:=64) (Nat.le_refl _) hkU.sz
 have hsV:=aC3 (R:=64) (Nat.le_refl _) hkV.sz
 refine dI Tryz.func89 ?_
 refine cV ?_
 refine cp dC (yK kU (by omega) (fun x hx=>Nat.le_trans (hrU x hx) (by decide))) ?_
 refine cY ?_
 refine aB (aL (v:=false) rfl rfl ((rfl)) rfl) mC ?_
 refine aB (aL (v:=false) rfl rfl ((rfl)) rfl) kS ?_
 refine dX (aL (v:=false) rfl rfl ((rfl)) rfl) (.cons kR .nil) (yK kV (by omega) (fun x hx=>Nat.le_trans (hrV x hx) (by decide))) ?_
 refine aB (aL (v:=false) rfl rfl ((rfl)) rfl) (.not rfl) ?_
 refine aB rfl (.pickF rfl ((rfl))) ?_
 refine cY ?_
 refine bX (b:=_) rfl (rfl) ?_
 refine dU ?_
 refine lX (fun(i:Nat) L=>(((St.mk L.slot (hp [(1,⟨5,[.agg [aE U,aE V,.list 3 (kU.map ratL),.list 3 (kV.map ratL),.list 1 (rows.map cM)]],true⟩)])).put (some 1) (.eptr 1 5 0 0)).put (some 3) (aE i))) (fun i=>i≤rows.length) (fun i=>rows.length-i) 0 (Nat.zero_le _) ?_
 rintro i L1 hi
 refine cN ?_
 refine aK rfl (fun h26r h26=>?_) (fun h26r h26=>?_)
 ·have hi2:i<rows.length:=by omega
  have hrm:=dZ hi2
  have hrl:=hm _ hrm
  refine cN ?_
  refine lX (fun(j:Nat) L=>((((St.mk L.slot (hp [(1,⟨5,[.agg [aE U,aE V,.list 3 (kU.map ratL),.list 3 (kV.map ratL),.list 1 (rows.map cM)]],true⟩)])).put (some 1) (.eptr 1 5 0 0)).put (some 3) (aE i)).put (some 4) (aE j))) (fun j=>j≤(rows.getD i []).length) (fun j=>(rows.getD i []).length-j) 0 (Nat.zero_le _) ?_
  rintro j L2 hj
  refine eA ?_
  refine aK rfl (fun h36r h36=>?_) (fun h36r h36=>?_)
  ·have hj2:j<(rows.getD i []).length:=by omega
   obtain⟨o1,o4,o5⟩:=hq _ hrm _ (fY hj2)
   refine iJ ?_
   refine cp dC (aCR ((rows.getD i []).getD j default).p ⟨Nat.le_trans o1.1 (by decide),Nat.le_trans o1.2.1 (by decide),Nat.le_trans o1.2.2 (by decide)⟩) ?_
   refine cY ?_
   refine aB (aL (v:=false) rfl rfl ((rfl)) rfl) mC ?_
   refine aB (aL (v:=false) rfl rfl ((rfl)) rfl) kS ?_
   refine aB (aL (v:=false) rfl rfl ((rfl)) rfl) (.move _) ?_
   refine aB (aL (v:=false) rfl rfl ((rfl)) rfl) ixA ?_
   refine aB (aL (v:=false) rfl rfl ((rfl)) rfl) kS ?_
   refine aB (aL (v:=false) rfl rfl ((rfl)) rfl) (.move _) ?_
   refine aB (aL (v:=false) rfl rfl ((rfl)) rfl) ixA ?_
   refine aB (aL (v:=false) rfl rfl ((rfl)) rfl) mC ?_
   refine aB (aL (v:=false) rfl rfl ((rfl)) rfl) kS ?_
   refine dX (aL (v:=false) rfl rfl ((rfl)) rfl) (.cons kR .nil) (nN ((rows.getD i []).getD j default).w (by omega)) ?_
   refine aB (aL (v:=false) rfl rfl ((rfl)) rfl) (.not rfl) ?_
   refine aB rfl (.pickF rfl ((rfl))) ?_
   refine cY ?_
   refine bX (b:=_) rfl (rfl) ?_
   refine dR ?_
   refine aB rfl (.bin rfl rfl (bV (by omega))) ?_
   refine cP ?_
   exact kE (j+1) (by omega)
  ·refine eC ?_
   refine aB rfl (.bin rfl rfl (bV (by omega))) ?_
   refine cP ?_
   exact kE (i+1) (by omega)
 ·refine cW ?_
  refine cp b9 (yO kU U hkU) ?_
  refine dU ?_
  refine bX (b:=_) rfl (rfl) ?_
  refine dU ?_
  refine cp b9 (yO kV V hkV) ?_
  refine dU ?_
  refine bX (b:=_) rfl (rfl) ?_
  refine cO ?_
  refine aP 9 (by decide +kernel) ?_
  refine dL ?_
  refine cp b9 (tO kU U (by omega) (by omega)) ?_
  refine cP ?_
  refine aK rfl (fun h87r h87=>?_) (fun h87r h87=>?_)
  ·omega
  ·refine dU ?_
   refine lX (fun(i:Nat) L=>(((St.mk L.slot (hp [(1,⟨5,[.agg [aE U,aE V,.list 3 (kU.map ratL),.list 3 (kV.map ratL),.list 1 (rows.map cM)]],true⟩)])).put (some 1) (.eptr 1 5 0 0)).put (some 7) (aE i))) (fun i=>i≤rows.length) (fun i=>rows.length-i) 0 (Nat.zero_le _) ?_
   rintro i L3 hi
   refine cN ?_
   refine aK rfl (fun h92r h92=>?_) (fun h92r h92=>?_)
   ·have hi2:i<rows.length:=by omega
    have hrm:=dZ hi2
    have hrl:=hm _ hrm
    refine dR ?_
    refine aP 12 (by decide +kernel) ?_
    refine cN ?_
    refine cp b9 (tO kV V (by omega) (by omega)) ?_
    refine cP ?_
    refine aK rfl (fun h106r h106=>?_) (fun h106r h106=>?_)
    ·omega
    ·refine dR ?_
     refine aB rfl (.bin rfl rfl (bV (by omega))) ?_
     refine cP ?_
     exact kE (i+1) (by omega)
   ·refine dU ?_
    refine cp dC (wR kU (by omega) hrU) ?_
    refine bE ?_
    refine aB (aL (v:=true) rfl rfl (hsU) rfl) mC ?_
    refine aB (aL (v:=true) rfl rfl (hsU) rfl) kS ?_
    refine dX (aL (v:=true) rfl rfl (hsU) rfl) (.cons kR .nil) (wR kV (by omega) hrV) ?_
    refine aB rfl (.pickT rfl (hsU)) ?_
    refine cN ?_
    refine lX (fun(i:Nat) L=>((((St.mk L.slot (hp [(1,⟨5,[.agg [aE U,aE V,.list 3 (kU.map ratL),.list 3 (kV.map ratL),.list 1 (rows.map cM)]],true⟩)])).put (some 1) (.eptr 1 5 0 0)).put (some 8) (bL true)).put (some 9) (aE i))) (fun i=>i≤rows.length) (fun i=>rows.length-i) 0 (Nat.zero_le _) ?_
    rintro i L4 hi
    refine cN ?_
    refine aK rfl (fun h119r h119=>?_) (fun h119r h119=>?_)
    ·have hi2:i<rows.length:=by omega
     have hrm:=dZ hi2
     have hrl:=hm _ hrm
     refine cN ?_
     refine lX (fun(j:Nat) L=>(((((St.mk L.slot (hp [(1,⟨5,[.agg [aE U,aE V,.list 3 (kU.map ratL),.list 3 (kV.map ratL),.list 1 (rows.map cM)]],true⟩)])).put (some 1) (.eptr 1 5 0 0)).put (some 8) (bL true)).put (some 9) (aE i)).put (some 10) (aE j))) (fun j=>j≤(rows.getD i []).length) (fun j=>(rows.getD i []).length-j) 0 (Nat.zero_le _) ?_
     rintro j L5 hj
     refine eA ?_
     refine aK rfl (fun h129r h129=>?_) (fun h129r h129=>?_)
     ·have hj2:j<(rows.getD i []).length:=by omega
      obtain⟨o1,o4,o5⟩:=hq _ hrm _ (fY hj2)
      have hSh:aM Tryz.prog 170 [.list 3 ([((rows.getD i []).getD j default).p.x,((rows.getD i []).getD j default).p.y,((rows.getD i []).getD j default).p.z,((rows.getD i []).getD j default).w].map ratL)] (bL true):=by
       have:=wR [((rows.getD i []).getD j default).p.x,((rows.getD i []).getD j default).p.y,((rows.getD i []).getD j default).p.z,((rows.getD i []).getD j default).w] (by simp) (aIh (hq _ hrm _ (fY hj2)))
       rwa [aGN (hq _ hrm _ (fY hj2))] at this
      refine aCf ?_
      refine cp dC (aAC ((rows.getD i []).getD j default).w) ?_
      refine cP ?_
      refine aK rfl (fun h143r h143=>?_) (fun h143r h143=>?_)
      ·have:=aEj o5
       omega
      ·refine dR ?_
       refine dJ 145 rfl (fun h145r h145=>?_) (fun h145r h145=>?_)
       ·refine cW ?_
        refine cpf [157] fm1 (hSh) ?_
        refine dR ?_
        refine bR ((bI.kill _ 11).trans (bI.kill _ 157)) ?_
        refine bE ?_
        refine aB rfl (.bin rfl rfl (bV (by omega))) ?_
        refine cP ?_
        exact kE (j+1) (by omega)
       ·first | cases h145r | exact absurd h145r (by decide)
     ·refine eC ?_
      refine aB rfl (.bin rfl rfl (bV (by omega))) ?_
      refine cP ?_
      exact kE (i+1) (by omega)
    ·refine cW ?_
     refine aK rfl (fun h161r h161=>?_) (fun h161r h161=>?_)
     ·first | exact h161.elim | cases h161r | exact absurd h161r (by decide)
     ·refine eC ?_
      exact bM rfl (.pure rfl)
namespace Zq85
theorem dG {p q:Prop} (k:q) (e:p=q:=by simp only [e1,e2,e3,e4,p1,p2,p3,q1,q2,q3,l1,t0,t1,r1,r2,r3,r4,Nat.zero_add,Nat.reduceMul,Nat.reduceAdd,b1,b2,b3,b4,b5,b6,i1,i2,i3,i4,i5,i6,Nat.reduceBEq,cM,gB,List.length_map,dS,aC gY,gB,gW,bJ,cI,bQ,List.length_cons,List.length_nil,List.nil_append,List.map_nil,List.take_nil,List.append_nil,List.set_cons_zero,List.set_cons_succ,Nat.reduceEqDiff,reduceIte,if_true,if_false,bG,bF,aC fF,aC eI,aC aD,aS,aZ,LV.kill,bB];exact rfl):p:=e.mpr k
end Zq85
open Zq85 in
theorem aIG (U V:Nat) (kU kV:List Rat) (rows:List (List PoR)) (hkU:kOK kU U) (hkV:kOK kV V) (hn:rows.length=kU.length-U-1) (hm:∀ r∈rows,r.length=kV.length-V-1) (hq:∀ r∈rows,∀ q∈r,pY 64 q):aM Tryz.prog 29 [.agg [aE U,aE V,.list 3 (kU.map ratL),.list 3 (kV.map ratL),.list 1 (rows.map cM)]] (iL (pcE U V rows)):=by
 have hsp:LV.pure (.agg [aE U,aE V,.list 3 (kU.map ratL),.list 3 (kV.map ratL),.list 1 (rows.map cM)])=true:=by simp [LV.pure,aY,aH aD,aH gY]
 have hU1:=hkU.d1
 have hU6:=hkU.d6
 have hUl:=hkU.len
 have hUm:=hkU.max
 have hV1:=hkV.d1
 have hV6:=hkV.d6
 have hVl:=hkV.len
 have hVm:=hkV.max
 refine dI Tryz.func29 ?_
 refine cN ?_
 refine cp dC (aBz U V kU kV rows hkU hkV hn hm hq) ?_
 refine dU ?_
 refine bX (b:=_) rfl (rfl) ?_
 refine cO ?_
 refine aP 18 (by decide +kernel) ?_
 refine dR ?_
 refine aB rfl (.bin rfl rfl (bV (by omega))) ?_
 refine cY ?_
 refine dJ 16 rfl (fun h16r h16=>?_) (fun h16r h16=>?_)
 ·refine mV ?_
  first | (rw [tF (by first | omega | (intro e;simp_all;done) | (simp_all;omega))];exact bM rfl (.pure rfl)) | (rw [tL (by first | omega | (intro e;simp_all;done) | (simp_all;omega))];exact bM rfl (.pure rfl)) | (rw [s4 (by first | omega | (simp_all;done)) (by first | omega | (simp_all;done))];exact bM rfl (.pure rfl))
 ·refine dL ?_
  refine aB (aL (v:=false) rfl rfl (h16r) rfl) (.bin rfl rfl (bV (by omega))) ?_
  refine cO ?_
  refine aK rfl (fun h26r h26=>?_) (fun h26r h26=>?_)
  ·refine dL ?_
   first | (rw [tF (by first | omega | (intro e;simp_all;done) | (simp_all;omega))];exact bM rfl (.pure rfl)) | (rw [tL (by first | omega | (intro e;simp_all;done) | (simp_all;omega))];exact bM rfl (.pure rfl)) | (rw [s4 (by first | omega | (simp_all;done)) (by first | omega | (simp_all;done))];exact bM rfl (.pure rfl))
  ·refine eC ?_
   first | (rw [tF (by first | omega | (intro e;simp_all;done) | (simp_all;omega))];exact bM rfl (.pure rfl)) | (rw [tL (by first | omega | (intro e;simp_all;done) | (simp_all;omega))];exact bM rfl (.pure rfl)) | (rw [s4 (by first | omega | (simp_all;done)) (by first | omega | (simp_all;done))];exact bM rfl (.pure rfl))
namespace Zq26
theorem dG {p q:Prop} (k:q) (e:p=q:=by simp only [e1,e2,e3,e4,p1,p2,p3,q1,q2,q3,l1,t0,t1,r1,r2,r3,r4,Nat.zero_add,Nat.reduceMul,Nat.reduceAdd,b1,b2,b3,b4,b5,b6,i1,i2,i3,i4,i5,i6,Nat.reduceBEq,cM,gB,List.length_map,dS,aC gY,gB,gW,bJ,cI,bQ,List.length_cons,List.length_nil,List.nil_append,List.map_nil,List.take_nil,List.append_nil,List.set_cons_zero,List.set_cons_succ,Nat.reduceEqDiff,reduceIte,if_true,if_false,bG,bF,aC fF,aC eI,aC aD,aS,aZ,LV.kill,bB];exact rfl):p:=e.mpr k
end Zq26
open Zq26 in
theorem aFC (U V:Nat) (kU kV:List Rat) (rows:List (List PoR)) (hkU:kOK kU U) (hkV:kOK kV V) (hn:rows.length=kU.length-U-1) (hm:∀ r∈rows,r.length=kV.length-V-1) (hq:∀ r∈rows,∀ q∈r,pY 64 q):aM Tryz.prog 30 [.agg [aE U,aE V,.list 3 (kU.map ratL),.list 3 (kV.map ratL),.list 1 (rows.map cM)]] (iL (pcE U V rows)):=by
 have hsp:LV.pure (.agg [aE U,aE V,.list 3 (kU.map ratL),.list 3 (kV.map ratL),.list 1 (rows.map cM)])=true:=by simp [LV.pure,aY,aH aD,aH gY]
 have hU1:=hkU.d1
 have hU6:=hkU.d6
 have hUl:=hkU.len
 have hUm:=hkU.max
 have hV1:=hkV.d1
 have hV6:=hkV.d6
 have hVl:=hkV.len
 have hVm:=hkV.max
 refine dI Tryz.func30 ?_
 refine cN ?_
 refine cp dC (aHS U V kU kV rows hkU hkV hn hm hq) ?_
 refine dU ?_
 refine bX (b:=_) rfl (rfl) ?_
 refine cO ?_
 refine aP 18 (by decide +kernel) ?_
 refine dR ?_
 refine aB rfl (.bin rfl rfl (bV (by omega))) ?_
 refine cY ?_
 refine dJ 16 rfl (fun h16r h16=>?_) (fun h16r h16=>?_)
 ·refine mV ?_
  first | (rw [tF (by first | omega | (intro e;simp_all;done) | (simp_all;omega))];exact bM rfl (.pure rfl)) | (rw [tL (by first | omega | (intro e;simp_all;done) | (simp_all;omega))];exact bM rfl (.pure rfl)) | (rw [s4 (by first | omega | (simp_all;done)) (by first | omega | (simp_all;done))];exact bM rfl (.pure rfl))
 ·refine dL ?_
  refine aB (aL (v:=false) rfl rfl (h16r) rfl) (.bin rfl rfl (bV (by omega))) ?_
  refine cO ?_
  refine aK rfl (fun h26r h26=>?_) (fun h26r h26=>?_)
  ·refine dL ?_
   first | (rw [tF (by first | omega | (intro e;simp_all;done) | (simp_all;omega))];exact bM rfl (.pure rfl)) | (rw [tL (by first | omega | (intro e;simp_all;done) | (simp_all;omega))];exact bM rfl (.pure rfl)) | (rw [s4 (by first | omega | (simp_all;done)) (by first | omega | (simp_all;done))];exact bM rfl (.pure rfl))
  ·refine eC ?_
   first | (rw [tF (by first | omega | (intro e;simp_all;done) | (simp_all;omega))];exact bM rfl (.pure rfl)) | (rw [tL (by first | omega | (intro e;simp_all;done) | (simp_all;omega))];exact bM rfl (.pure rfl)) | (rw [s4 (by first | omega | (simp_all;done)) (by first | omega | (simp_all;done))];exact bM rfl (.pure rfl))
def uY (l:List PoR):Bool:=l.all fun q=>l6 q.p (l.getD 0 default).p
def kO (rows:List (List PoR)) (j:Nat):List PoR:=rows.map fun r=>r.getD j default
theorem aHA (p q:V3):l6 p q=l6 q p:=by
 by_cases h:p=q
 ·subst h;rfl
 ·have h1:l6 p q=false:=by rw [←Bool.not_eq_true,uW];exact h
  have h2:l6 q p=false:=by rw [←Bool.not_eq_true,uW];exact fun e=>h e.symm
  rw [h1,h2]
theorem aLa (p:V3):l6 p p=true:=uW.2 rfl
theorem gF (rows:List (List PoR)) (j:Nat):(kO rows j).length=rows.length:=by simp [kO]
theorem u4 {R j V:Nat} {rows:List (List PoR)} (h:∀ r∈rows,∀ q∈r,pY R q) (hm:∀ r∈rows,r.length=V+1) (hj:j<V+1):∀ q∈kO rows j,pY R q:=fun q hq=>by
 obtain⟨r,hr,rfl⟩:=List.mem_map.1 hq
 exact h r hr _ (fY (by rw [hm r hr];exact hj))
theorem y7 {rows:List (List PoR)} {j i:Nat} (h:i<rows.length):(kO rows j).take i++[(rows.getD i []).getD j default]=(kO rows j).take (i+1):=by
 have h2:i<(kO rows j).length:=by rw [gF];exact h
 rw [List.take_succ_eq_append_getElem h2]
 congr 2
 simp [kO,List.getD_eq_getElem?_getD,List.getElem?_eq_getElem h]
namespace Zq141
theorem dG {p q:Prop} (k:q) (e:p=q:=by simp only [e1,e2,e3,e4,p1,p2,p3,q1,q2,q3,l1,t0,t1,r1,r2,r3,r4,Nat.zero_add,Nat.reduceMul,Nat.reduceAdd,b1,b2,b3,b4,b5,b6,i1,i2,i3,i4,i5,i6,Nat.reduceBEq,gW,eij,List.set_cons_zero,List.set_cons_succ,Nat.reduceEqDiff,reduceIte,if_true,if_false,bG,bF,aC fF,aC eI,aC aD,aS,aZ,LV.kill,bB];exact rfl):p:=e.mpr k
end Zq141
open Zq141 in
theorem aDD (l:List PoR) (h0:0<l.length) (hl:l.length≤1000) (hq:∀ q∈l,pY 1000000 q):aM Tryz.prog 94 [.list 12 (l.map gZ)] (bL (uY l)):=by
 refine dI Tryz.func94 ?_
 have eij:True:=trivial
 refine gC ?_
 refine lX (fun(i:Nat) L=>(((((St.mk L.slot (hp [])).put (some 0) (.list 12 (l.map gZ))).put (some 5) (.list 12 (l.map gZ))).put (some 6) (aE l.length)).put (some 7) (aE i))) (fun i=>i≤l.length∧∀ j,j<i→l6 (l.getD j default).p (l.getD 0 default).p=true) (fun i=>l.length-i) 0 ⟨Nat.zero_le _,fun j hj=>absurd hj (Nat.not_lt_zero j)⟩ ?_
 rintro i L1 ⟨hi,hs⟩
 refine dB ?_
 refine aK rfl (fun h8r h8=>?_) (fun h8r h8=>?_)
 ·have hi2:i<l.length:=by omega
  obtain⟨o1,_,_⟩:=hq _ (fY hi2)
  obtain⟨z1,_,_⟩:=hq _ (fY h0)
  refine eA ?_
  refine aP 8 (by decide +kernel) ?_
  refine dB ?_
  refine cp b9 (aD8 (l.getD i default).p (l.getD 0 default).p ⟨Nat.le_trans o1.1 (by decide),Nat.le_trans o1.2.1 (by decide),Nat.le_trans o1.2.2 (by decide)⟩ ⟨Nat.le_trans z1.1 (by decide),Nat.le_trans z1.2.1 (by decide),Nat.le_trans z1.2.2 (by decide)⟩) ?_
  refine cP ?_
  refine aK rfl (fun h18r h18=>?_) (fun h18r h18=>?_)
  ·have hV:uY l=false:=aDa (f:=fun q:PoR=>l6 q.p (l.getD 0 default).p) (l:=l) hi2 (by first | exact h17 | simpa using h18 | simpa using h18r)
   refine cV ?_
   rw [hV]
   exact bM rfl (.pure rfl)
  ·have hn:∀ j,j<i+1→l6 (l.getD j default).p (l.getD 0 default).p=true:=fun j hj=>by
    rcases Nat.lt_succ_iff_lt_or_eq.1 hj with e | rfl
    ·exact hs j e
    ·first | simpa using h18 | simpa using h18r
   refine cP ?_
   refine bR (bI.kill _ 4) ?_
   refine aB rfl (.bin rfl rfl (bV (by omega))) ?_
   refine cP ?_
   exact kE (i+1) ⟨by omega,hn⟩
 ·obtain rfl:i=l.length:=by omega
  have hV:uY l=true:=aCW (f:=fun q:PoR=>l6 q.p (l.getD 0 default).p) (l:=l) hs
  refine gC ?_
  refine bM (x:=bL (decide ((l.length:Int) > 0))) rfl ?_
  have hz:decide ((l.length:Int) > 0)=true:=decide_eq_true (by omega)
  rw [hz,hV]
  exact .pure rfl
namespace Zq56
theorem dG {p q:Prop} (k:q) (e:p=q:=by simp only [e1,e2,e3,e4,p1,p2,p3,q1,q2,q3,l1,t0,t1,r1,r2,r3,r4,Nat.zero_add,Nat.reduceMul,Nat.reduceAdd,b1,b2,b3,b4,b5,b6,i1,i2,i3,i4,i5,i6,Nat.reduceBEq,gW,List.set_cons_zero,List.set_cons_succ,Nat.reduceEqDiff,reduceIte,if_true,if_false,bG,bF,aC fF,aC eI,aC aD,aS,aZ,LV.kill,bB];exact rfl):p:=e.mpr k
end Zq56
open Zq56 in
theorem aAz (l:List PoR) (h0:0<l.length) (hl:l.length≤1000) (hq:∀ q∈l,pY 1000000 q):aM Tryz.prog 97 [.list 12 (l.map gZ)] (bL (uY l)):=by
 refine dI Tryz.func97 ?_
 refine cW ?_
 refine lX (fun(i:Nat) L=>(((St.mk L.slot (hp [])).put (some 0) (.list 12 (l.map gZ))).put (some 3) (aE (i+1)))) (fun i=>i+1≤l.length∧∀ j,j<i+1→l6 (l.getD j default).p (l.getD 0 default).p=true) (fun i=>l.length-i) 0 ⟨h0,fun j hj=>by(obtain rfl:j=0:=(by omega));exact aLa _⟩ ?_
 rintro i L1 ⟨hi,hs⟩
 refine dU ?_
 refine aK rfl (fun h7r h7=>?_) (fun h7r h7=>?_)
 ·have hi2:i+1<l.length:=by omega
  obtain⟨o1,_,_⟩:=hq _ (fY hi2)
  obtain⟨z1,_,_⟩:=hq _ (fY h0)
  refine dR ?_
  refine aP 11 (by decide +kernel) ?_
  refine dU ?_
  refine cp b9 (aEk (l.getD 0 default).p (l.getD (i+1) default).p ⟨Nat.le_trans z1.1 (by decide),Nat.le_trans z1.2.1 (by decide),Nat.le_trans z1.2.2 (by decide)⟩ ⟨Nat.le_trans o1.1 (by decide),Nat.le_trans o1.2.1 (by decide),Nat.le_trans o1.2.2 (by decide)⟩) ?_
  refine cP ?_
  refine aK rfl (fun h20r h20=>?_) (fun h20r h20=>?_)
  ·have hV:uY l=false:=aDa (f:=fun q:PoR=>l6 q.p (l.getD 0 default).p) (l:=l) hi2 (by show l6 _ _=false;rw [aHA];first | simpa using h20 | simpa using h20r)
   refine cV ?_
   rw [hV]
   exact bM rfl (.pure rfl)
  ·have hn:∀ j,j<(i+1)+1→l6 (l.getD j default).p (l.getD 0 default).p=true:=fun j hj=>by
    rcases Nat.lt_succ_iff_lt_or_eq.1 hj with e | rfl
    ·exact hs j e
    ·rw [aHA];first | simpa using h20 | simpa using h20r
   refine dR ?_
   refine aB rfl (.bin rfl rfl (bV (by omega))) ?_
   refine cP ?_
   exact kE (i+1) ⟨by omega,hn⟩
 ·obtain e:i+1=l.length:=by omega
  have hV:uY l=true:=aCW (f:=fun q:PoR=>l6 q.p (l.getD 0 default).p) (l:=l) (by rw [←e];exact hs)
  refine cV ?_
  rw [hV]
  exact bM rfl (.pure rfl)
namespace Zq125
theorem dG {p q:Prop} (k:q) (e:p=q:=by simp only [e1,e2,e3,e4,p1,p2,p3,q1,q2,q3,l1,t0,t1,r1,r2,r3,r4,Nat.zero_add,Nat.reduceMul,Nat.reduceAdd,b1,b2,b3,b4,b5,b6,i1,i2,i3,i4,i5,i6,Nat.reduceBEq,cM,gB,gW,aDp,erl,Int.toNat_natCast,dS,aC gY,gB,gW,bJ,cI,bQ,List.length_cons,List.length_nil,List.nil_append,List.map_nil,List.take_nil,List.append_nil,List.set_cons_zero,List.set_cons_succ,Nat.reduceEqDiff,reduceIte,if_true,if_false,bG,bF,aC fF,aC eI,aC aD,aS,aZ,LV.kill,bB];exact rfl):p:=e.mpr k
end Zq125
open Zq125 in
theorem aIz (U V:Nat) (kU kV:List Rat) (rows:List (List PoR)) (h0:0<rows.length) (hn:rows.length≤1000) (hV:V≤1000) (hm:∀ r∈rows,r.length=V+1):aM Tryz.prog 96 [bL false,.boxp (.agg [aE U,aE V,.list 3 (kU.map ratL),.list 3 (kV.map ratL),.list 1 (rows.map cM)])] (.list 12 ((kO rows 0).map gZ)):=by
 have hsp:LV.pure (.agg [aE U,aE V,.list 3 (kU.map ratL),.list 3 (kV.map ratL),.list 1 (rows.map cM)])=true:=by simp [LV.pure,aY,aH aD,aH gY]
 have hcl:=gF rows 0
 have hpw:=aH gY rows
 refine dI Tryz.func96 (ht:=(fun g=>LV.ren_pure g _ (aG eI 12 _))) ?_
 have erl:True:=trivial
 refine mV ?_
 refine eZ (bI.own (t:=4) 28 12 rfl rfl) ?_
 refine nD (fun(i:Nat) (c:List PoR) L=>(((((((St.mk L.slot (hp [(28,⟨12,c.map gZ,true⟩)])).put (some 0) (bL false)).put (some 1) (.boxp (.agg [aE U,aE V,.list 3 (kU.map ratL),.list 3 (kV.map ratL),.list 1 (rows.map cM)]))).put (some 4) (.ref 28 12 0 c.length)).put (some 9) (.list 1 (rows.map cM))).put (some 10) (aE rows.length)).put (some 11) (aE i))) (fun i c=>i≤rows.length∧c.length=i∧c=(kO rows 0).take i) (fun i c=>rows.length-i) 0 ([]) ⟨Nat.zero_le _,rfl,rfl⟩ ?_
 rintro i c L1 ⟨hi,hcl2,hct⟩
 refine dB ?_
 refine aK rfl (fun h12r h12=>?_) (fun h12r h12=>?_)
 ·have hi2:i<rows.length:=by omega
  have hrm:=dZ hi2
  have hrl:=hm _ hrm
  have erl:(rows.getD i []).length-1=V:=by omega
  refine mZ ?_
  refine aK rfl (fun h17r h17=>?_) (fun h17r h17=>?_)
  ·omega
  ·refine eA ?_
   refine aK rfl (fun h18r h18=>?_) (fun h18r h18=>?_)
   ·first | cases h18r | exact absurd h18r (by decide)
   ·refine dU ?_
    refine bD rfl (.appX (d:=28) (news:=[gZ ((rows.getD i []).getD 0 default)]) rfl rfl rfl rfl (by simp) (.inl rfl) (by decide) Tryz.underlying60 Tryz.underlying60 Z62 uC cs B62 (.inl ⟨27,0,_,rfl,by decide,rfl,rfl,by simp,rfl,by simp [aY,eI.pure]⟩) (by simp;omega) (by simp;omega) (by decide)) ?_
    refine cO ?_
    refine bR (bI.kill _ 27) ?_
    refine aB rfl (.bin rfl rfl (bV (by omega))) ?_
    refine cP ?_
    exact lI (i+1) (c++[((rows.getD i []).getD 0 default)]) ⟨by omega,by simp;omega,by rw [hct];exact y7 hi2⟩
 ·obtain rfl:i=rows.length:=by omega
  have hE:c=(kO rows 0):=by rw [hct];exact List.take_of_length_le (by rw [gF];exact Nat.le_refl _)
  subst hE
  refine cW ?_
  exact kP [28] rfl rfl (cA eI rfl rfl (by rw [gF]))
namespace Zq126
theorem dG {p q:Prop} (k:q) (e:p=q:=by simp only [e1,e2,e3,e4,p1,p2,p3,q1,q2,q3,l1,t0,t1,r1,r2,r3,r4,Nat.zero_add,Nat.reduceMul,Nat.reduceAdd,b1,b2,b3,b4,b5,b6,i1,i2,i3,i4,i5,i6,Nat.reduceBEq,cM,gB,gW,aDp,erl,Int.toNat_natCast,dS,aC gY,gB,gW,bJ,cI,bQ,List.length_cons,List.length_nil,List.nil_append,List.map_nil,List.take_nil,List.append_nil,List.set_cons_zero,List.set_cons_succ,Nat.reduceEqDiff,reduceIte,if_true,if_false,bG,bF,aC fF,aC eI,aC aD,aS,aZ,LV.kill,bB];exact rfl):p:=e.mpr k
end Zq126
open Zq126 in
theorem aIk (U V:Nat) (kU kV:List Rat) (rows:List (List PoR)) (h0:0<rows.length) (hn:rows.length≤1000) (hV:V≤1000) (hm:∀ r∈rows,r.length=V+1):aM Tryz.prog 96 [bL true,.boxp (.agg [aE U,aE V,.list 3 (kU.map ratL),.list 3 (kV.map ratL),.list 1 (rows.map cM)])] (.list 12 ((kO rows V).map gZ)):=by
 have hsp:LV.pure (.agg [aE U,aE V,.list 3 (kU.map ratL),.list 3 (kV.map ratL),.list 1 (rows.map cM)])=true:=by simp [LV.pure,aY,aH aD,aH gY]
 have hcl:=gF rows V
 have hpw:=aH gY rows
 refine dI Tryz.func96 (ht:=(fun g=>LV.ren_pure g _ (aG eI 12 _))) ?_
 have erl:True:=trivial
 refine mV ?_
 refine eZ (bI.own (t:=4) 28 12 rfl rfl) ?_
 refine nD (fun(i:Nat) (c:List PoR) L=>(((((((St.mk L.slot (hp [(28,⟨12,c.map gZ,true⟩)])).put (some 0) (bL true)).put (some 1) (.boxp (.agg [aE U,aE V,.list 3 (kU.map ratL),.list 3 (kV.map ratL),.list 1 (rows.map cM)]))).put (some 4) (.ref 28 12 0 c.length)).put (some 9) (.list 1 (rows.map cM))).put (some 10) (aE rows.length)).put (some 11) (aE i))) (fun i c=>i≤rows.length∧c.length=i∧c=(kO rows V).take i) (fun i c=>rows.length-i) 0 ([]) ⟨Nat.zero_le _,rfl,rfl⟩ ?_
 rintro i c L1 ⟨hi,hcl2,hct⟩
 refine dB ?_
 refine aK rfl (fun h12r h12=>?_) (fun h12r h12=>?_)
 ·have hi2:i<rows.length:=by omega
  have hrm:=dZ hi2
  have hrl:=hm _ hrm
  have erl:(rows.getD i []).length-1=V:=by omega
  refine mZ ?_
  refine aK rfl (fun h17r h17=>?_) (fun h17r h17=>?_)
  ·omega
  ·refine eA ?_
   refine aK rfl (fun h18r h18=>?_) (fun h18r h18=>?_)
   ·refine cP ?_
    refine aB rfl (.bin rfl rfl ((iG (by omega) (by omega)))) ?_
    refine cN ?_
    refine bD rfl (.appX (d:=28) (news:=[gZ ((rows.getD i []).getD V default)]) rfl rfl rfl rfl (by simp) (.inl rfl) (by decide) Tryz.underlying60 Tryz.underlying60 Z62 uC cs B62 (.inl ⟨27,0,_,rfl,by decide,rfl,rfl,by simp,rfl,by simp [aY,eI.pure]⟩) (by simp;omega) (by simp;omega) (by decide)) ?_
    refine cO ?_
    refine bR (bI.kill _ 27) ?_
    refine aB rfl (.bin rfl rfl (bV (by omega))) ?_
    refine cP ?_
    exact lI (i+1) (c++[((rows.getD i []).getD V default)]) ⟨by omega,by simp;omega,by rw [hct];exact y7 hi2⟩
   ·first | cases h18r | exact absurd h18r (by decide)
 ·obtain rfl:i=rows.length:=by omega
  have hE:c=(kO rows V):=by rw [hct];exact List.take_of_length_le (by rw [gF];exact Nat.le_refl _)
  subst hE
  refine cW ?_
  exact kP [28] rfl rfl (cA eI rfl rfl (by rw [gF]))
namespace Zq92
theorem dG {p q:Prop} (k:q) (e:p=q:=by simp only [e1,e2,e3,e4,p1,p2,p3,q1,q2,q3,l1,t0,t1,r1,r2,r3,r4,Nat.zero_add,Nat.reduceMul,Nat.reduceAdd,b1,b2,b3,b4,b5,b6,i1,i2,i3,i4,i5,i6,Nat.reduceBEq,cM,gB,gW,hn1,Int.toNat_natCast,List.length_map,fW,dS,aC gY,gB,gW,bJ,cI,bQ,List.length_cons,List.length_nil,List.nil_append,List.map_nil,List.take_nil,List.append_nil,List.set_cons_zero,List.set_cons_succ,Nat.reduceEqDiff,reduceIte,if_true,if_false,bG,bF,aC fF,aC eI,aC aD,aS,aZ,LV.kill,bB];exact rfl):p:=e.mpr k
end Zq92
open Zq92 in
theorem aHQ (R U V:Nat) (kU kV:List Rat) (rows:List (List PoR)) (h:pf R U V rows) (hR:R≤200000) (hku:kU.length≤100) (hkv:kV.length≤100):aM Tryz.prog 35 [.agg [aE U,aE V,.list 3 (kU.map ratL),.list 3 (kV.map ratL),.list 1 (rows.map cM)]] (.agg [bL (uY (rows.getD 0 [])),bL (uY (rows.getD U [])),bL (uY (kO rows 0)),bL (uY (kO rows V))]):=by
 have hsp:LV.pure (.agg [aE U,aE V,.list 3 (kU.map ratL),.list 3 (kV.map ratL),.list 1 (rows.map cM)])=true:=by simp [LV.pure,aY,aH aD,aH gY]
 have hn:=h.n
 have hm:=h.m
 have hu3:=h.u3
 have hv3:=h.v3
 have hv1:=h.v1
 have hrb:∀ j,j<rows.length→0<(rows.getD j []).length∧(rows.getD j []).length≤1000:=fun j hj=>by have:=hm _ (dZ hj);omega
 have hA:aM Tryz.prog 94 [cM (rows.getD 0 [])] (bL (uY (rows.getD 0 []))):=aDD _ (hrb 0 (by omega)).1 (hrb 0 (by omega)).2 (fun q hx=>(h.ok _ (dZ (by omega)) q hx).le (by omega))
 have hB:aM Tryz.prog 94 [cM (rows.getD U [])] (bL (uY (rows.getD U []))):=aDD _ (hrb U (by omega)).1 (hrb U (by omega)).2 (fun q hx=>(h.ok _ (dZ (by omega)) q hx).le (by omega))
 have hC:aM Tryz.prog 94 [.list 12 ((kO rows 0).map gZ)] (bL (uY (kO rows 0))):=aDD _ (by rw [gF];omega) (by rw [gF];omega) (fun q hx=>(u4 h.ok hm (by omega) q hx).le (by omega))
 have hD:aM Tryz.prog 94 [.list 12 ((kO rows V).map gZ)] (bL (uY (kO rows V))):=aDD _ (by rw [gF];omega) (by rw [gF];omega) (fun q hx=>(u4 h.ok hm (by omega) q hx).le (by omega))
 have hn1:rows.length-1=U:=by omega
 have hpw:=aH gY rows
 have hbp:aY [.boxp (.agg [aE U,aE V,.list 3 (kU.map ratL),.list 3 (kV.map ratL),.list 1 (rows.map cM)])]=true:=by simp [aY,LV.pure,aH aD,aH gY]
 have hE:=aIz U V kU kV rows (by omega) (by omega) (by omega) hm
 have hF:=aIk U V kU kV rows (by omega) (by omega) (by omega) hm
 refine dI Tryz.func35 (ht:=(fun g=>rfl)) ?_
 refine mV ?_
 refine bX (b:=_) rfl (beq_eq_false_iff_ne.2 (by first | omega | (simp only [List.length_map];omega))) ?_
 refine dU ?_
 refine eP [1] rfl rfl (.mk (caps:=[.boxp (.agg [aE U,aE V,.list 3 (kU.map ratL),.list 3 (kV.map ratL),.list 1 (rows.map cM)])]) (.cons (.eptr rfl rfl rfl cs (dN cs rfl) hsp rfl) .nil) (fun x hx=>by rw [List.mem_singleton.1 hx];exact⟨rfl,rfl⟩)) rfl ?_
 refine cO ?_
 refine aP 25 (by decide +kernel) ?_
 refine dR ?_
 refine dG ?_
 refine eP [] rfl rfl (.clo (f:=94) (cap:=[]) (args:=[cM (rows.getD 0 [])]) rfl (.cons (.pure (aG eI 12 _)) .nil) ⟨rfl,fun _ h=>by cases h⟩ hA.1 (by decide) (fun _ h=>by cases h)) (hA.2 _) ?_
 refine dB ?_
 refine aB rfl (.bin rfl rfl ((iG (by omega) (by omega)))) ?_
 refine cY ?_
 refine dG ?_
 refine eP [] rfl rfl (.clo (f:=94) (cap:=[]) (args:=[cM (rows.getD U [])]) rfl (.cons (.pure (aG eI 12 _)) .nil) ⟨rfl,fun _ h=>by cases h⟩ hB.1 (by decide) (fun _ h=>by cases h)) (hB.2 _) ?_
 refine cY ?_
 refine dG ?_
 refine eP [] rfl rfl (.clo (f:=96) (cap:=[.boxp (.agg [aE U,aE V,.list 3 (kU.map ratL),.list 3 (kV.map ratL),.list 1 (rows.map cM)])]) (args:=[bL false]) rfl (.cons (.pure rfl) .nil) ⟨hbp,fun x hx=>by rw [List.mem_singleton.1 hx];exact⟨rfl,rfl⟩⟩ hE.1 (by decide) (fun _ h=>by cases h)) (hE.2 _) ?_
 refine dG ?_
 refine eP [] rfl rfl (.clo (f:=94) (cap:=[]) (args:=[.list 12 ((kO rows 0).map gZ)]) rfl (.cons (.pure (aG eI 12 _)) .nil) ⟨rfl,fun _ h=>by cases h⟩ hC.1 (by decide) (fun _ h=>by cases h)) (hC.2 _) ?_
 refine cY ?_
 refine dG ?_
 refine eP [] rfl rfl (.clo (f:=96) (cap:=[.boxp (.agg [aE U,aE V,.list 3 (kU.map ratL),.list 3 (kV.map ratL),.list 1 (rows.map cM)])]) (args:=[bL true]) rfl (.cons (.pure rfl) .nil) ⟨hbp,fun x hx=>by rw [List.mem_singleton.1 hx];exact⟨rfl,rfl⟩⟩ hF.1 (by decide) (fun _ h=>by cases h)) (hF.2 _) ?_
 refine dG ?_
 refine eP [] rfl rfl (.clo (f:=94) (cap:=[]) (args:=[.list 12 ((kO rows V).map gZ)]) rfl (.cons (.pure (aG eI 12 _)) .nil) ⟨rfl,fun _ h=>by cases h⟩ hD.1 (by decide) (fun _ h=>by cases h)) (hD.2 _) ?_
 refine dR ?_
 exact dQ [] rfl rfl rfl cs (dN cs rfl) T76 (.pure rfl)
namespace Zq30
theorem dG {p q:Prop} (k:q) (e:p=q:=by simp only [e1,e2,e3,e4,p1,p2,p3,q1,q2,q3,l1,t0,t1,r1,r2,r3,r4,Nat.zero_add,Nat.reduceMul,Nat.reduceAdd,b1,b2,b3,b4,b5,b6,i1,i2,i3,i4,i5,i6,Nat.reduceBEq,cM,gB,gW,Int.toNat_natCast,List.length_map,fW,dS,aC gY,gB,gW,bJ,cI,bQ,List.length_cons,List.length_nil,List.nil_append,List.map_nil,List.take_nil,List.append_nil,List.set_cons_zero,List.set_cons_succ,Nat.reduceEqDiff,reduceIte,if_true,if_false,bG,bF,aC fF,aC eI,aC aD,aS,aZ,LV.kill,bB];exact rfl):p:=e.mpr k
end Zq30
open Zq30 in
theorem aEB (R U V:Nat) (kU kV:List Rat) (rows:List (List PoR)) (h:pf R U V rows) (hR:R≤200000) (hku:kU.length≤100) (hkv:kV.length≤100):aM Tryz.prog 36 [.agg [aE U,aE V,.list 3 (kU.map ratL),.list 3 (kV.map ratL),.list 1 (rows.map cM)]] (.agg [bL (uY (rows.getD 0 [])),bL (uY (rows.getD U [])),bL (uY (kO rows 0)),bL (uY (kO rows V))]):=by
 have hsp:LV.pure (.agg [aE U,aE V,.list 3 (kU.map ratL),.list 3 (kV.map ratL),.list 1 (rows.map cM)])=true:=by simp [LV.pure,aY,aH aD,aH gY]
 have hn:=h.n
 have hm:=h.m
 have hu3:=h.u3
 have hv3:=h.v3
 have hv1:=h.v1
 have hrb:∀ j,j<rows.length→0<(rows.getD j []).length∧(rows.getD j []).length≤1000:=fun j hj=>by have:=hm _ (dZ hj);omega
 have hA:aM Tryz.prog 97 [cM (rows.getD 0 [])] (bL (uY (rows.getD 0 []))):=aAz _ (hrb 0 (by omega)).1 (hrb 0 (by omega)).2 (fun q hx=>(h.ok _ (dZ (by omega)) q hx).le (by omega))
 have hB:aM Tryz.prog 97 [cM (rows.getD U [])] (bL (uY (rows.getD U []))):=aAz _ (hrb U (by omega)).1 (hrb U (by omega)).2 (fun q hx=>(h.ok _ (dZ (by omega)) q hx).le (by omega))
 have hC:aM Tryz.prog 97 [.list 12 ((kO rows 0).map gZ)] (bL (uY (kO rows 0))):=aAz _ (by rw [gF];omega) (by rw [gF];omega) (fun q hx=>(u4 h.ok hm (by omega) q hx).le (by omega))
 have hD:aM Tryz.prog 97 [.list 12 ((kO rows V).map gZ)] (bL (uY (kO rows V))):=aAz _ (by rw [gF];omega) (by rw [gF];omega) (fun q hx=>(u4 h.ok hm (by omega) q hx).le (by omega))
 have hn1:rows.length-1=U:=by omega
 have hpw:=aH gY rows
 have hC2:aM Tryz.prog 97 [cM ((swR V rows).getD 0 [])] (bL (uY (kO rows 0))):=by rw [aBP rows (by omega)];exact hC
 have hD2:aM Tryz.prog 97 [cM ((swR V rows).getD V [])] (bL (uY (kO rows V))):=by rw [aBP rows (by omega)];exact hD
 have hsl:=aAt V rows
 refine dI Tryz.func36 (ht:=(fun g=>rfl)) ?_
 refine dU ?_
 refine cp dC (aJi R U V kU kV rows h hku hkv) ?_
 refine dR ?_
 refine aP 25 (by decide +kernel) ?_
 refine cO ?_
 refine dG ?_
 refine cp dC (hA) ?_
 refine dB ?_
 refine dG ?_
 refine cp dC (hB) ?_
 refine cO ?_
 refine dG ?_
 refine cp dC (hC2) ?_
 refine dB ?_
 refine dG ?_
 refine cp dC (hD2) ?_
 refine dR ?_
 exact dQ [] rfl rfl rfl cs (dN cs rfl) T76 (.pure rfl)
end Go.Proofs.YtfpdccbgngdhkaaGreat
end
