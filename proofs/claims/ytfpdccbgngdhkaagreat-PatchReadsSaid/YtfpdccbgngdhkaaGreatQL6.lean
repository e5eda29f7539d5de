/- Texts K26, LgT, Y1, T1, T2, T3, T6, T7, T8, T9, T15, T16, Y2, Y3, Y0, Y4, Y5 of this proof, joined. -/
import Derived.Test.YtfpdccbgngdhkaaGreatQL5
set_option linter.unusedVariables false
set_option linter.unusedSimpArgs false
section
set_option linter.unusedVariables false
set_option linter.unusedSimpArgs false
set_option maxHeartbeats 8000000
set_option maxRecDepth 100000
attribute [local irreducible] Go.Lg.opsL Go.Lg.wpL Go.Lg.thenL Go.Lg.blockL
namespace Go.Proofs.YtfpdccbgngdhkaaGreat
open Go.Lg
def uB (l:List Int) (j:Nat):Rat:=((1+lG l j 3:Int):Rat)/((1+lG l (iM l j) 2:Int):Rat)
def kT (l:List Int) (d:Nat) (k:List Rat) (j:Nat):Nat:=if k.length=d+1 then j else iM l j
def ksB (l:List Int) (d:Nat) (k:List Rat) (t:Rat) (j:Nat):Prop:=k.length=d+1∨0<lG l j 3∨t=k.getD (k.length-d) 0
instance (l:List Int) (d:Nat) (k:List Rat) (t:Rat) (j:Nat):Decidable (ksB l d k t j):=by unfold ksB;infer_instance
def kiV (l:List Int) (d:Nat):Nat→List Rat→Rat→Nat→List Rat × Rat × Nat
 | 0,k,t,j=>(k,t,j)
 | n+1,k,t,j=>if ksB l d k t j then kiV l d n (k++[t+uB l (kT l d k j)]) (t+uB l (kT l d k j)) (iM l (iM l (kT l d k j))) else kiV l d n (k++[t]) t (kT l d k j)
theorem wN (l:List Int) (j:Nat):0<uB l j∧rl (uB l j)≤2:=by
 have h1:=iO (l:=l) (k:=j) (n:=3) (by decide)
 have h2:=iO (l:=l) (k:=iM l j) (n:=2) (by decide)
 have r1:rl ((1+lG l j 3:Int):Rat)≤1:=lN (by omega)
 have r2:rl ((1+lG l (iM l j) 2:Int):Rat)≤1:=lN (by omega)
 have r3:=pQ ((1+lG l j 3:Int):Rat) ((1+lG l (iM l j) 2:Int):Rat)
 refine⟨?_,by unfold uB;omega⟩
 unfold uB
 rw [Rat.div_def]
 exact Rat.mul_pos (Rat.intCast_pos.2 (by omega)) (Rat.inv_pos.2 (Rat.intCast_pos.2 (by omega)))
theorem aNm (l:List Int) {d n:Nat} {T:Rat} (hd:1≤d) (hn:n≤2) (hT:rl T≤1) (j:Nat) :
  ∃ inn t j',kiV l d n (List.replicate (d+1) T) T j=(List.replicate (d+1) T++inn,t,j')∧inn.length=n∧inOK d T inn (t+1)∧rl t≤7∧T<t+1:=by
 have hr1:rl 1=1:=rfl
 match n,hn with
 | 0,_ =>
  refine⟨[],T,j,by rw [List.append_nil];rfl,rfl,⟨fun x hx=>(by cases hx),fun i hi=>(by simp at hi),fun x hx=>(by cases hx),by decide,fun x hx=>(by cases hx)⟩,by omega,by grind⟩
 | 1,_ =>
  have hF:=wN l (kT l d (List.replicate (d+1) T) j)
  have hb:ksB l d (List.replicate (d+1) T) T j:=.inl (by simp)
  refine⟨[T+uB l (kT l d (List.replicate (d+1) T) j)],T+uB l (kT l d (List.replicate (d+1) T) j),iM l (iM l (kT l d (List.replicate (d+1) T) j)),by rw [kiV,if_pos hb,kiV],rfl,?_,?_,?_⟩
  ·generalize uB l _=f at hF
   have:=gD T f
   refine⟨fun x hx=>?_,fun i hi=>(by simp at hi),fun x hx=>?_,by simp,fun x hx=>?_⟩
   ·rw [List.mem_singleton.1 hx];constructor<;>grind
   ·show lT _ x 1≤d
    have:=v7 [T+f] x 1
    omega
   ·rw [List.mem_singleton.1 hx];omega
  ·have:=gD T (uB l (kT l d (List.replicate (d+1) T) j));omega
  ·grind
 | 2,_ =>
  have hb:ksB l d (List.replicate (d+1) T) T j:=.inl (by simp)
  have hF:=wN l (kT l d (List.replicate (d+1) T) j)
  rw [kiV,if_pos hb]
  generalize iM l (iM l (kT l d (List.replicate (d+1) T) j))=j1
  generalize uB l (kT l d (List.replicate (d+1) T) j)=f at *
  have a1:=gD T f
  rw [kiV]
  by_cases hb2:ksB l d (List.replicate (d+1) T++[T+f]) (T+f) j1
  ·rw [if_pos hb2,kiV]
   have hG:=wN l (kT l d (List.replicate (d+1) T++[T+f]) j1)
   generalize iM l (iM l (kT l d (List.replicate (d+1) T++[T+f]) j1))=j2
   generalize uB l (kT l d (List.replicate (d+1) T++[T+f]) j1)=g at *
   have a2:=gD (T+f) g
   refine⟨[T+f,T+f+g],T+f+g,j2,by rw [List.append_assoc];rfl,rfl,⟨fun x hx=>?_,fun i hi=>?_,fun x hx=>?_,by simp,fun x hx=>?_⟩,by omega,by grind⟩
   ·simp only [List.mem_cons,List.not_mem_nil,or_false] at hx
    rcases hx with rfl | rfl<;>constructor<;>grind
   ·obtain rfl:i=0:=by simp at hi;omega
    show T+f≤T+f+g
    grind
   ·show lT _ x 2≤d
    have hne:T+f≠T+f+g:=by grind
    have e:lT [T+f,T+f+g] x 2=0+(if T+f=x then 1 else 0)+(if T+f+g=x then 1 else 0):=rfl
    rw [e]
    by_cases c:T+f=x
    ·rw [if_pos c,if_neg (fun e=>hne (c.trans e.symm))];omega
    ·rw [if_neg c];split<;>omega
   ·simp only [List.mem_cons,List.not_mem_nil,or_false] at hx
    rcases hx with rfl | rfl<;>omega
  ·rw [if_neg hb2,kiV]
   have hd2:2≤d:=by
    rcases Nat.lt_or_ge d 2 with c | c
    ·exfalso
     obtain rfl:d=1:=by omega
     refine hb2 (.inr (.inr ?_))
     rw [show (List.replicate (1+1) T++[T+f]).length-1=2 by simp,gD2 (by simp)];simp
    ·exact c
   refine⟨[T+f,T+f],T+f,kT l d (List.replicate (d+1) T++[T+f]) j1,by rw [List.append_assoc];rfl,rfl,⟨fun x hx=>?_,fun i hi=>?_,fun x hx=>?_,by simp,fun x hx=>?_⟩,by omega,by grind⟩
   ·simp only [List.mem_cons,List.not_mem_nil,or_false,or_self] at hx
    subst hx;constructor<;>grind
   ·obtain rfl:i=0:=by simp at hi;omega
    exact Rat.le_refl
   ·show lT _ x 2≤d
    have:=v7 [T+f,T+f] x 2
    omega
   ·simp only [List.mem_cons,List.not_mem_nil,or_false,or_self] at hx
    subst hx;omega
def kiN (l:List Int) (k n:Nat):Nat:=(lG l (iM l k) ((n+1:Nat):Int)).toNat
def kiR (l:List Int) (d k n:Nat):List Rat × Rat × Nat:=kiV l d (kiN l k n) (List.replicate (d+1) (yS l k)) (yS l k) (iM l (iM l k))
def knX (l:List Int) (d k n:Nat):List Rat:=(kiR l d k n).1++List.replicate (d+1) ((kiR l d k n).2.1+1)
theorem tD (l:List Int) (k n:Nat):(kiN l k n:Int)=lG l (iM l k) ((n+1:Nat):Int)∧kiN l k n≤n:=by
 have h:=iO (l:=l) (k:=iM l k) (n:=((n+1:Nat):Int)) (by omega)
 unfold kiN
 omega
structure kiI (l:List Int) (d N c:Nat) (K:List Rat) (t:Rat) (j:Nat) (R:List Rat × Rat × Nat):Prop where
 hj:j≤500
 hl:K.length+c=d+1+N
 ht:rl t+3*c≤1+3*N
 hK:∀ x∈K,rl x≤7
 hR:kiV l d c K t j=R
theorem aBY {K:List Rat} {t:Rat} {R:Nat} (h:∀ x∈K,rl x≤R) (ht:rl t≤R):∀ x∈K++[t],rl x≤R:=fun x hx=>by
 rcases List.mem_append.1 hx with h1 | h1
 ·exact h x h1
 ·rw [List.mem_singleton.1 h1];exact ht
theorem wQ {l:List Int} {d j:Nat} {K:List Rat} (hl:l.length≤500) (hj:j≤500):kT l d K j≤500:=by
 unfold kT;split
 ·exact hj
 ·exact iB hl hj
theorem kiI.yes {l:List Int} {d N c:Nat} {K:List Rat} {t:Rat} {j:Nat} {R:List Rat × Rat × Nat} (hl:l.length≤500) (hN:N≤2) (h:kiI l d N (c+1) K t j R) (hb:ksB l d K t j) :
  kiI l d N c (K++[t+uB l (kT l d K j)]) (t+uB l (kT l d K j)) (iM l (iM l (kT l d K j))) R:=by
 have hF:=(wN l (kT l d K j)).2
 have h1:=gD t (uB l (kT l d K j))
 have h2:=h.ht
 have h3:=h.hl
 have h4:=h.hR
 rw [kiV,if_pos hb] at h4
 exact⟨iB hl (iB hl (wQ hl h.hj)),by simp;omega,by omega,aBY h.hK (by omega),h4⟩
theorem kiI.no {l:List Int} {d N c:Nat} {K:List Rat} {t:Rat} {j:Nat} {R:List Rat × Rat × Nat} (hl:l.length≤500) (hN:N≤2) (h:kiI l d N (c+1) K t j R) (hb:¬ksB l d K t j) :
  kiI l d N c (K++[t]) t (kT l d K j) R:=by
 have h2:=h.ht
 have h3:=h.hl
 have h4:=h.hR
 rw [kiV,if_neg hb] at h4
 exact⟨wQ hl h.hj,by simp;omega,by omega,aBY h.hK (by omega),h4⟩
namespace Zq6
theorem dG {p q:Prop} (k:q) (e:p=q:=by simp only [e1,e2,e3,e4,p1,p2,p3,q1,q2,q3,l1,t0,t1,r1,r2,r3,r4,Nat.zero_add,Nat.reduceMul,Nat.reduceAdd,b1,b2,b3,b4,b5,b6,i1,i2,i3,i4,i5,i6,Nat.reduceBEq,l1,etkA,etkB,etkC,ers,ers2,ekb,ekj,eix,gW,List.length_map,List.append_nil,List.replicate_zero,Nat.add_zero,bJ,cI,bQ,List.length_cons,List.length_nil,List.nil_append,List.length_append,List.length_replicate,List.set_cons_zero,List.set_cons_succ,Nat.reduceEqDiff,reduceIte,if_true,if_false,bG,bF,aC eI,aC aD,aS,aZ,LV.kill,bB,kX];exact rfl):p:=e.mpr k
end Zq6
open Zq6 in
theorem gO (l:List Int) (k:Nat) (hl:l.length≤500) (d:Nat) (hd1:1≤d) (hd:d≤6) (n:Nat) (hn:n≤2) (hk:k≤500):gH Tryz.prog 57 ⟨2,[fJ l k],true⟩ [.eptr 0 2 0 0,aE d,aE n] (.list 3 ((knX l d k n).map ratL)) ⟨2,[fJ l (kiR l d k n).2.2],true⟩:=by
 have k1:=iB (l:=l) hl hk
 have k2:=iB (l:=l) hl k1
 have hb:=iO (l:=l) (k:=k) (n:=4) (by decide)
 obtain⟨hn1,hn2⟩:=tD l k n
 obtain⟨ht1,ht2⟩:=aKg l k
 have h1r:rl 1=1:=rfl
 refine fnM Tryz.func57 ?_
 have etkA:True:=trivial
 have etkB:True:=trivial
 have etkC:True:=trivial
 have ers:True:=trivial
 have ers2:True:=trivial
 have ekb:True:=trivial
 have ekj:True:=trivial
 have eix:True:=trivial
 refine eC ?_
 refine cG 0 rfl rfl rfl (aR l _) (.cons .ptr (.cons (.imm (.pure rfl)) .nil)) .ptr (iF l k 4 (by omega) (by omega) (by omega) (by omega)) rfl (aR l _) rfl ?_
 refine aB rfl (.bin rfl rfl (iK (by omega) (by omega))) ?_
 refine cp dC (jE (lG l k 4-2) (by omega) (by omega)) ?_
 refine mY ?_
 refine eZ (bI.own (t:=8) 24 3 rfl rfl) ?_
 refine lX (fun(i:Nat) L=>(((((((St.mk L.slot (hp [(0,⟨2,[fJ l (iM l k)],true⟩),(7,⟨3,[ratL (yS l k)],true⟩),(24,⟨3,(List.replicate i (yS l k)).map ratL,true⟩)])).put (some 0) (.eptr 0 2 0 0)).put (some 1) (aE d)).put (some 7) (.eptr 7 3 0 0)).put (some 2) (aE n)).put (some 8) (.ref 24 3 0 i)).put (some 9) (aE i))) (fun i=>i≤d+1) (fun i=>d+1-i) 0 (Nat.zero_le _) ?_
 rintro i L1 hi
 refine eC ?_
 refine aK rfl (fun h18r h18=>?_) (fun h18r h18=>?_)
 ·have hi2:i≤d:=by omega
  have ers:=aB5 i (yS l k)
  have etkA:((List.replicate i (yS l k)).map ratL).take i=(List.replicate i (yS l k)).map ratL:=List.take_of_length_le (by simp)
  refine eC ?_
  refine bD rfl (.appX (d:=24) (news:=[ratL ((yS l k))]) rfl rfl rfl rfl (by simp) (.inl rfl) (by decide) Tryz.underlying36 Tryz.underlying36 eH cX rfl lB (.inl ⟨23,0,_,rfl,by decide,rfl,rfl,by simp,rfl,by simp [aY,aD.pure]⟩) (by simp;omega) (by simp;omega) (by decide)) ?_
  refine cO ?_
  refine bR (bI.kill _ 23) ?_
  refine bE ?_
  refine aB rfl (.bin rfl rfl (bV (by omega))) ?_
  refine cP ?_
  exact kE (i+1) (by omega)
 ·obtain rfl:i=d+1:=by omega
  refine cN ?_
  refine aB rfl (.bin rfl rfl (bV (by omega))) ?_
  refine cG 0 rfl rfl rfl (aR l _) (.cons .ptr (.cons (.imm (.pure rfl)) .nil)) .ptr (iF l (iM l k) ((n+1:Nat):Int) (by omega) (by omega) (by omega) (by omega)) rfl (aR l _) rfl ?_
  rw [←hn1]
  refine cO ?_
  refine lp4 (fun(c:Nat) (K:List Rat) (t:Rat) (j:Nat) L=>((((((St.mk L.slot (hp [(0,⟨2,[fJ l j],true⟩),(7,⟨3,[ratL t],true⟩),(24,⟨3,K.map ratL,true⟩)])).put (some 0) (.eptr 0 2 0 0)).put (some 1) (aE d)).put (some 7) (.eptr 7 3 0 0)).put (some 8) (.ref 24 3 0 K.length)).put (some 10) (aE c))) (fun c K t j=>kiI l d (kiN l k n) c K t j (kiR l d k n)) (fun c K t j=>c) (kiN l k n) (List.replicate (d+1) (yS l k)) (yS l k) (iM l (iM l k)) ⟨k2,by simp,by omega,fun x hx=>by rw [(List.mem_replicate.1 hx).2];omega,rfl⟩ ?_
  rintro c K t j L2 hI
  refine dL ?_
  refine aK rfl (fun h30r h30=>?_) (fun h30r h30=>?_)
  ·obtain⟨e,rfl⟩:∃ e,c=e+1:=⟨c-1,by omega⟩
   have hj5:=hI.hj
   have hjl:=iB (l:=l) hl hj5
   have hKl:=hI.hl
   have hrt:=hI.ht
   have hrK:=hI.hK _ (cC (p:=K) (i:=K.length-d) (by omega))
   have etkC:(K.map ratL).take K.length=K.map ratL:=List.take_of_length_le (by simp)
   have hb3:=iO (l:=l) (k:=j) (n:=3) (by decide)
   refine dB ?_
   refine eB (fun L=>∃  (L1:St),(True)∧L=(((((((St.mk L1.slot (hp [(0,⟨2,[fJ l (kT l d K j)],true⟩),(7,⟨3,[ratL t],true⟩),(24,⟨3,K.map ratL,true⟩)])).put (some 0) (.eptr 0 2 0 0)).put (some 1) (aE d)).put (some 7) (.eptr 7 3 0 0)).put (some 8) (.ref 24 3 0 K.length)).put (some 10) (aE (e+1))).put (some 53) (bL (decide (ksB l d K t j))))) ?_ ?_
   ·refine qJ ?_
    refine xN 0 6 15 rfl (by decide +kernel) (by decide +kernel) ?_
    simp only [List.drop_zero,List.drop_succ_cons,List.take_succ_cons,List.take_zero]
    refine cP ?_
    refine aB rfl (.bin rfl rfl (bV (by omega))) ?_
    refine cY ?_
    refine aF ?_
    refine aN 6 _ (by decide +kernel) rfl ?_
    refine dJ 38 rfl (fun h38r h38=>?_) (fun h38r h38=>?_)
    ·have hL:K.length=d+1:=by omega
     have ekb:decide (ksB l d K t j)=true:=decide_eq_true (.inl hL)
     have ekj:(kT l d K j)=j:=if_pos hL
     refine bE ?_
     refine aF ?_
     refine aN 7 _ (by decide +kernel) rfl ?_
     refine bE ?_
     refine aF ?_
     refine aN 8 _ (by decide +kernel) rfl ?_
     refine bE ?_
     refine aF ?_
     refine aN 9 _ (by decide +kernel) rfl ?_
     refine bE ?_
     refine aF ?_
     refine aN 10 _ (by decide +kernel) rfl ?_
     refine bE ?_
     refine aF ?_
     refine xN 11 19 2 rfl (by decide +kernel) (by decide +kernel) ?_
     simp only [List.drop_zero,List.drop_succ_cons,List.take_succ_cons,List.take_zero]
     refine eC ?_
     refine aF ?_
     refine aN 19 _ (by decide +kernel) rfl ?_
     try simp only [t1,gW,Int.toNat_natCast,Nat.zero_add]
     refine bE ?_
     refine aF ?_
     refine aN 20 _ (by decide +kernel) rfl ?_
     refine bE ?_
     refine aF ?_
     refine cK (by decide +kernel) ?_
     refine bE ?_
     exact⟨_,trivial,((aA (aA (aA (aA (aA (aA (bC cl) cl) cl) cl) cl) cl) cl)).symm⟩
    ·have hL:¬K.length=d+1:=by omega
     have ekj:(kT l d K j)=iM l j:=if_neg hL
     refine bE ?_
     refine aF ?_
     refine aN 7 _ (by decide +kernel) rfl ?_
     refine cG 0 (aL (v:=false) rfl rfl (h38r) rfl) rfl rfl (aR l _) (.cons .ptr (.cons (.imm (.pure rfl)) .nil)) .ptr (iF l j 3 (by omega) (by omega) (by omega) (by omega)) rfl (aR l _) rfl ?_
     refine aF ?_
     refine aN 8 _ (by decide +kernel) rfl ?_
     refine bE ?_
     refine aF ?_
     refine aN 9 _ (by decide +kernel) rfl ?_
     refine bE ?_
     refine aF ?_
     refine aN 10 _ (by decide +kernel) rfl ?_
     refine bE ?_
     refine aF ?_
     refine xN 11 19 2 rfl (by decide +kernel) (by decide +kernel) ?_
     simp only [List.drop_zero,List.drop_succ_cons,List.take_succ_cons,List.take_zero]
     refine dJ 43 rfl (fun h43r h43=>?_) (fun h43r h43=>?_)
     ·have ekb:decide (ksB l d K t j)=true:=decide_eq_true (.inr (.inl (by omega)))
      refine eC ?_
      refine aF ?_
      refine aN 19 _ (by decide +kernel) rfl ?_
      try simp only [t1,gW,Int.toNat_natCast,Nat.zero_add]
      refine bE ?_
      refine aF ?_
      refine aN 20 _ (by decide +kernel) rfl ?_
      refine bE ?_
      refine aF ?_
      refine cK (by decide +kernel) ?_
      refine bE ?_
      exact⟨_,trivial,((aA (aA (aA (aA (aA (aA (bC cl) cl) cl) cl) cl) cl) cl)).symm⟩
     ·refine dR ?_
      refine aB (aL (v:=false) rfl rfl (h43r) rfl) (.bin rfl rfl (aGJ (c:=K.length-d) (by omega) (by omega))) ?_
      refine cY ?_
      refine aF ?_
      refine aN 19 _ (by decide +kernel) rfl ?_
      try simp only [t1,gW,Int.toNat_natCast,Nat.zero_add]
      refine cp b9 (jO t (K.getD (K.length-d) 0) (by omega)) ?_
      refine aF ?_
      refine aN 20 _ (by decide +kernel) rfl ?_
      have ekb:decide (ksB l d K t j)=decide (t=K.getD (K.length-d) 0):=decide_eq_decide.2 ⟨fun h=>by rcases h with h | h | h<;>first | exact h | (exfalso;omega),fun h=>.inr (.inr h)⟩
      refine bE ?_
      refine aF ?_
      refine cK (by decide +kernel) ?_
      refine bE ?_
      exact⟨_,trivial,((aA (aA (aA (aA (aA (aA (bC cl) cl) cl) cl) cl) cl) cl)).symm⟩
   ·rintro _ ⟨LR10,-,rfl⟩
    refine bE ?_
    refine aK rfl (fun h53r h53=>?_) (fun h53r h53=>?_)
    ·have hB:ksB l d K t j:=by simpa using h53
     have hJ:=wQ (l:=l) (d:=d) (j:=j) (K:=K) hl hj5
     have hJ2:=iB (l:=l) hl hJ
     have hF:=wN l (kT l d K j)
     have hbA:=iO (l:=l) (k:=(kT l d K j)) (n:=3) (by decide)
     have hbB:=iO (l:=l) (k:=iM l (kT l d K j)) (n:=2) (by decide)
     have haF:=gD t (uB l (kT l d K j))
     refine eB (fun L=>∃  (L1:St),(True)∧L=((((((St.mk L1.slot (hp [(0,⟨2,[fJ l (iM l (iM l (kT l d K j)))],true⟩),(7,⟨3,[ratL (t+uB l (kT l d K j))],true⟩),(24,⟨3,K.map ratL,true⟩)])).put (some 0) (.eptr 0 2 0 0)).put (some 1) (aE d)).put (some 7) (.eptr 7 3 0 0)).put (some 8) (.ref 24 3 0 K.length)).put (some 10) (aE (e+1)))) ?_ ?_
     ·refine qJ ?_
      refine dT 1 rfl rfl (by decide +kernel) (.move _) ?_
      refine dT 4 rfl rfl (by decide +kernel) (.move _) ?_
      refine dO 0 2 _ _ (by decide +kernel) rfl rfl ?_ ?_
      ·refine bE ?_
       refine aF ?_
       refine aN 2 _ (by decide +kernel) rfl ?_
       refine cG 0 rfl rfl rfl (aR l _) (.cons .ptr (.cons (.imm (.pure rfl)) .nil)) .ptr (iF l (kT l d K j) 3 (by omega) (by omega) (by omega) (by omega)) rfl (aR l _) rfl ?_
       refine aF ?_
       refine dT 3 rfl rfl (by decide +kernel) (.bin rfl rfl (iS (by omega) (by omega))) ?_
       refine aN 5 _ (by decide +kernel) rfl ?_
       refine cG 0 rfl rfl rfl (aR l _) (.cons .ptr (.cons (.imm (.pure rfl)) .nil)) .ptr (iF l (iM l (kT l d K j)) 2 (by omega) (by omega) (by omega) (by omega)) rfl (aR l _) rfl ?_
       refine aF ?_
       refine aN 6 _ (by decide +kernel) rfl ?_
       refine aB rfl (.bin rfl rfl (iS (by omega) (by omega))) ?_
       refine aF ?_
       refine aN 7 _ (by decide +kernel) rfl ?_
       refine cp b9 (kK (1+lG l (kT l d K j) 3) (1+lG l (iM l (kT l d K j)) 2) (by omega) (by omega) (by omega) (by omega) (by omega)) ?_
       refine aF ?_
       refine aN 8 _ (by decide +kernel) rfl ?_
       refine cp b9 (jI t (uB l (kT l d K j)) (by omega)) ?_
       refine aF ?_
       refine aN 9 _ (by decide +kernel) rfl ?_
       refine bE ?_
       refine aF ?_
       refine cK (by decide +kernel) ?_
       refine bE ?_
       exact⟨_,trivial,((aA (aA (aA (aA (aA (bC cl) cl) cl) cl) cl) cl)).symm⟩
      ·refine cG 0 rfl rfl rfl (aR l _) (.cons .ptr (.cons (.imm (.pure rfl)) .nil)) .ptr (iF l (kT l d K j) 3 (by omega) (by omega) (by omega) (by omega)) rfl (aR l _) rfl ?_
       refine aF ?_
       refine dT 3 rfl rfl (by decide +kernel) (.bin rfl rfl (iS (by omega) (by omega))) ?_
       refine dO 0 5 _ _ (by decide +kernel) rfl rfl ?_ ?_
       ·refine bE ?_
        refine aF ?_
        refine aN 5 _ (by decide +kernel) rfl ?_
        refine cG 0 rfl rfl rfl (aR l _) (.cons .ptr (.cons (.imm (.pure rfl)) .nil)) .ptr (iF l (iM l (kT l d K j)) 2 (by omega) (by omega) (by omega) (by omega)) rfl (aR l _) rfl ?_
        refine aF ?_
        refine aN 6 _ (by decide +kernel) rfl ?_
        refine aB rfl (.bin rfl rfl (iS (by omega) (by omega))) ?_
        refine aF ?_
        refine aN 7 _ (by decide +kernel) rfl ?_
        refine cp b9 (kK (1+lG l (kT l d K j) 3) (1+lG l (iM l (kT l d K j)) 2) (by omega) (by omega) (by omega) (by omega) (by omega)) ?_
        refine aF ?_
        refine aN 8 _ (by decide +kernel) rfl ?_
        refine cp b9 (jI t (uB l (kT l d K j)) (by omega)) ?_
        refine aF ?_
        refine aN 9 _ (by decide +kernel) rfl ?_
        refine bE ?_
        refine aF ?_
        refine cK (by decide +kernel) ?_
        refine bE ?_
        exact⟨_,trivial,((aA (aA (aA (aA (aA (bC cl) cl) cl) cl) cl) cl)).symm⟩
       ·refine cG 0 rfl rfl rfl (aR l _) (.cons .ptr (.cons (.imm (.pure rfl)) .nil)) .ptr (iF l (iM l (kT l d K j)) 2 (by omega) (by omega) (by omega) (by omega)) rfl (aR l _) rfl ?_
        refine aF ?_
        refine dT 6 rfl rfl (by decide +kernel) (.bin rfl rfl (iS (by omega) (by omega))) ?_
        refine dO 0 7 _ _ (by decide +kernel) rfl rfl ?_ ?_
        ·refine bE ?_
         refine aF ?_
         refine aN 7 _ (by decide +kernel) rfl ?_
         refine cp b9 (kK (1+lG l (kT l d K j) 3) (1+lG l (iM l (kT l d K j)) 2) (by omega) (by omega) (by omega) (by omega) (by omega)) ?_
         refine aF ?_
         refine aN 8 _ (by decide +kernel) rfl ?_
         refine cp b9 (jI t (uB l (kT l d K j)) (by omega)) ?_
         refine aF ?_
         refine aN 9 _ (by decide +kernel) rfl ?_
         refine bE ?_
         refine aF ?_
         refine cK (by decide +kernel) ?_
         refine bE ?_
         exact⟨_,trivial,((aA (aA (aA (aA (aA (bC cl) cl) cl) cl) cl) cl)).symm⟩
        ·refine cp b9 (kK (1+lG l (kT l d K j) 3) (1+lG l (iM l (kT l d K j)) 2) (by omega) (by omega) (by omega) (by omega) (by omega)) ?_
         refine aF ?_
         refine aN 0 _ (by decide +kernel) rfl ?_
         refine bE ?_
         refine aF ?_
         refine aN 8 _ (by decide +kernel) rfl ?_
         refine cp b9 (jI t (uB l (kT l d K j)) (by omega)) ?_
         refine aF ?_
         refine aN 9 _ (by decide +kernel) rfl ?_
         refine bE ?_
         refine aF ?_
         refine cK (by decide +kernel) ?_
         refine bE ?_
         exact⟨_,trivial,((aA (aA (aA (aA (aA (bC cl) cl) cl) cl) cl) cl)).symm⟩
     ·rintro _ ⟨LR11,-,rfl⟩
      refine dR ?_
      first | refine bD rfl (.appX (d:=24) (news:=[ratL ((t+uB l (kT l d K j)))]) rfl rfl rfl rfl (by simp) (.inl rfl) (by decide) Tryz.underlying36 Tryz.underlying36 eH cX rfl lB (.inl ⟨65,0,_,rfl,by decide,rfl,rfl,by simp,rfl,by simp [aY,aD.pure]⟩) (by simp;omega) (by simp;omega) (by decide)) ?_ | refine bD rfl (.appX (d:=24) (news:=[ratL (t)]) rfl rfl rfl rfl (by simp) (.inl rfl) (by decide) Tryz.underlying36 Tryz.underlying36 eH cX rfl lB (.inl ⟨65,0,_,rfl,by decide,rfl,rfl,by simp,rfl,by simp [aY,aD.pure]⟩) (by simp;omega) (by simp;omega) (by decide)) ?_
      refine cO ?_
      refine bR (bI.kill _ 65) ?_
      refine bE ?_
      refine aB rfl (.bin rfl rfl (iG (by omega) (by omega))) ?_
      refine cP ?_
      exact nx4 e (K++[(t+uB l (kT l d K j))]) (t+uB l (kT l d K j)) (iM l (iM l (kT l d K j))) (hI.yes hl (by omega) hB)
    ·have hB:¬ksB l d K t j:=by simpa using h53
     refine dB ?_
     first | refine bD rfl (.appX (d:=24) (news:=[ratL ((t+uB l (kT l d K j)))]) rfl rfl rfl rfl (by simp) (.inl rfl) (by decide) Tryz.underlying36 Tryz.underlying36 eH cX rfl lB (.inl ⟨65,0,_,rfl,by decide,rfl,rfl,by simp,rfl,by simp [aY,aD.pure]⟩) (by simp;omega) (by simp;omega) (by decide)) ?_ | refine bD rfl (.appX (d:=24) (news:=[ratL (t)]) rfl rfl rfl rfl (by simp) (.inl rfl) (by decide) Tryz.underlying36 Tryz.underlying36 eH cX rfl lB (.inl ⟨65,0,_,rfl,by decide,rfl,rfl,by simp,rfl,by simp [aY,aD.pure]⟩) (by simp;omega) (by simp;omega) (by decide)) ?_
     refine cO ?_
     refine bR (bI.kill _ 65) ?_
     refine bE ?_
     refine aB rfl (.bin rfl rfl (iG (by omega) (by omega))) ?_
     refine cP ?_
     exact nx4 e (K++[t]) t (kT l d K j) (hI.no hl (by omega) hB)
  ·obtain rfl:c=0:=by omega
   have hV:=hI.hR
   rw [kiV] at hV
   have hj5:=hI.hj
   have hKl:=hI.hl
   have hrt:=hI.ht
   have hrt1:=gD t 1
   refine dB ?_
   refine aP 3 (by decide +kernel) ?_
   refine bE ?_
   refine cp dC (jE 1 (by decide) (by decide)) ?_
   refine cp b9 (jI t 1 (by omega)) ?_
   refine cN ?_
   refine lX (fun(i:Nat) L=>(((((St.mk L.slot (hp [(0,⟨2,[fJ l j],true⟩),(7,⟨3,[ratL (t+1)],true⟩),(24,⟨3,(K++List.replicate i (t+1)).map ratL,true⟩)])).put (some 1) (aE d)).put (some 7) (.eptr 7 3 0 0)).put (some 8) (.ref 24 3 0 (K.length+i))).put (some 11) (aE i))) (fun i=>i≤d+1) (fun i=>d+1-i) 0 (Nat.zero_le _) ?_
   rintro i L3 hi
   refine eC ?_
   refine aK rfl (fun h72r h72=>?_) (fun h72r h72=>?_)
   ·have hi2:i≤d:=by omega
    have ers2:K++List.replicate i (t+1)++[t+1]=K++List.replicate (i+1) (t+1):=by rw [List.append_assoc,aB5]
    have etkB:((K++List.replicate i (t+1)).map ratL).take (K.length+i)=(K++List.replicate i (t+1)).map ratL:=List.take_of_length_le (by simp)
    refine eC ?_
    refine bD rfl (.appX (d:=24) (news:=[ratL (t+1)]) rfl rfl rfl rfl (by simp) (.inl rfl) (by decide) Tryz.underlying36 Tryz.underlying36 eH cX rfl lB (.inl ⟨77,0,_,rfl,by decide,rfl,rfl,by simp,rfl,by simp [aY,aD.pure]⟩) (by simp;omega) (by simp;omega) (by decide)) ?_
    refine cO ?_
    refine bR (bI.kill _ 77) ?_
    refine bE ?_
    refine aB rfl (.bin rfl rfl (bV (by omega))) ?_
    refine cP ?_
    exact kE (i+1) (by omega)
   ·obtain rfl:i=d+1:=by omega
    refine cW ?_
    have hE:K++List.replicate (d+1) (t+1)=knX l d k n:=by unfold knX;rw [←hV]
    have hE2:j=(kiR l d k n).2.2:=by rw [←hV]
    rw [←hE,←hE2]
    exact aNz [24] rfl rfl (cA aD rfl rfl (by simp)) rfl rfl (aR l _)
end Go.Proofs.YtfpdccbgngdhkaaGreat
end
section
set_option linter.unusedVariables false
set_option linter.unusedSimpArgs false
namespace Go.Lg
theorem bI.frz {L:St} {t:Nat} {x y:LV} (bs:List Nat) (h0:bs.contains 0=false) (h:L.slot t=x) (hi:Imm (L.frz bs).heap x y):bI L ((L.frz bs).put (some t) y):=by
 rintro n W X Z0 a w ⟨hdf,hsz,μ,Z,hc,hr⟩
 obtain⟨Z',hc',hz⟩:=hc.widen (kM bs h0)
 refine⟨hdf,hsz,μ,Z',by rw [eE];exact hc',fun s=>?_⟩
 have hm:=bZ.mono hz (fun _ _ h=>h) (Frame.refl Z μ w) (hr s)
 rw [cQ]
 split
 ·rename_i hst
  subst hst
  rw [h] at hm
  exact bZ.of1 (LV.pure_ne_tup hi.lay.2.2) (Imm.soundV (μ':=μ) hc' hi hm)
 ·exact hm
theorem bI.hand {L:St} {t:Nat} {α:Type} {e:α→LV} {ag:Bool} {b sz len:Nat} {l:List α} {m:Bool} (he:EncOK e sz ag) (h:L.slot t=.ref b sz 0 len) (hb:L.heap b=some ⟨sz,l.map e,m⟩) (hl:len=l.length) (h0:b≠0:=by decide) :
  bI L ((L.put (some t) (.list sz (l.map e))).kill b):=by
 have h0':([b]:List Nat).contains 0=false:=by simp;omega
 have e1:=(bI.frz [b] h0' h (cA (bs:=[b]) he hb (by simp) hl)).trans (bI.kill _ b h0)
 have e2:((L.frz [b]).put (some t) (.list sz (l.map e))).kill b=(L.put (some t) (.list sz (l.map e))).kill b:=by
  unfold St.kill
  congr 1
  funext c
  rw [eE,eE]
  by_cases hcb:c=b
  ·simp [hcb]
  ·simp only [St.frz,if_neg hcb]
   cases L.heap c with
   | none=>rfl
   | some blk=>simp [hcb]
 rw [←e2]
 exact e1
end Go.Lg
end
section
set_option linter.unusedVariables false
set_option linter.unusedSimpArgs false
set_option maxHeartbeats 8000000
set_option maxRecDepth 100000
attribute [local irreducible] Go.Lg.opsL Go.Lg.wpL Go.Lg.thenL Go.Lg.blockL
namespace Go.Proofs.YtfpdccbgngdhkaaGreat
open Go.Lg
def cM (r:List PoR):LV:=.list 12 (r.map gZ)
theorem gY:EncOK cM 1 false:=⟨fun _=>rfl,fun _=>rfl,fun p=>aG eI 12 p⟩
theorem prZ:bN Tryz.prog 60 (cM []):=⟨Tryz.t60,_,by kernel_rfl,rfl,rfl,fun _ _ _=>p7 12⟩
theorem dS (r:List PoR) (b:Nat):(cM r).kill b=cM r:=LV.kill_pure b _ (gY.pure r)
instance:EC Tryz.prog 60 cM 1 false []:=⟨gY,prZ,T60⟩
theorem aAb (d sz:Nat) (x y z u:LV) (Z:Nat→Prop) (μ:Nat→Option Nat) (w:World) (cs:List Value) (h:cL Z μ w (.agg [x,y,z,u,.v (.slice none 0 0)]) cs):cL Z μ w (.agg [x,y,z,u,.ref d sz 0 0]) cs:=by
 simp only [cL,cH] at h ⊢
 obtain⟨c1,c2,e1,e2,e3,c3,c4,e4,e5,e6,c5,c6,e7,e8,e9,c7,c8,g1,g2,g3,c9,c10,g4,g5,g6,g7⟩:=h
 exact⟨c1,c2,e1,e2,e3,c3,c4,e4,e5,e6,c5,c6,e7,e8,e9,c7,c8,g1,g2,g3,c9,c10,g4,g5,.inl ⟨g6.1,trivial⟩,g7⟩
def gpV (w:Bool) (i j:Nat) (q:PoR):PoR :=
 bif w then q else⟨⟨((2*(i:Int):Int):Rat)+q.p.x*(((1:Int):Rat)/((8:Int):Rat)),((2*(j:Int):Int):Rat)+q.p.y*(((1:Int):Rat)/((8:Int):Rat)),q.p.z*(((1:Int):Rat)/((4:Int):Rat))⟩,q.w⟩
theorem aNa {w:Bool} {i j:Nat} {q:PoR} (h:pY 1 q) (hi:i≤100) (hj:j≤100):pY 4 (gpV w i j q):=by
 obtain⟨⟨h1,h2,h3⟩,h4,h5⟩:=h
 cases w with
 | true=>exact⟨⟨by show rl q.p.x≤4;omega,by show rl q.p.y≤4;omega,by show rl q.p.z≤4;omega⟩,by show rl q.w≤4;omega,h5⟩
 | false =>
  have e8:rl (((1:Int):Rat)/((8:Int):Rat))=1:=by decide +kernel
  have e4:rl (((1:Int):Rat)/((4:Int):Rat))=1:=by decide +kernel
  have a1:rl ((2*(i:Int):Int):Rat)≤1:=lN (by omega)
  have a2:rl ((2*(j:Int):Int):Rat)≤1:=lN (by omega)
  have m1:=cS q.p.x (((1:Int):Rat)/((8:Int):Rat))
  have m2:=cS q.p.y (((1:Int):Rat)/((8:Int):Rat))
  have m3:=cS q.p.z (((1:Int):Rat)/((4:Int):Rat))
  have s1:=gD ((2*(i:Int):Int):Rat) (q.p.x*(((1:Int):Rat)/((8:Int):Rat)))
  have s2:=gD ((2*(j:Int):Int):Rat) (q.p.y*(((1:Int):Rat)/((8:Int):Rat)))
  exact⟨⟨by show rl (_+_)≤4;omega,by show rl (_+_)≤4;omega,by show rl (_*_)≤4;omega⟩,by show rl q.w≤4;omega,h5⟩
def srV (l:List Int) (w:Bool) (i:Nat):Nat→Nat→Nat→List PoR
 | _,0,_=>[]
 | j,c+1,k=>gpV w i j (o6 l k) :: srV l w i (j+1) c (dpK l k)
theorem aEa (l:List Int) (w:Bool) (i:Nat):∀ c j k,(srV l w i j c k).length=c
 | 0,_,_=>rfl
 | c+1,j,k=>by simp [srV,aEa l w i c]
theorem aFN (l:List Int) (w:Bool) {i:Nat} (hi:i≤100):∀ c j k,j+c≤100→∀ q∈srV l w i j c k,pY 4 q
 | 0,_,_,_,q,h=>by simp [srV] at h
 | c+1,j,k,hj,q,h=>by
  simp only [srV,List.mem_cons] at h
  rcases h with rfl | h
  ·exact aNa ⟨aKl l k,aKb _ _,aG8 _ _⟩ hi (by omega)
  ·exact aFN l w hi c (j+1) _ (by omega) q h
def ssV (l:List Int) (w:Bool) (b:Nat):Nat→Nat→Nat→List (List PoR)
 | _,0,_=>[]
 | i,c+1,k=>srV l w i 0 b k :: ssV l w b (i+1) c (dqK l k b)
def ssK (l:List Int) (b:Nat):Nat→Nat→Nat
 | 0,k=>k
 | c+1,k=>ssK l b c (dqK l k b)
theorem aDv (l:List Int) (w:Bool) (b:Nat):∀ c i k,(ssV l w b i c k).length=c
 | 0,_,_=>rfl
 | c+1,i,k=>by simp [ssV,aDv l w b c]
theorem aHf (l:List Int) (w:Bool) {b:Nat} (hb:b≤100):∀ c i k,i+c≤100→∀ r∈ssV l w b i c k,r.length=b∧∀ q∈r,pY 4 q
 | 0,_,_,_,r,h=>by simp [ssV] at h
 | c+1,i,k,hi,r,h=>by
  simp only [ssV,List.mem_cons] at h
  rcases h with rfl | h
  ·exact⟨aEa ..,aFN l w (by omega) b 0 k (by omega)⟩
  ·exact aHf l w hb c (i+1) _ (by omega) r h
theorem aHd (l:List Int) {k d m:Nat} (hl:l.length≤500) (hk:k≤500) (hd1:1≤d) (hd:d≤6) (hm:m≤2):kOK (knX l d k m) d∧(knX l d k m).length=2*(d+1)+kiN l k m∧(kiR l d k m).2.2≤500:=by
 obtain⟨hN1,hN2⟩:=tD l k m
 obtain⟨hT,hT1⟩:=aKg l k
 have hr1:rl 1=1:=rfl
 obtain⟨inn,t,j',e,hil,hin,hrt,hlt⟩:=aNm l (d:=d) (n:=kiN l k m) (T:=yS l k) hd1 (by omega) hT (iM l (iM l k))
 have ht1:=gD t 1
 have eK:knX l d k m=kx d (yS l k) inn (t+1):=by
  unfold knX kiR kx
  rw [e,List.append_assoc]
 refine⟨by rw [eK];exact aMF hd1 hd (by omega) (by omega) hlt hin,?_,?_⟩
 ·rw [eK,aCG,hil]
 ·have k1:=iB (l:=l) hl hk
  have k2:=iB (l:=l) hl k1
  have gen:∀ (c:Nat) (K:List Rat) (t:Rat) (j:Nat),j≤500→(kiV l d c K t j).2.2≤500:=by
   intro c
   induction c with
   | zero=>intro K t j hj;exact hj
   | succ c ih =>
    intro K t j hj
    rw [kiV]
    split
    ·exact ih _ _ _ (iB hl (iB hl (wQ hl hj)))
    ·exact ih _ _ _ (wQ hl hj)
  exact gen _ _ _ _ k2
def sU (l:List Int) (k n:Nat):Nat:=cD l k n
def sV (l:List Int) (k n:Nat):Nat:=cD l (iM l k) n
def sJ2 (l:List Int) (k:Nat):Nat:=iM l (iM l k)
def sJ3 (l:List Int) (k n m:Nat):Nat:=(kiR l (sU l k n) (sJ2 l k) m).2.2
def sJ4 (l:List Int) (k n m:Nat):Nat:=(kiR l (sV l k n) (sJ3 l k n m) m).2.2
def sKU (l:List Int) (k n m:Nat):List Rat:=knX l (sU l k n) (sJ2 l k) m
def sKV (l:List Int) (k n m:Nat):List Rat:=knX l (sV l k n) (sJ3 l k n m) m
def sH (l:List Int) (k n m:Nat):Bool:=decide (lG l (sJ4 l k n m) 3=2)
def sA (l:List Int) (k n m:Nat):Nat:=sU l k n+1+kiN l (sJ2 l k) m
def sB (l:List Int) (k n m:Nat):Nat:=sV l k n+1+kiN l (sJ3 l k n m) m
def sR (l:List Int) (k n m:Nat):List (List PoR):=ssV l (sH l k n m) (sB l k n m) 0 (sA l k n m) (iM l (sJ4 l k n m))
def sE (l:List Int) (k n m:Nat):Nat:=ssK l (sB l k n m) (sA l k n m) (iM l (sJ4 l k n m))
structure sIn (l:List Int) (k n m:Nat):Prop where
 u1:1≤sU l k n
 un:sU l k n≤n
 ue:(sU l k n:Int)=1+lG l k (n:Int)
 v1:1≤sV l k n
 vn:sV l k n≤n
 ve:(sV l k n:Int)=1+lG l (iM l k) (n:Int)
 j1:iM l k≤500
 j2:sJ2 l k≤500
 j3:sJ3 l k n m≤500
 j4:sJ4 l k n m≤500
 j5:iM l (sJ4 l k n m)≤500
 ku:kOK (sKU l k n m) (sU l k n)
 kv:kOK (sKV l k n m) (sV l k n)
 lu:(sKU l k n m).length=sU l k n+1+sA l k n m
 lv:(sKV l k n m).length=sV l k n+1+sB l k n m
 a8:sA l k n m≤9
 b8:sB l k n m≤9
 rl:(sR l k n m).length=sA l k n m
 rk:∀ r∈sR l k n m,r.length=sB l k n m∧∀ q∈r,pY 4 q
theorem aEZ (l:List Int) {k n m:Nat} (hl:l.length≤500) (hk:k≤500) (hn:0<n) (hn6:n≤6) (hm:m≤2):sIn l k n m:=by
 obtain⟨u1,un,ue⟩:=aJ3 l k hn
 obtain⟨v1,vn,ve⟩:=aJ3 l (iM l k) hn
 have j1:=iB (l:=l) hl hk
 have j2:sJ2 l k≤500:=iB (l:=l) hl j1
 obtain⟨ku,lu,j3⟩:=aHd l (d:=sU l k n) (m:=m) hl j2 u1 (Nat.le_trans un hn6) hm
 have j3:sJ3 l k n m≤500:=j3
 obtain⟨kv,lv,j4⟩:=aHd l (k:=sJ3 l k n m) (d:=sV l k n) (m:=m) hl j3 v1 (Nat.le_trans vn hn6) hm
 have n1:=(tD l (sJ2 l k) m).2
 have n2:=(tD l (sJ3 l k n m) m).2
 have ha:sA l k n m≤9:=by unfold sA;have:sU l k n≤n:=un;omega
 have hb:sB l k n m≤9:=by unfold sB;have:sV l k n≤n:=vn;omega
 exact⟨u1,un,ue,v1,vn,ve,j1,j2,j3,j4,iB hl j4,ku,kv,by unfold sKU sA;omega,by unfold sKV sB;omega,ha,hb,aDv ..,aHf l _ (by omega) _ _ _ (by omega)⟩
theorem aJU (l:List Int) (q:Nat):pY 1 (o6 l q):=⟨aKl l q,aKb _ _,aG8 _ _⟩
theorem aJS {x y z:Rat} {i j:Nat} (h1:rl x≤1) (h2:rl y≤1) (h3:rl z≤1) (hi:i≤100) (hj:j≤100) :
  rl (((1:Int):Rat)/((8:Int):Rat))=1∧rl (((1:Int):Rat)/((4:Int):Rat))=1∧rl ((2*(i:Int):Int):Rat)+rl (x*(((1:Int):Rat)/((8:Int):Rat)))≤4∧rl ((2*(j:Int):Int):Rat)+rl (y*(((1:Int):Rat)/((8:Int):Rat)))≤4∧rl (z*(((1:Int):Rat)/((4:Int):Rat)))≤4:=by
 have e8:rl (((1:Int):Rat)/((8:Int):Rat))=1:=by decide +kernel
 have e4:rl (((1:Int):Rat)/((4:Int):Rat))=1:=by decide +kernel
 have a1:rl ((2*(i:Int):Int):Rat)≤1:=lN (by omega)
 have a2:rl ((2*(j:Int):Int):Rat)≤1:=lN (by omega)
 have m1:=cS x (((1:Int):Rat)/((8:Int):Rat))
 have m2:=cS y (((1:Int):Rat)/((8:Int):Rat))
 have m3:=cS z (((1:Int):Rat)/((4:Int):Rat))
 exact⟨e8,e4,by omega,by omega,by omega⟩
namespace Zq8
theorem dG {p q:Prop} (k:q) (e:p=q:=by simp only [e1,e2,e3,e4,p1,p2,p3,q1,q2,q3,l1,t0,t1,r1,r2,r3,r4,Nat.zero_add,Nat.reduceMul,Nat.reduceAdd,b1,b2,b3,b4,b5,b6,i1,i2,i3,i4,i5,i6,Nat.reduceBEq,l1,etk,egp,egq,fW,hlu,hlv,dS,aC gY,List.length_map,bJ,cI,bQ,List.length_cons,List.length_nil,List.length_map,List.set_cons_zero,List.set_cons_succ,Nat.reduceEqDiff,reduceIte,if_true,if_false,bG,bF,aC eI,aC aD,aS,aZ,LV.kill,bB,kX];exact rfl):p:=e.mpr k
end Zq8
open Zq8 in
theorem aCB (l:List Int) (k:Nat) (hl:l.length≤500) (n:Nat) (hn:0<n) (hn6:n≤6) (m:Nat) (hm:m≤2) (hk:k≤500):gH Tryz.prog 11 ⟨2,[fJ l k],true⟩ [.eptr 0 2 0 0,aE n,aE m] (.agg [aE (sU l k n),aE (sV l k n),.list 3 ((sKU l k n m).map ratL),.list 3 ((sKV l k n m).map ratL),.list 1 ((sR l k n m).map cM)]) ⟨2,[fJ l (sE l k n m)],true⟩:=by
 have hS:=aEZ l hl hk hn hn6 hm
 have hu1:=hS.u1
 have hun:=hS.un
 have hv1:=hS.v1
 have hvn:=hS.vn
 have hj1:=hS.j1
 have hj2:=hS.j2
 have hj3:=hS.j3
 have hj4:=hS.j4
 have hj5:=hS.j5
 have hlu:=hS.lu
 have hlv:=hS.lv
 have ha8:=hS.a8
 have hb8:=hS.b8
 have hb:=iO (l:=l) (k:=k) (n:=(n:Int)) (by omega)
 have hb1:=iO (l:=l) (k:=iM l k) (n:=(n:Int)) (by omega)
 have hA:dW .add .i64 1 (lG l k (n:Int))=some (.int .i64 (((sU l k n):Nat):Int)):=by rw [hS.ue];exact iS (by omega) (by omega)
 have hA2:dW .add .i64 1 (lG l (iM l k) (n:Int))=some (.int .i64 (((sV l k n):Nat):Int)):=by rw [hS.ve];exact iS (by omega) (by omega)
 have hku:=aG aD 3 (sKU l k n m)
 have hkv:=aG aD 3 (sKV l k n m)
 refine fnM Tryz.func11 ?_
 have etk:True:=trivial
 have egp:True:=trivial
 have egq:True:=trivial
 refine dU ?_
 refine cG 0 rfl rfl rfl (aR l _) (.cons .ptr (.cons (.imm (.pure rfl)) .nil)) .ptr (iF l k n (by omega) (by omega) (by omega) (by omega)) rfl (aR l _) rfl ?_
 refine aB rfl (.bin rfl rfl (hA)) ?_
 refine cY ?_
 refine cG 0 rfl rfl rfl (aR l _) (.cons .ptr (.cons (.imm (.pure rfl)) .nil)) .ptr (iF l (iM l k) n (by omega) (by omega) (by omega) (by omega)) rfl (aR l _) rfl ?_
 refine aB rfl (.bin rfl rfl (hA2)) ?_
 refine dB ?_
 refine eB (fun L=>∃  (L1:St),(True)∧L=((((St.mk L1.slot (hp [(0,⟨2,[fJ l (sJ4 l k n m)],true⟩),(6,⟨5,[.agg [.v (.int .i64 0),.v (.int .i64 0),.v (.slice none 0 0),.v (.slice none 0 0),.v (.slice none 0 0)]],true⟩),(7,⟨5,[.agg [aE (sU l k n),aE (sV l k n),.list 3 ((sKU l k n m).map ratL),.list 3 ((sKV l k n m).map ratL),.v (.slice none 0 0)]],true⟩)])).put (some 0) (.eptr 0 2 0 0)).put (some 6) (.eptr 6 5 0 0)).put (some 7) (.eptr 7 5 0 0))) ?_ ?_
 ·refine qJ ?_
  refine dT 0 rfl rfl (by decide +kernel) (.move _) ?_
  refine dT 1 rfl rfl (by decide +kernel) mC ?_
  refine dT 3 rfl rfl (by decide +kernel) (.move _) ?_
  refine dT 5 rfl rfl (by decide +kernel) (.move _) ?_
  refine dT 6 rfl rfl (by decide +kernel) mC ?_
  refine dT 8 rfl rfl (by decide +kernel) (.move _) ?_
  refine dO 2 7 _ _ (by decide +kernel) rfl rfl ?_ ?_
  ·refine bE ?_
   refine aF ?_
   refine dO 4 7 _ _ (by decide +kernel) rfl rfl ?_ ?_
   ·refine cG 0 rfl rfl rfl (aR l _) (.cons .ptr (.cons (.imm (.pure rfl)) (.cons (.imm (.pure rfl)) .nil))) .ptr (gO l (sJ2 l k) (by omega) (sU l k n) (by omega) (by omega) m hm (by omega)) rfl (aR l _) (aG aD 3 _) ?_
    refine aF ?_
    refine aN 7 _ (by decide +kernel) rfl ?_
    refine bE ?_
    refine aF ?_
    refine dT 10 rfl rfl (by decide +kernel) mC ?_
    refine aN 9 _ (by decide +kernel) rfl ?_
    refine cG 0 rfl rfl rfl (aR l _) (.cons .ptr (.cons (.imm (.pure rfl)) (.cons (.imm (.pure rfl)) .nil))) .ptr (gO l (sJ3 l k n m) (by omega) (sV l k n) (by omega) (by omega) m hm (by omega)) rfl (aR l _) (aG aD 3 _) ?_
    refine aF ?_
    refine aN 11 _ (by decide +kernel) rfl ?_
    refine bE ?_
    refine aF ?_
    refine aN 12 _ (by decide +kernel) rfl ?_
    refine bE ?_
    refine aF ?_
    refine aN 13 _ (by decide +kernel) rfl ?_
    refine bE ?_
    refine aF ?_
    refine cK (by decide +kernel) ?_
    refine bE ?_
    exact⟨_,trivial,((aA (aA (aA (bC cl) cl) cl) cl)).symm⟩
   ·refine bE ?_
    refine aF ?_
    refine aN 4 _ (by decide +kernel) rfl ?_
    refine cG 0 rfl rfl rfl (aR l _) (.cons .ptr (.cons (.imm (.pure rfl)) (.cons (.imm (.pure rfl)) .nil))) .ptr (gO l (sJ2 l k) (by omega) (sU l k n) (by omega) (by omega) m hm (by omega)) rfl (aR l _) (aG aD 3 _) ?_
    refine aF ?_
    refine dT 10 rfl rfl (by decide +kernel) mC ?_
    refine aN 9 _ (by decide +kernel) rfl ?_
    refine cG 0 rfl rfl rfl (aR l _) (.cons .ptr (.cons (.imm (.pure rfl)) (.cons (.imm (.pure rfl)) .nil))) .ptr (gO l (sJ3 l k n m) (by omega) (sV l k n) (by omega) (by omega) m hm (by omega)) rfl (aR l _) (aG aD 3 _) ?_
    refine aF ?_
    refine aN 11 _ (by decide +kernel) rfl ?_
    refine bE ?_
    refine aF ?_
    refine aN 12 _ (by decide +kernel) rfl ?_
    refine bE ?_
    refine aF ?_
    refine aN 13 _ (by decide +kernel) rfl ?_
    refine bE ?_
    refine aF ?_
    refine cK (by decide +kernel) ?_
    refine bE ?_
    exact⟨_,trivial,((aA (aA (aA (bC cl) cl) cl) cl)).symm⟩
  ·refine bE ?_
   refine aF ?_
   refine aN 2 _ (by decide +kernel) rfl ?_
   refine bE ?_
   refine aF ?_
   refine aN 4 _ (by decide +kernel) rfl ?_
   refine cG 0 rfl rfl rfl (aR l _) (.cons .ptr (.cons (.imm (.pure rfl)) (.cons (.imm (.pure rfl)) .nil))) .ptr (gO l (sJ2 l k) (by omega) (sU l k n) (by omega) (by omega) m hm (by omega)) rfl (aR l _) (aG aD 3 _) ?_
   refine aF ?_
   refine dT 10 rfl rfl (by decide +kernel) mC ?_
   refine aN 9 _ (by decide +kernel) rfl ?_
   refine cG 0 rfl rfl rfl (aR l _) (.cons .ptr (.cons (.imm (.pure rfl)) (.cons (.imm (.pure rfl)) .nil))) .ptr (gO l (sJ3 l k n m) (by omega) (sV l k n) (by omega) (by omega) m hm (by omega)) rfl (aR l _) (aG aD 3 _) ?_
   refine aF ?_
   refine aN 11 _ (by decide +kernel) rfl ?_
   refine bE ?_
   refine aF ?_
   refine aN 12 _ (by decide +kernel) rfl ?_
   refine bE ?_
   refine aF ?_
   refine aN 13 _ (by decide +kernel) rfl ?_
   refine bE ?_
   refine aF ?_
   refine cK (by decide +kernel) ?_
   refine bE ?_
   exact⟨_,trivial,((aA (aA (aA (bC cl) cl) cl) cl)).symm⟩
 ·rintro _ ⟨LR2,-,rfl⟩
  refine cO ?_
  refine cG 0 rfl rfl rfl (aR l _) (.cons .ptr (.cons (.imm (.pure rfl)) .nil)) .ptr (iF l (sJ4 l k n m) 3 (by omega) (by omega) (by omega) (by omega)) rfl (aR l _) rfl ?_
  refine cV ?_
  refine eZ ((bI.cell 7 rfl (fun Z μ w cs h=>aAb 100 1 _ _ _ _ Z μ w cs h)).trans (bI.newB _ 100 1 rfl)) ?_
  refine lp4 (fun(i p c:Nat) (o:List (List PoR)) L=>((((((St.mk L.slot (hp [(0,⟨2,[fJ l p],true⟩),(6,⟨5,[.agg [.v (.int .i64 0),.v (.int .i64 0),.v (.slice none 0 0),.v (.slice none 0 0),.v (.slice none 0 0)]],true⟩),(7,⟨5,[.agg [aE (sU l k n),aE (sV l k n),.list 3 ((sKU l k n m).map ratL),.list 3 ((sKV l k n m).map ratL),.ref 100 1 0 i]],true⟩),(100,⟨1,o.map cM,true⟩)])).put (some 0) (.eptr 0 2 0 0)).put (some 6) (.eptr 6 5 0 0)).put (some 7) (.eptr 7 5 0 0)).put (some 8) (bL (sH l k n m))).put (some 9) (aE i))) (fun i p c o=>p≤500∧o.length=i∧i+c=(sA l k n m)∧o++ssV l (sH l k n m) (sB l k n m) i c p=sR l k n m∧ssK l (sB l k n m) c p=sE l k n m) (fun i p c o=>c) 0 (iM l (sJ4 l k n m)) (sA l k n m) ([]) ⟨hj5,rfl,by simp,rfl,rfl⟩ ?_
  rintro i p c o L1 ⟨hp5,hol,hic,hR,hE⟩
  refine dU ?_
  refine aB rfl (.bin rfl rfl (iK (by omega) (by omega))) ?_
  refine aB rfl (.bin rfl rfl (iK (by omega) (by omega))) ?_
  refine cP ?_
  refine aK rfl (fun h45r h45=>?_) (fun h45r h45=>?_)
  ·have etk:(o.map cM).take i=o.map cM:=List.take_of_length_le (by simp;omega)
   obtain⟨e,rfl⟩:∃ e,c=e+1:=⟨c-1,by omega⟩
   refine mY ?_
   refine eZ (bI.own (t:=10) 95 12 rfl rfl) ?_
   refine lp3 (fun(d q:Nat) (r:List PoR) L=>((((((((St.mk L.slot (hp [(0,⟨2,[fJ l q],true⟩),(6,⟨5,[.agg [.v (.int .i64 0),.v (.int .i64 0),.v (.slice none 0 0),.v (.slice none 0 0),.v (.slice none 0 0)]],true⟩),(7,⟨5,[.agg [aE (sU l k n),aE (sV l k n),.list 3 ((sKU l k n m).map ratL),.list 3 ((sKV l k n m).map ratL),.ref 100 1 0 i]],true⟩),(100,⟨1,o.map cM,true⟩),(95,⟨12,r.map gZ,true⟩)])).put (some 0) (.eptr 0 2 0 0)).put (some 6) (.eptr 6 5 0 0)).put (some 7) (.eptr 7 5 0 0)).put (some 8) (bL (sH l k n m))).put (some 9) (aE i)).put (some 10) (.ref 95 12 0 r.length)).put (some 11) (aE r.length))) (fun d q r=>q≤500∧r.length+d=(sB l k n m)∧r++srV l (sH l k n m) i r.length d q=srV l (sH l k n m) i 0 (sB l k n m) p∧dqK l q d=dqK l p (sB l k n m)) (fun d q r=>d) (sB l k n m) p ([]) ⟨hp5,by simp,rfl,rfl⟩ ?_
   rintro d q r L2 ⟨hq5,hrl,hV,hK⟩
   refine dU ?_
   refine aB rfl (.bin rfl rfl (iK (by omega) (by omega))) ?_
   refine aB rfl (.bin rfl rfl (iK (by omega) (by omega))) ?_
   refine cP ?_
   refine aK rfl (fun h56r h56=>?_) (fun h56r h56=>?_)
   ·obtain⟨f,rfl⟩:∃ f,d=f+1:=⟨d-1,by omega⟩
    obtain⟨⟨hx1,hx2,hx3⟩,hx4,_⟩:=aJU l q
    obtain⟨hz1,hz2,hz3,hz4,hz5⟩:=aJS (i:=i) (j:=r.length) hx1 hx2 hx3 (by omega) (by omega)
    skip
    refine dL ?_
    refine cG 0 rfl rfl rfl (aR l _) (.cons .ptr (.cons (.imm (.pure rfl)) .nil)) .ptr (aEe l q (by omega) (by omega)) rfl (aR l _) (eI.pure _) ?_
    refine cV ?_
    refine aK rfl (fun h62r h62=>?_) (fun h62r h62=>?_)
    ·have hwd:(sH l k n m)=false:=by simpa using h62
     have egp:LV.agg [.agg [ratL (((2*(i:Int):Int):Rat)+(o6 l q).p.x*(((1:Int):Rat)/((8:Int):Rat))),ratL (((2*(r.length:Int):Int):Rat)+(o6 l q).p.y*(((1:Int):Rat)/((8:Int):Rat))),ratL ((o6 l q).p.z*(((1:Int):Rat)/((4:Int):Rat)))],ratL (o6 l q).w]=gZ (gpV (sH l k n m) i r.length (o6 l q)):=by unfold gpV;rw [hwd];rfl
     refine bE ?_
     refine aP 11 (by decide +kernel) ?_
     refine bE ?_
     refine aB rfl (.bin rfl rfl (tX (by omega) (by omega))) ?_
     refine cp dC (jE (2*(i:Int)) (by omega) (by omega)) ?_
     refine cP ?_
     refine cp b9 (kK 1 8 (by decide) (by decide) (by decide) (by decide) (by decide)) ?_
     refine cp b9 (f8 (o6 l q).p.x _ (by omega)) ?_
     refine cp b9 (jI _ _ (by omega)) ?_
     refine dB ?_
     refine aP 11 (by decide +kernel) ?_
     refine bE ?_
     refine aB rfl (.bin rfl rfl (tX (by omega) (by omega))) ?_
     refine cp dC (jE (2*(r.length:Int)) (by omega) (by omega)) ?_
     refine cP ?_
     refine cp b9 (kK 1 8 (by decide) (by decide) (by decide) (by decide) (by decide)) ?_
     refine cp b9 (f8 (o6 l q).p.y _ (by omega)) ?_
     refine cp b9 (jI _ _ (by omega)) ?_
     refine dR ?_
     refine aP 7 (by decide +kernel) ?_
     refine cP ?_
     refine cp b9 (kK 1 4 (by decide) (by decide) (by decide) (by decide) (by decide)) ?_
     refine cp b9 (f8 (o6 l q).p.z _ (by omega)) ?_
     refine dU ?_
     first | refine bD rfl (.appX (d:=95) (news:=[gZ (gpV (sH l k n m) i r.length (o6 l q))]) rfl rfl rfl rfl (by simp) (.inl rfl) (by decide) Tryz.underlying60 Tryz.underlying60 Z62 uC cs B62 (.inl ⟨94,0,_,rfl,by decide,rfl,rfl,by simp,rfl,by simp [aY,eI.pure]⟩) (by simp;omega) (by simp;omega) (by decide)) ?_ | refine bD rfl (.appX (d:=95) (news:=[gZ (o6 l q)]) rfl rfl rfl rfl (by simp) (.inl rfl) (by decide) Tryz.underlying60 Tryz.underlying60 Z62 uC cs B62 (.inl ⟨94,0,_,rfl,by decide,rfl,rfl,by simp,rfl,by simp [aY,eI.pure]⟩) (by simp;omega) (by simp;omega) (by decide)) ?_
     refine cO ?_
     refine bR ((bI.kill _ 94).trans (bI.kill _ 12)) ?_
     refine bE ?_
     refine aB rfl (.bin rfl rfl (bV (by omega))) ?_
     refine cP ?_
     exact nx3 f (dpK l q) (r++[gpV (sH l k n m) i r.length (o6 l q)]) ⟨xA hl hq5,by simp;omega,by rw [List.append_assoc,bQ];exact hV,hK⟩
    ·have hwd:(sH l k n m)=true:=by simpa using h62
     have egq:r++[(o6 l q)]=r++[(gpV (sH l k n m) i r.length (o6 l q))]:=by unfold gpV;rw [hwd];rfl
     refine dB ?_
     first | refine bD rfl (.appX (d:=95) (news:=[gZ (gpV (sH l k n m) i r.length (o6 l q))]) rfl rfl rfl rfl (by simp) (.inl rfl) (by decide) Tryz.underlying60 Tryz.underlying60 Z62 uC cs B62 (.inl ⟨94,0,_,rfl,by decide,rfl,rfl,by simp,rfl,by simp [aY,eI.pure]⟩) (by simp;omega) (by simp;omega) (by decide)) ?_ | refine bD rfl (.appX (d:=95) (news:=[gZ (o6 l q)]) rfl rfl rfl rfl (by simp) (.inl rfl) (by decide) Tryz.underlying60 Tryz.underlying60 Z62 uC cs B62 (.inl ⟨94,0,_,rfl,by decide,rfl,rfl,by simp,rfl,by simp [aY,eI.pure]⟩) (by simp;omega) (by simp;omega) (by decide)) ?_
     refine cO ?_
     refine bR ((bI.kill _ 94).trans (bI.kill _ 12)) ?_
     refine bE ?_
     refine aB rfl (.bin rfl rfl (bV (by omega))) ?_
     refine cP ?_
     exact nx3 f (dpK l q) (r++[gpV (sH l k n m) i r.length (o6 l q)]) ⟨xA hl hq5,by simp;omega,by rw [List.append_assoc,bQ];exact hV,hK⟩
   ·obtain rfl:d=0:=by omega
    rw [srV,List.append_nil] at hV
    rw [dqK] at hK
    subst hV hK
    refine dR ?_
    refine bR (bI.hand (t:=10) (b:=95) eI rfl rfl rfl) ?_
    refine cO ?_
    refine bD rfl (.appX (d:=100) (news:=[cM (srV l (sH l k n m) i 0 (sB l k n m) p)]) rfl rfl rfl rfl (by simp [aC gY];omega) (.inl rfl) (by decide) Tryz.underlying37 Tryz.underlying37 prZ T60 cs B60 (.inl ⟨99,0,_,rfl,by decide,rfl,rfl,by simp,rfl,by simp [aY,gY.pure]⟩) (by simp [aC gY];omega) (by simp [aC gY];omega) (by decide)) ?_
    refine dR ?_
    refine bR (bI.kill _ 99) ?_
    refine bE ?_
    refine aB rfl (.bin rfl rfl (bV (by omega))) ?_
    refine cP ?_
    exact nx4 (i+1) (dqK l p (sB l k n m)) e (o++[srV l (sH l k n m) i 0 (sB l k n m) p]) ⟨aCl hl _ _ hp5,by simp;omega,by omega,by rw [List.append_assoc];exact hR,hE⟩
  ·obtain rfl:c=0:=by omega
   rw [ssV,List.append_nil] at hR
   rw [ssK] at hE
   subst hol
   refine cW ?_
   rw [←hR,←hE]
   exact aK4 [100] rfl rfl rfl rfl rfl T39 (.agg (.cons (.pure rfl) (.cons (.pure rfl) (.cons (.pure hku) (.cons (.pure hkv) (.cons (cA gY rfl rfl rfl) .nil)))))) rfl rfl (aR l _)
theorem aGy (u v:Int) (c:List Rat):LV.pure (.agg [iL u,iL v,.list 3 (c.map ratL)])=true:=by simp [LV.pure,aY,aH aD]
theorem bH (u v:Nat) (c:List Rat):LV.pure (.agg [aE u,aE v,.list 3 (c.map ratL)])=true:=aGy u v c
theorem xT {a b n:Nat} (h:a*b=n) (hn:n≤9223372036854775807):dW .mul .i64 (a:Nat) (b:Nat)=some (.int .i64 (n:Nat)):=by
 rw [tX (by rw [←Int.natCast_mul,h];omega) (by rw [←Int.natCast_mul,h];omega),←Int.natCast_mul,h]
def gL (n:Nat) (W:Nat→Rat):List Rat:=(List.range n).map W
theorem iC (n:Nat) (W:Nat→Rat):(gL n W).length=n:=by simp [gL]
theorem uN (n:Nat) (W:Nat→Rat):gL (n+1) W=gL n W++[W n]:=by simp [gL,List.range_succ]
theorem aCw {n:Nat} {W:Nat→Rat} {x:Nat} (h:x<n):(gL n W).getD x 0=W x:=by
 rw [List.getD_eq_getElem?_getD,List.getElem?_eq_getElem (by rw [iC];exact h)];simp [gL]
theorem aAr (n:Nat) (W:Nat→Rat) (f:Rat→LV):((gL n W).map f).take n=(gL n W).map f:=by rw [List.take_of_length_le (by simp [iC])]
theorem pF {V i j:Nat} (h:j≤V):(i*(V+1)+j)/(V+1)=i:=by
 rw [Nat.add_comm,Nat.add_mul_div_right _ _ (Nat.succ_pos V),Nat.div_eq_of_lt (by omega),Nat.zero_add]
theorem o7 {V i j:Nat} (h:j≤V):(i*(V+1)+j) % (V+1)=j:=by
 rw [Nat.add_comm,Nat.add_mul_mod_self_right,Nat.mod_eq_of_lt (by omega)]
theorem oO {U V i j:Nat} (hi:i≤U) (hj:j≤V):i*(V+1)+j<(U+1)*(V+1):=by
 have:=Nat.mul_le_mul_right (V+1) (show i+1≤U+1 by omega)
 rw [Nat.succ_mul] at this
 omega
theorem pV {n:Nat} (k:Nat) (hn:n≤40):rl (((k5 n k:Nat):Int):Rat)≤2:=by
 rcases Nat.lt_or_ge n k with h | h
 ·rw [vG h];decide
 ·have h1:=vX hn _ (cC (i:=k) (by rw [aAs];omega))
  rw [aDM h] at h1;exact h1
def wtV (U V:Nat) (c:List Rat) (x:Nat):Rat:=((k5 U (x/(V+1)):Nat):Int)*((k5 V (x % (V+1)):Nat):Int)*c.getD x 0
def swV (U V:Nat) (c:List Rat) (x:Nat):Rat:=c.getD (x % (U+1)*(V+1)+x/(U+1)) 0
def oS (U V:Nat) (c:List Rat):List Rat:=gL ((U+1)*(V+1)) (wtV U V c)
def n6 (U V:Nat) (c:List Rat):List Rat:=gL ((V+1)*(U+1)) (swV U V c)
theorem aJH {U V:Nat} {c:List Rat} {R:Nat} (hU:U≤40) (hV:V≤40) (hR:1≤R) (h:∀ x∈c,rl x≤R):∀ x∈oS U V c,rl x≤R+6:=by
 intro x hx
 obtain⟨i,_,rfl⟩:=List.mem_map.1 hx
 have h1:=pV (n:=U) (i/(V+1)) hU
 have h2:=pV (n:=V) (i % (V+1)) hV
 have h3:=fH hR h i
 have h4:=cS (((k5 U (i/(V+1)):Nat):Int):Rat) (((k5 V (i % (V+1)):Nat):Int):Rat)
 have h5:=cS ((((k5 U (i/(V+1)):Nat):Int):Rat)*(((k5 V (i % (V+1)):Nat):Int):Rat)) (c.getD i 0)
 show rl (wtV U V c i)≤_
 unfold wtV
 omega
theorem aLg {W:Nat→Rat} {o:List Rat} {m:Nat} {v:Rat} (h:m<o.length) (hv:v=W m):(gL m W++o.drop m).set m v=gL (m+1) W++o.drop (m+1):=by
 subst hv
 rw [List.drop_eq_getElem_cons h,aEp _ _ _ _ (iC m W).symm,uN,List.append_assoc];rfl
theorem aLy {W:Nat→Rat} {o:List Rat} {m:Nat}:(gL m W++o.drop m).getD m 0=o.getD m 0:=by
 rw [qE _ _ _ (by rw [iC];exact Nat.le_refl _),iC,Nat.sub_self,oL,Nat.add_zero]
section
variable (V1 V2 W U2:Nat) (x y:List Rat) (i j k:Nat)
def mL:Nat→List Rat→List Rat
 | 0,o=>o
 | l+1,o=>(mL l o).set ((i+k)*(W+1)+j+l) ((mL l o).getD ((i+k)*(W+1)+j+l) 0+x.getD (i*(V1+1)+j) 0*y.getD (k*(V2+1)+l) 0)
def mK:Nat→List Rat→List Rat
 | 0,o=>o
 | k+1,o=>mL V1 V2 W x y i j k (V2+1) (mK k o)
def mJ:Nat→List Rat→List Rat
 | 0,o=>o
 | j+1,o=>mK V1 V2 W x y i j (U2+1) (mJ j o)
def mI:Nat→List Rat→List Rat
 | 0,o=>o
 | i+1,o=>mJ V1 V2 W U2 x y i (V1+1) (mI i o)
end
def nZ (U1 V1 U2 V2:Nat) (a b:List Rat):List Rat:=mI V1 V2 (V1+V2) U2 (oS U1 V1 a) (oS U2 V2 b) (U1+1) (List.replicate ((U1+U2+1)*(V1+V2+1)) 0)
def dvV (U V:Nat) (o:List Rat) (x:Nat):Rat:=o.getD x 0/((((k5 U (x/(V+1)):Nat):Int):Rat)*(((k5 V (x % (V+1)):Nat):Int):Rat))
def sT (U1 V1 U2 V2:Nat) (a b:List Rat):List Rat:=gL ((U1+U2+1)*(V1+V2+1)) (dvV (U1+U2) (V1+V2) (nZ U1 V1 U2 V2 a b))
namespace Zq124
theorem dG {p q:Prop} (k:q) (e:p=q:=by simp only [e1,e2,e3,e4,p1,p2,p3,q1,q2,q3,l1,t0,t1,r1,r2,r3,r4,Nat.zero_add,Nat.reduceMul,Nat.reduceAdd,b1,b2,b3,b4,b5,b6,i1,i2,i3,i4,i5,i6,Nat.reduceBEq,dfi,aML,List.append_nil,iD,ek1,ek2,egr,bJ,cI,bQ,List.length_cons,List.length_nil,aC rE,aC aD,LV.kill,bB];exact rfl):p:=e.mpr k
end Zq124
open Zq124 in
theorem p8 (n:Nat) (hn:n≤40):aM Tryz.prog 266 [aE n] (.list 1 ((nR n).map lJ)):=by
 refine dI Tryz.func266 (ht:=(fun g=>LV.ren_pure g _ (aG rE _ _))) ?_
 have ek1:True:=trivial
 have ek2:True:=trivial
 have egr:True:=trivial
 refine mZ ?_
 refine eZ (bI.mv (t:=3) (b:=5) 11 (by decide) (by decide) (by decide) rfl rfl rfl) ?_
 refine lX (fun(k:Nat) L=>((((St.mk L.slot (hp [(11,⟨1,(nR k).map lJ,true⟩)])).put (some 3) (.ref 11 1 0 (k+1))).put (some 6) (aE n)).put (some 7) (aE k))) (fun k=>k≤n) (fun k=>n-k) 0 (Nat.zero_le _) ?_
 rintro k L1 hk
 refine dB ?_
 refine aK rfl (fun h8r h8=>?_) (fun h8r h8=>?_)
 ·have hkn:k<n:=by omega
  have ek2:((((k+1+1:Nat)):Int)-2)=(k:Int):=by omega
  refine eC ?_
  refine bD rfl (.app (news:=[lJ 1]) rfl rfl rfl rfl rfl (by simp [iD]) (.inl rfl) (by decide) Tryz.underlying239 Tryz.underlying239 Z2 T2 rfl B2 (.inl ⟨10,0,_,rfl,by decide,rfl,rfl,by simp,rfl,rfl⟩) (by simp;omega) (by simp;omega) (by decide)) ?_
  refine cO ?_
  refine bR (bI.kill _ 10) ?_
  refine dL ?_
  refine nD (fun(i:Nat) (o:List Int) L=>(((((St.mk L.slot (hp [(11,⟨1,o.map lJ,true⟩)])).put (some 3) (.ref 11 1 0 (k+1+1))).put (some 4) (aE i)).put (some 6) (aE n)).put (some 7) (aE k))) (fun i o=>i≤k∧aEG k i o) (fun i o=>i) k (nR k++[1]) ⟨Nat.le_refl _,aHN k⟩ ?_
  rintro i o L2 ⟨hi,hP⟩
  refine dL ?_
  refine aK rfl (fun h16r h16=>?_) (fun h16r h16=>?_)
  ·obtain⟨j,rfl⟩:∃ j,i=j+1:=⟨i-1,by omega⟩
   have ek1:(((j+1:Nat):Int)-1)=(j:Int):=by omega
   have hol:=hP.1
   have hb1:=aHX hP (by omega) (x:=j+1) (by omega)
   have hb2:=aHX hP (by omega) (x:=j) (by omega)
   refine cO ?_
   refine aP 11 (by decide +kernel) ?_
   refine aC8 ?_
   exact lI j (o.set (j+1) (o.getD (j+1) 0+o.getD j 0)) ⟨by omega,aGm hP hi⟩
  ·obtain rfl:i=0:=by omega
   have hE:=aIf hP
   subst hE
   refine cV ?_
   exact kE (k+1) (by omega)
 ·obtain rfl:n=k:=by omega
  refine cW ?_
  exact kP [11] rfl rfl (cA rE rfl rfl (by rw [iD]))
open H0 in
theorem sG (U V:Nat) (c:List Rat) (hc:c.length=(U+1)*(V+1)) (hl:c.length≤1048576):aM Tryz.prog 212 [.agg [aE U,aE V,.list 3 (c.map ratL)]] (bL true):=by
 have hU:U+1≤c.length:=by rw [hc];exact Nat.le_mul_of_pos_right _ (Nat.succ_pos V)
 have hV:V+1≤c.length:=by rw [hc];exact Nat.le_mul_of_pos_left _ (Nat.succ_pos U)
 have hnp:=bH U V c
 refine dI Tryz.func212 ?_
 refine cW ?_
 refine aB (aL (v:=true) rfl rfl ((decide_eq_true (by omega))) rfl) mC ?_
 refine aB (aL (v:=true) rfl rfl ((decide_eq_true (by omega))) rfl) kS ?_
 refine aB (aL (v:=true) rfl rfl ((decide_eq_true (by omega))) rfl) (.bin rfl rfl rfl) ?_
 refine aB rfl (.pickT rfl ((decide_eq_true (by omega)))) ?_
 refine bE ?_
 refine aB (aL (v:=true) rfl rfl ((decide_eq_true (by omega))) rfl) mC ?_
 refine aB (aL (v:=true) rfl rfl ((decide_eq_true (by omega))) rfl) kS ?_
 refine aB (aL (v:=true) rfl rfl ((decide_eq_true (by omega))) rfl) mC ?_
 refine aB (aL (v:=true) rfl rfl ((decide_eq_true (by omega))) rfl) kS ?_
 refine aB (aL (v:=true) rfl rfl ((decide_eq_true (by omega))) rfl) lnA ?_
 refine aB (aL (v:=true) rfl rfl ((decide_eq_true (by omega))) rfl) (.bin rfl rfl rfl) ?_
 refine aB rfl (.pickT rfl ((decide_eq_true (by omega)))) ?_
 refine bE ?_
 refine aB (aL (v:=true) rfl rfl ((decide_eq_true (by omega))) rfl) mC ?_
 refine aB (aL (v:=true) rfl rfl ((decide_eq_true (by omega))) rfl) kS ?_
 refine aB (aL (v:=true) rfl rfl ((decide_eq_true (by omega))) rfl) mC ?_
 refine aB (aL (v:=true) rfl rfl ((decide_eq_true (by omega))) rfl) kS ?_
 refine aB (aL (v:=true) rfl rfl ((decide_eq_true (by omega))) rfl) lnA ?_
 refine aB (aL (v:=true) rfl rfl ((decide_eq_true (by omega))) rfl) (.bin rfl rfl rfl) ?_
 refine aB rfl (.pickT rfl ((decide_eq_true (by omega)))) ?_
 refine bE ?_
 refine aB (aL (v:=true) rfl rfl ((decide_eq_true (by omega))) rfl) mC ?_
 refine aB (aL (v:=true) rfl rfl ((decide_eq_true (by omega))) rfl) kS ?_
 refine aB (aL (v:=true) rfl rfl ((decide_eq_true (by omega))) rfl) lnA ?_
 refine aB (aL (v:=true) rfl rfl ((decide_eq_true (by omega))) rfl) mC ?_
 refine aB (aL (v:=true) rfl rfl ((decide_eq_true (by omega))) rfl) kS ?_
 refine aB (aL (v:=true) rfl rfl ((decide_eq_true (by omega))) rfl) (.bin rfl rfl (bV (by omega))) ?_
 refine aB (aL (v:=true) rfl rfl ((decide_eq_true (by omega))) rfl) mC ?_
 refine aB (aL (v:=true) rfl rfl ((decide_eq_true (by omega))) rfl) kS ?_
 refine aB (aL (v:=true) rfl rfl ((decide_eq_true (by omega))) rfl) (.bin rfl rfl (bV (by omega))) ?_
 refine aB (aL (v:=true) rfl rfl ((decide_eq_true (by omega))) rfl) (.bin rfl rfl (xT hc.symm (by omega))) ?_
 refine aB (aL (v:=true) rfl rfl ((decide_eq_true (by omega))) rfl) (.bin rfl rfl rfl) ?_
 refine aB rfl (.pickT rfl ((decide_eq_true (by omega)))) ?_
 refine cO ?_
 refine bM (x:=.v (.bool (((c.length:Nat):Int)==((c.length:Nat):Int)))) rfl ?_
 rw [beq_self_eq_true]
 exact .pure rfl
namespace Zq150
theorem dG {p q:Prop} (k:q) (e:p=q:=by simp only [e1,e2,e3,e4,p1,p2,p3,q1,q2,q3,l1,t0,t1,r1,r2,r3,r4,Nat.zero_add,Nat.reduceMul,Nat.reduceAdd,b1,b2,b3,b4,b5,b6,i1,i2,i3,i4,i5,i6,Nat.reduceBEq,gW,dfi,iD,egu,egv,ewn,Nat.add_zero,aAr,bJ,cI,bQ,List.length_cons,List.length_nil,aC rE,aC aD,aS,aZ,LV.kill,bB];exact rfl):p:=e.mpr k
end Zq150
open Zq150 in
theorem wE (U V:Nat) (c:List Rat) (hc:c.length=(U+1)*(V+1)) (hl:c.length≤1048576) (hU4:U≤40) (hV4:V≤40) (R:Nat) (hR1:1≤R) (hR:R≤1073741824) (hcR:∀ x∈c,rl x≤R):aM Tryz.prog 265 [.agg [aE U,aE V,.list 3 (c.map ratL)]] (.list 3 ((oS U V c).map ratL)):=by
 have hU:U+1≤c.length:=by rw [hc];exact Nat.le_mul_of_pos_right _ (Nat.succ_pos V)
 have hV:V+1≤c.length:=by rw [hc];exact Nat.le_mul_of_pos_left _ (Nat.succ_pos U)
 have hnp:=bH U V c
 refine dI Tryz.func265 ?_
 have egu:True:=trivial
 have egv:True:=trivial
 have ewn:True:=trivial
 refine iJ ?_
 refine cp dC (p8 V hV4) ?_
 refine eC ?_
 refine cp dC (p8 U hU4) ?_
 refine dR ?_
 refine eZ (bI.own (t:=3) 47 3 rfl rfl) ?_
 refine nD (fun(i m:Nat) L=>(((((((St.mk L.slot (hp [(1,⟨3,[.agg [aE U,aE V,.list 3 (c.map ratL)]],true⟩),(47,⟨3,(gL m (wtV U V c)).map ratL,true⟩)])).put (some 1) (.eptr 1 3 0 0)).put (some 4) (.list 1 ((nR V).map lJ))).put (some 14) (.list 1 ((nR U).map lJ))).put (some 15) (aE (U+1))).put (some 16) (aE i)).put (some 3) (.ref 47 3 0 m))) (fun i m=>i≤U+1∧i*(V+1)=m) (fun i m=>U+1-i) 0 0 ⟨Nat.zero_le _,Nat.zero_mul _⟩ ?_
 rintro i m L1 ⟨hi,hm⟩
 refine dB ?_
 refine aK rfl (fun h17r h17=>?_) (fun h17r h17=>?_)
 ·have hi2:i≤U:=by omega
  have egu:=nK hi2
  have hcu:=q8 i hU4
  refine aC8 ?_
  refine lX (fun(j:Nat) L=>((((((((((((St.mk L.slot (hp [(1,⟨3,[.agg [aE U,aE V,.list 3 (c.map ratL)]],true⟩),(47,⟨3,(gL (m+j) (wtV U V c)).map ratL,true⟩)])).put (some 1) (.eptr 1 3 0 0)).put (some 4) (.list 1 ((nR V).map lJ))).put (some 14) (.list 1 ((nR U).map lJ))).put (some 15) (aE (U+1))).put (some 16) (aE i)).put (some 3) (.ref 47 3 0 (m+j))).put (some 5) (aE i)).put (some 6) (aE (k5 U i))).put (some 21) (.list 1 ((nR V).map lJ))).put (some 22) (aE (V+1))).put (some 23) (aE j))) (fun j=>j≤V+1) (fun j=>V+1-j) 0 (Nat.zero_le _) ?_
  rintro j L2 hj
  refine dB ?_
  refine aK rfl (fun h24r h24=>?_) (fun h24r h24=>?_)
  ·have hj2:j≤V:=by omega
   have egv:=nK hj2
   have hcv:=q8 j hV4
   have hix:=oO hi2 hj2
   rw [hm,←hc] at hix
   have hgl:=iC (m+j) (wtV U V c)
   have ewn:gL (m+(j+1)) (wtV U V c)=gL (m+j) (wtV U V c)++[(((k5 U i:Nat):Int):Rat)*(((k5 V j:Nat):Int):Rat)*c.getD (m+j) 0]:=by rw [←Nat.add_assoc,uN,wtV,←hm,pF hj2,o7 hj2]
   have hr1:=pV i hU4
   have hr2:=pV j hV4
   have hr3:=fH hR1 hcR (m+j)
   have hr4:=cS (((k5 U i:Nat):Int):Rat) (((k5 V j:Nat):Int):Rat)
   refine eA ?_
   refine aP 19 (by decide +kernel) ?_
   refine cY ?_
   refine cp dC (rH ((k5 U i:Nat):Int) (by omega) (by omega)) ?_
   refine bE ?_
   refine cp dC (rH ((k5 V j:Nat):Int) (by omega) (by omega)) ?_
   refine cp b9 (fN (((k5 U i:Nat):Int):Rat) (((k5 V j:Nat):Int):Rat) (by omega)) ?_
   refine dR ?_
   refine aB rfl (.bin rfl rfl (bV (by omega))) ?_
   refine aB rfl (.bin rfl rfl (xT hm (by omega))) ?_
   refine bE ?_
   refine aB rfl (.bin rfl rfl (lM (by omega))) ?_
   refine cY ?_
   refine cp b9 (fN ((((k5 U i:Nat):Int):Rat)*(((k5 V j:Nat):Int):Rat)) (c.getD (m+j) 0) (by omega)) ?_
   refine bE ?_
   refine bD rfl (.app (news:=[ratL ((((k5 U i:Nat):Int):Rat)*(((k5 V j:Nat):Int):Rat)*c.getD (m+j) 0)]) rfl rfl rfl rfl rfl (by simp [iC]) (.inl rfl) (by decide) Tryz.underlying36 Tryz.underlying36 eH cX rfl lB (.inl ⟨46,0,_,rfl,by decide,rfl,rfl,by simp,rfl,by simp [aY,aD.pure]⟩) (by simp;omega) (by simp;omega) (by decide)) ?_
   refine cO ?_
   refine bR (bI.kill _ 46) ?_
   refine cO ?_
   exact kE (j+1) (by omega)
  ·obtain rfl:j=V+1:=by omega
   refine cV ?_
   exact lI (i+1) (m+(V+1)) ⟨by omega,by rw [Nat.succ_mul];omega⟩
 ·obtain rfl:i=U+1:=by omega
  have hE:gL m (wtV U V c)=oS U V c:=by rw [←hm];rfl
  refine cW ?_
  rw [←hE]
  exact kP [47] rfl rfl (cA aD rfl rfl (by rw [iC]))
namespace Zq110
theorem dG {p q:Prop} (k:q) (e:p=q:=by simp only [e1,e2,e3,e4,p1,p2,p3,q1,q2,q3,l1,t0,t1,r1,r2,r3,r4,Nat.zero_add,Nat.reduceMul,Nat.reduceAdd,b1,b2,b3,b4,b5,b6,i1,i2,i3,i4,i5,i6,Nat.reduceBEq,gW,esw,Rat.add_zero,Nat.add_zero,aAr,bJ,cI,bQ,List.length_cons,List.length_nil,aC rE,aC aD,aS,aZ,LV.kill,bB];exact rfl):p:=e.mpr k
end Zq110
open Zq110 in
theorem aC7 (U V:Nat) (c:List Rat) (hc:c.length=(U+1)*(V+1)) (hl:c.length≤1048576) (hcR:∀ x∈c,rl x≤274877906944):aM Tryz.prog 200 [.agg [aE U,aE V,.list 3 (c.map ratL)]] (.agg [aE V,aE U,.list 3 ((n6 U V c).map ratL)]):=by
 have hU:U+1≤c.length:=by rw [hc];exact Nat.le_mul_of_pos_right _ (Nat.succ_pos V)
 have hV:V+1≤c.length:=by rw [hc];exact Nat.le_mul_of_pos_left _ (Nat.succ_pos U)
 have hnp:=bH U V c
 refine dI Tryz.func200 (ht:=(fun g=>LV.ren_pure g _ (bH _ _ _))) ?_
 have esw:True:=trivial
 refine aC8 ?_
 refine cp dC (sG U V c hc hl) ?_
 refine cV ?_
 refine aB rfl (.bin rfl rfl (bV (by omega))) ?_
 refine cO ?_
 refine eZ ((bI.cell 3 rfl (fun Z μ w cs h=>oB 43 3 _ _ Z μ w cs h)).trans (bI.newB _ 43 3 rfl)) ?_
 refine nD (fun(j m:Nat) L=>((((((St.mk L.slot (hp [(1,⟨3,[.agg [aE U,aE V,.list 3 (c.map ratL)]],true⟩),(2,⟨3,[.agg [.v (.int .i64 0),.v (.int .i64 0),.v (.slice none 0 0)]],true⟩),(3,⟨3,[.agg [aE V,aE U,.ref 43 3 0 m]],true⟩),(43,⟨3,(gL m (swV U V c)).map ratL,true⟩)])).put (some 1) (.eptr 1 3 0 0)).put (some 2) (.eptr 2 3 0 0)).put (some 3) (.eptr 3 3 0 0)).put (some 17) (aE (V+1))).put (some 18) (aE j))) (fun j m=>j≤V+1∧j*(U+1)=m) (fun j m=>V+1-j) 0 0 ⟨Nat.zero_le _,Nat.zero_mul _⟩ ?_
 rintro j m L1 ⟨hj,hm⟩
 refine dB ?_
 refine aK rfl (fun h19r h19=>?_) (fun h19r h19=>?_)
 ·have hj2:j≤V:=by omega
  refine gC ?_
  refine aB rfl (.bin rfl rfl (bV (by omega))) ?_
  refine cO ?_
  refine lX (fun(i:Nat) L=>(((((((((St.mk L.slot (hp [(1,⟨3,[.agg [aE U,aE V,.list 3 (c.map ratL)]],true⟩),(2,⟨3,[.agg [.v (.int .i64 0),.v (.int .i64 0),.v (.slice none 0 0)]],true⟩),(3,⟨3,[.agg [aE V,aE U,.ref 43 3 0 (m+i)]],true⟩),(43,⟨3,(gL (m+i) (swV U V c)).map ratL,true⟩)])).put (some 1) (.eptr 1 3 0 0)).put (some 2) (.eptr 2 3 0 0)).put (some 3) (.eptr 3 3 0 0)).put (some 17) (aE (V+1))).put (some 18) (aE j)).put (some 4) (aE j)).put (some 23) (aE (U+1))).put (some 24) (aE i))) (fun i=>i≤U+1) (fun i=>U+1-i) 0 (Nat.zero_le _) ?_
  rintro i L2 hi
  refine dB ?_
  refine aK rfl (fun h25r h25=>?_) (fun h25r h25=>?_)
  ·have hi2:i≤U:=by omega
   have hmi:=oO (U:=V) (V:=U) hj2 hi2
   rw [hm,Nat.mul_comm,←hc] at hmi
   have hix:=oO hi2 hj2
   rw [←hc] at hix
   have hgl:=iC (m+i) (swV U V c)
   have esw:gL (m+(i+1)) (swV U V c)=gL (m+i) (swV U V c)++[c.getD (i*(V+1)+j) 0]:=by rw [←Nat.add_assoc,uN,swV,←hm,pF hi2,o7 hi2]
   have hr1:=hcR _ (cC (i:=i*(V+1)+j) hix)
   refine cN ?_
   refine aP 16 (by decide +kernel) ?_
   refine dL ?_
   refine aB rfl (.bin rfl rfl (bV (by omega))) ?_
   refine aB rfl (.bin rfl rfl (xT rfl (by omega))) ?_
   refine bE ?_
   refine aB rfl (.bin rfl rfl (lM (by omega))) ?_
   refine cY ?_
   refine aB rfl (.build0 tI eH) ?_
   refine cp b9 (lH (c.getD (i*(V+1)+j) 0) 0 (by rw [show rl 0=1 from rfl];omega)) ?_
   refine bE ?_
   refine bD rfl (.app (news:=[ratL (c.getD (i*(V+1)+j) 0+0)]) rfl rfl rfl rfl rfl (by simp [iC]) (.inl rfl) (by decide) Tryz.underlying36 Tryz.underlying36 eH cX rfl lB (.inl ⟨42,0,_,rfl,by decide,rfl,rfl,by simp,rfl,by simp [aY,aD.pure]⟩) (by simp;omega) (by simp;omega) (by decide)) ?_
   refine dR ?_
   refine bR (bI.kill _ 42) ?_
   refine cO ?_
   exact kE (i+1) (by omega)
  ·obtain rfl:i=U+1:=by omega
   refine cV ?_
   exact lI (j+1) (m+(U+1)) ⟨by omega,by rw [Nat.succ_mul];omega⟩
 ·obtain rfl:j=V+1:=by omega
  have hE:gL m (swV U V c)=n6 U V c:=by rw [←hm];rfl
  refine cW ?_
  rw [←hE]
  exact dQ [43] rfl rfl rfl rfl rfl T64 (.agg (.cons (.pure rfl) (.cons (.pure rfl) (.cons (cA aD rfl rfl (by rw [iC])) .nil))))
theorem aJr (W:Nat→Rat):gL 0 W=[]:=rfl
namespace Zq111
theorem dG {p q:Prop} (k:q) (e:p=q:=by simp only [e1,e2,e3,e4,p1,p2,p3,q1,q2,q3,l1,t0,t1,r1,r2,r3,r4,Nat.zero_add,Nat.reduceMul,Nat.reduceAdd,b1,b2,b3,b4,b5,b6,i1,i2,i3,i4,i5,i6,Nat.reduceBEq,fW,gW,dfi,iD,egu,egv,Nat.add_zero,egd,esd,List.length_set,aC rE,aC aD,aS,aZ,LV.kill,bB];exact rfl):p:=e.mpr k
theorem rG {p q:Prop} (k:q) (e:p=q:=by simp only [e1,e2,e3,e4,p1,p2,p3,q1,q2,q3,l1,t0,t1,r1,r2,r3,r4,Nat.zero_add,Nat.reduceMul,Nat.reduceAdd,b1,b2,b3,b4,b5,b6,i1,i2,i3,i4,i5,i6,Nat.reduceBEq,fW,gW,dfi,iD,egu,egv,Nat.add_zero,egd,esd,List.length_set,aC rE,aC aD,aS,aZ,LV.kill,bB,aJr,List.nil_append,List.drop_zero];exact rfl):p:=e.mpr k
theorem cl1 {p:Prop} (h:p:=by first | rfl | (refine rG ?_;first | exact trivial | rfl | (congr 3<;>omega) | (congr 2<;>omega))):p:=h
end Zq111
open Zq111 in
theorem aIV (U1 V1 U2 V2:Nat) (a b:List Rat) (ha:a.length=(U1+1)*(V1+1)) (hb:b.length=(U2+1)*(V2+1)) (hal:a.length≤1048576) (hbl:b.length≤1048576) (hu:U1+U2≤40) (hv:V1+V2≤40) (R:Nat) (hR1:1≤R) (hR:R≤1000000) (hK:(U1+1)*((V1+1)*((U2+1)*((V2+1)*(2*R+14))))≤10000000000) (haR:∀ x∈a,rl x≤R) (hbR:∀ x∈b,rl x≤R):aM Tryz.prog 211 [.agg [aE U1,aE V1,.list 3 (a.map ratL)],.agg [aE U2,aE V2,.list 3 (b.map ratL)]] (.tup [.agg [aE (U1+U2),aE (V1+V2),.list 3 ((sT U1 V1 U2 V2 a b).map ratL)],iL 0]):=by
 have hA1:U1+1≤a.length:=by rw [ha];exact Nat.le_mul_of_pos_right _ (Nat.succ_pos V1)
 have hA2:V1+1≤a.length:=by rw [ha];exact Nat.le_mul_of_pos_left _ (Nat.succ_pos U1)
 have hB1:U2+1≤b.length:=by rw [hb];exact Nat.le_mul_of_pos_right _ (Nat.succ_pos V2)
 have hB2:V2+1≤b.length:=by rw [hb];exact Nat.le_mul_of_pos_left _ (Nat.succ_pos U2)
 have hnp1:=bH U1 V1 a
 have hnp2:=bH U2 V2 b
 have hT:((U1+U2+1)*(V1+V2+1))≤1681:=Nat.le_trans (Nat.mul_le_mul (show U1+U2+1≤41 by omega) (show V1+V2+1≤41 by omega)) (by decide)
 have hwa:=aJH (U:=U1) (V:=V1) (c:=a) (by omega) (by omega) hR1 haR
 have hwb:=aJH (U:=U2) (V:=V2) (c:=b) (by omega) (by omega) hR1 hbR
 have hwal:(oS U1 V1 a).length=a.length:=by rw [oS,iC,ha]
 have hwbl:(oS U2 V2 b).length=b.length:=by rw [oS,iC,hb]
 obtain⟨z1,hz1⟩:∃ z1,(V2+1)*(2*R+14)=z1:=⟨_,rfl⟩
 obtain⟨z2,hz2⟩:∃ z2,(U2+1)*z1=z2:=⟨_,rfl⟩
 obtain⟨z3,hz3⟩:∃ z3,(V1+1)*z2=z3:=⟨_,rfl⟩
 have hq1:z1≤z2:=by rw [←hz2];exact Nat.le_mul_of_pos_left _ (Nat.succ_pos _)
 have hq2:z2≤z3:=by rw [←hz3];exact Nat.le_mul_of_pos_left _ (Nat.succ_pos _)
 have hq3:z3≤(U1+1)*z3:=Nat.le_mul_of_pos_left _ (Nat.succ_pos _)
 have hq5:(U1+1)*z3≤10000000000:=by rw [←hz3,←hz2,←hz1];exact hK
 refine dI Tryz.func211 (ht:=(jZ (bH _ _ _) rfl)) ?_
 have egu:True:=trivial
 have egv:True:=trivial
 have egd:True:=trivial
 have esd:True:=trivial
 refine gC ?_
 refine aB rfl (.bin rfl rfl (lM (by omega))) ?_
 refine cO ?_
 refine aB rfl (.bin rfl rfl (lM (by omega))) ?_
 refine cW ?_
 refine aB (aL (v:=false) rfl rfl ((decide_eq_false (by omega))) rfl) mC ?_
 refine aB (aL (v:=false) rfl rfl ((decide_eq_false (by omega))) rfl) kS ?_
 refine aB (aL (v:=false) rfl rfl ((decide_eq_false (by omega))) rfl) (.bin rfl rfl rfl) ?_
 refine aB rfl (.pickF rfl ((decide_eq_false (by omega)))) ?_
 refine cY ?_
 refine bX (b:=_) rfl (decide_eq_false (by omega)) ?_
 refine dB ?_
 refine cp dC (sG U1 V1 a ha hal) ?_
 refine cP ?_
 refine cp dC (sG U2 V2 b hb hbl) ?_
 refine cV ?_
 refine aB rfl (.bin rfl rfl (bV (by omega))) ?_
 refine cY ?_
 refine aB rfl (.bin rfl rfl (bV (by omega))) ?_
 refine aB rfl (.bin rfl rfl (xT rfl (by omega))) ?_
 refine dD rfl rfl (.mkE (n:=((U1+U2+1)*(V1+V2+1))) (m:=((U1+U2+1)*(V1+V2+1))) ml ml om om om) ?_
 refine dR ?_
 refine aP 6 (by decide +kernel) ?_
 refine bE ?_
 refine cp dC (wE U1 V1 a ha hal (by omega) (by omega) R hR1 (by omega) haR) ?_
 refine bE ?_
 refine cp dC (wE U2 V2 b hb hbl (by omega) (by omega) R hR1 (by omega) hbR) ?_
 refine dU ?_
 refine aB rfl (.bin rfl rfl (bV (by omega))) ?_
 refine cO ?_
 refine nD (fun(i:Nat) (oI:List Rat) L=>(((((((((St.mk L.slot (hp [(2,⟨3,[.agg [aE U1,aE V1,.list 3 (a.map ratL)]],true⟩),(3,⟨3,[.agg [aE U2,aE V2,.list 3 (b.map ratL)]],true⟩),(4,⟨3,[.agg [.v (.int .i64 0),.v (.int .i64 0),.v (.slice none 0 0)]],true⟩),(6,⟨3,[.agg [aE (U1+U2),aE (V1+V2),.ref 55 3 0 ((U1+U2+1)*(V1+V2+1))]],true⟩),(55,⟨3,oI.map ratL,true⟩)])).put (some 2) (.eptr 2 3 0 0)).put (some 3) (.eptr 3 3 0 0)).put (some 4) (.eptr 4 3 0 0)).put (some 6) (.eptr 6 3 0 0)).put (some 7) (.list 3 ((oS U1 V1 a).map ratL))).put (some 8) (.list 3 ((oS U2 V2 b).map ratL))).put (some 63) (aE (U1+1))).put (some 64) (aE i))) (fun i oI=>i≤U1+1∧oI=mI V1 V2 (V1+V2) U2 (oS U1 V1 a) (oS U2 V2 b) i (List.replicate ((U1+U2+1)*(V1+V2+1)) 0)∧oI.length=((U1+U2+1)*(V1+V2+1))∧∀ x∈oI,rl x≤1+i*z3) (fun i oI=>U1+1-i) 0 (List.replicate ((U1+U2+1)*(V1+V2+1)) 0) ⟨Nat.zero_le _,rfl,by simp,fun x hx=>by rw [(List.mem_replicate.1 hx).2];exact Nat.le_add_right 1 _⟩ ?_
 rintro i oI L1 ⟨hi,hoI,hlI,hrI⟩
 refine dB ?_
 refine aK rfl (fun h65r h65=>?_) (fun h65r h65=>?_)
 ·have hi2:i≤U1:=by omega
  have hi3:i*z3+z3≤(U1+1)*z3:=by rw [←Nat.succ_mul];exact Nat.mul_le_mul_right _ (by omega)
  refine gC ?_
  refine aB rfl (.bin rfl rfl (bV (by omega))) ?_
  refine cO ?_
  refine nD (fun(j:Nat) (oJ:List Rat) L=>((((((((((((St.mk L.slot (hp [(2,⟨3,[.agg [aE U1,aE V1,.list 3 (a.map ratL)]],true⟩),(3,⟨3,[.agg [aE U2,aE V2,.list 3 (b.map ratL)]],true⟩),(4,⟨3,[.agg [.v (.int .i64 0),.v (.int .i64 0),.v (.slice none 0 0)]],true⟩),(6,⟨3,[.agg [aE (U1+U2),aE (V1+V2),.ref 55 3 0 ((U1+U2+1)*(V1+V2+1))]],true⟩),(55,⟨3,oJ.map ratL,true⟩)])).put (some 2) (.eptr 2 3 0 0)).put (some 3) (.eptr 3 3 0 0)).put (some 4) (.eptr 4 3 0 0)).put (some 6) (.eptr 6 3 0 0)).put (some 7) (.list 3 ((oS U1 V1 a).map ratL))).put (some 8) (.list 3 ((oS U2 V2 b).map ratL))).put (some 63) (aE (U1+1))).put (some 64) (aE i)).put (some 9) (aE i)).put (some 69) (aE (V1+1))).put (some 70) (aE j))) (fun j oJ=>j≤V1+1∧oJ=mJ V1 V2 (V1+V2) U2 (oS U1 V1 a) (oS U2 V2 b) i j oI∧oJ.length=((U1+U2+1)*(V1+V2+1))∧∀ x∈oJ,rl x≤1+i*z3+j*z2) (fun j oJ=>V1+1-j) 0 oI ⟨Nat.zero_le _,rfl,hlI,fun x hx=>by rw [Nat.zero_mul];exact hrI x hx⟩ ?_
  rintro j oJ L2 ⟨hj,hoJ,hlJ,hrJ⟩
  refine dB ?_
  refine aK rfl (fun h71r h71=>?_) (fun h71r h71=>?_)
  ·have hj2:j≤V1:=by omega
   have hj3:j*z2+z2≤z3:=by rw [←Nat.succ_mul,←hz3];exact Nat.mul_le_mul_right _ (by omega)
   refine gC ?_
   refine aB rfl (.bin rfl rfl (bV (by omega))) ?_
   refine cO ?_
   refine nD (fun(k:Nat) (oK:List Rat) L=>(((((((((((((((St.mk L.slot (hp [(2,⟨3,[.agg [aE U1,aE V1,.list 3 (a.map ratL)]],true⟩),(3,⟨3,[.agg [aE U2,aE V2,.list 3 (b.map ratL)]],true⟩),(4,⟨3,[.agg [.v (.int .i64 0),.v (.int .i64 0),.v (.slice none 0 0)]],true⟩),(6,⟨3,[.agg [aE (U1+U2),aE (V1+V2),.ref 55 3 0 ((U1+U2+1)*(V1+V2+1))]],true⟩),(55,⟨3,oK.map ratL,true⟩)])).put (some 2) (.eptr 2 3 0 0)).put (some 3) (.eptr 3 3 0 0)).put (some 4) (.eptr 4 3 0 0)).put (some 6) (.eptr 6 3 0 0)).put (some 7) (.list 3 ((oS U1 V1 a).map ratL))).put (some 8) (.list 3 ((oS U2 V2 b).map ratL))).put (some 63) (aE (U1+1))).put (some 64) (aE i)).put (some 9) (aE i)).put (some 69) (aE (V1+1))).put (some 70) (aE j)).put (some 10) (aE j)).put (some 75) (aE (U2+1))).put (some 76) (aE k))) (fun k oK=>k≤U2+1∧oK=mK V1 V2 (V1+V2) (oS U1 V1 a) (oS U2 V2 b) i j k oJ∧oK.length=((U1+U2+1)*(V1+V2+1))∧∀ x∈oK,rl x≤1+i*z3+j*z2+k*z1) (fun k oK=>U2+1-k) 0 oJ ⟨Nat.zero_le _,rfl,hlJ,fun x hx=>by rw [Nat.zero_mul];exact hrJ x hx⟩ ?_
   rintro k oK L3 ⟨hk,hoK,hlK,hrK⟩
   refine dB ?_
   refine aK rfl (fun h77r h77=>?_) (fun h77r h77=>?_)
   ·have hk2:k≤U2:=by omega
    have hk3:k*z1+z1≤z2:=by rw [←Nat.succ_mul,←hz2];exact Nat.mul_le_mul_right _ (by omega)
    refine gC ?_
    refine aB rfl (.bin rfl rfl (bV (by omega))) ?_
    refine cO ?_
    refine nD (fun(l:Nat) (o:List Rat) L=>((((((((((((((((((St.mk L.slot (hp [(2,⟨3,[.agg [aE U1,aE V1,.list 3 (a.map ratL)]],true⟩),(3,⟨3,[.agg [aE U2,aE V2,.list 3 (b.map ratL)]],true⟩),(4,⟨3,[.agg [.v (.int .i64 0),.v (.int .i64 0),.v (.slice none 0 0)]],true⟩),(6,⟨3,[.agg [aE (U1+U2),aE (V1+V2),.ref 55 3 0 ((U1+U2+1)*(V1+V2+1))]],true⟩),(55,⟨3,o.map ratL,true⟩)])).put (some 2) (.eptr 2 3 0 0)).put (some 3) (.eptr 3 3 0 0)).put (some 4) (.eptr 4 3 0 0)).put (some 6) (.eptr 6 3 0 0)).put (some 7) (.list 3 ((oS U1 V1 a).map ratL))).put (some 8) (.list 3 ((oS U2 V2 b).map ratL))).put (some 63) (aE (U1+1))).put (some 64) (aE i)).put (some 9) (aE i)).put (some 69) (aE (V1+1))).put (some 70) (aE j)).put (some 10) (aE j)).put (some 75) (aE (U2+1))).put (some 76) (aE k)).put (some 11) (aE k)).put (some 81) (aE (V2+1))).put (some 82) (aE l))) (fun l o=>l≤V2+1∧o=mL V1 V2 (V1+V2) (oS U1 V1 a) (oS U2 V2 b) i j k l oK∧o.length=((U1+U2+1)*(V1+V2+1))∧∀ x∈o,rl x≤1+i*z3+j*z2+k*z1+l*(2*R+14)) (fun l o=>V2+1-l) 0 oK ⟨Nat.zero_le _,rfl,hlK,fun x hx=>by rw [Nat.zero_mul];exact hrK x hx⟩ ?_
    rintro l o L4 ⟨hl,ho,hlL,hrL⟩
    refine dB ?_
    refine aK rfl (fun h83r h83=>?_) (fun h83r h83=>?_)
    ·have hl2:l≤V2:=by omega
     have hl3:l*(2*R+14)+(2*R+14)≤z1:=by rw [←Nat.succ_mul,←hz1];exact Nat.mul_le_mul_right _ (by omega)
     have hx1:=oO (U:=U1+U2) (V:=V1+V2) (i:=i+k) (j:=j+l) (by omega) (by omega)
     have hx2:=oO hi2 hj2
     have hx3:=oO hk2 hl2
     rw [←ha] at hx2
     rw [←hb] at hx3
     have hr1:=fH (S:=R+6) (by omega) hwa (i*(V1+1)+j)
     have hr2:=fH (S:=R+6) (by omega) hwb (k*(V2+1)+l)
     have hr3:=fH (by omega) hrL ((i+k)*(V1+V2+1)+j+l)
     have hr4:=cS ((oS U1 V1 a).getD (i*(V1+1)+j) 0) ((oS U2 V2 b).getD (k*(V2+1)+l) 0)
     have hr5:=gD (o.getD ((i+k)*(V1+V2+1)+j+l) 0) ((oS U1 V1 a).getD (i*(V1+1)+j) 0*(oS U2 V2 b).getD (k*(V2+1)+l) 0)
     refine gC ?_
     refine aB rfl (.bin rfl rfl (lM (by omega))) ?_
     refine cY ?_
     refine aB rfl (.bin rfl rfl (bV (by omega))) ?_
     refine aB rfl (.bin rfl rfl (xT rfl (by omega))) ?_
     refine bE ?_
     refine aB rfl (.bin rfl rfl (lM (by omega))) ?_
     refine bE ?_
     refine aB rfl (.bin rfl rfl (lM (by omega))) ?_
     refine cP ?_
     refine aP 31 (by decide +kernel) ?_
     refine eC ?_
     try simp only [t1,gW,Nat.zero_add]
     refine cO ?_
     refine aB rfl (.bin rfl rfl (bV (by omega))) ?_
     refine aB rfl (.bin rfl rfl (xT rfl (by omega))) ?_
     refine bE ?_
     refine aB rfl (.bin rfl rfl (lM (by omega))) ?_
     refine dB ?_
     refine aB rfl (.bin rfl rfl (bV (by omega))) ?_
     refine aB rfl (.bin rfl rfl (xT rfl (by omega))) ?_
     refine bE ?_
     refine aB rfl (.bin rfl rfl (lM (by omega))) ?_
     refine cY ?_
     refine cp b9 (fN ((oS U1 V1 a).getD (i*(V1+1)+j) 0) ((oS U2 V2 b).getD (k*(V2+1)+l) 0) (by omega)) ?_
     refine cp b9 (lH (o.getD ((i+k)*(V1+V2+1)+j+l) 0) ((oS U1 V1 a).getD (i*(V1+1)+j) 0*(oS U2 V2 b).getD (k*(V2+1)+l) 0) (by omega)) ?_
     refine cN ?_
     exact lI (l+1) (o.set ((i+k)*(V1+V2+1)+j+l) (o.getD ((i+k)*(V1+V2+1)+j+l) 0+(oS U1 V1 a).getD (i*(V1+1)+j) 0*(oS U2 V2 b).getD (k*(V2+1)+l) 0)) ⟨by omega,by rw [ho];rfl,by rw [List.length_set];exact hlL,aGx (fun x hx=>by have:=hrL x hx;rw [Nat.succ_mul];omega) (by rw [Nat.succ_mul];omega)⟩
    ·obtain rfl:l=V2+1:=by omega
     refine cV ?_
     exact lI (k+1) o ⟨by omega,by rw [ho,hoK];rfl,hlL,fun x hx=>by have:=hrL x hx;rw [hz1] at this;rw [Nat.succ_mul];omega⟩
   ·obtain rfl:k=U2+1:=by omega
    rw [hz2] at hrK
    refine cV ?_
    exact lI (j+1) oK ⟨by omega,by rw [hoK,hoJ];rfl,hlK,fun x hx=>by have:=hrK x hx;rw [Nat.succ_mul];omega⟩
  ·obtain rfl:j=V1+1:=by omega
   rw [hz3] at hrJ
   refine cV ?_
   exact lI (i+1) oJ ⟨by omega,by rw [hoJ,hoI];rfl,hlJ,fun x hx=>by have:=hrJ x hx;rw [Nat.succ_mul];omega⟩
 ·obtain rfl:i=U1+1:=by omega
  have hOF:oI=(nZ U1 V1 U2 V2 a b):=hoI
  clear hoI
  subst hOF
  refine dB ?_
  refine aP 8 (by decide +kernel) ?_
  refine cY ?_
  refine cp dC (p8 (U1+U2) hu) ?_
  refine cY ?_
  refine cp dC (p8 (V1+V2) hv) ?_
  refine eA ?_
  refine nD (fun(i m:Nat) L=>(((((((((St.mk L.slot (hp [(2,⟨3,[.agg [aE U1,aE V1,.list 3 (a.map ratL)]],true⟩),(3,⟨3,[.agg [aE U2,aE V2,.list 3 (b.map ratL)]],true⟩),(4,⟨3,[.agg [.v (.int .i64 0),.v (.int .i64 0),.v (.slice none 0 0)]],true⟩),(6,⟨3,[.agg [aE (U1+U2),aE (V1+V2),.ref 55 3 0 ((U1+U2+1)*(V1+V2+1))]],true⟩),(55,⟨3,(gL m (dvV (U1+U2) (V1+V2) (nZ U1 V1 U2 V2 a b))++(nZ U1 V1 U2 V2 a b).drop m).map ratL,true⟩)])).put (some 2) (.eptr 2 3 0 0)).put (some 3) (.eptr 3 3 0 0)).put (some 4) (.eptr 4 3 0 0)).put (some 6) (.eptr 6 3 0 0)).put (some 14) (.list 1 ((nR (U1+U2)).map lJ))).put (some 15) (.list 1 ((nR (V1+V2)).map lJ))).put (some 138) (aE (U1+U2+1))).put (some 139) (aE i))) (fun i m=>i≤U1+U2+1∧i*(V1+V2+1)=m) (fun i m=>U1+U2+1-i) 0 0 ⟨Nat.zero_le _,Nat.zero_mul _⟩ (h0:=⟨_,bI.of_eq (aA (aA (aA (aA (aA (aA (aA (aA (bC cl1) cl1) cl1) cl1) cl1) cl1) cl1) cl1) cl1)⟩) ?_
  rintro i m L5 ⟨hi,hm⟩
  refine dB ?_
  refine aK rfl (fun h140r h140=>?_) (fun h140r h140=>?_)
  ·have hi2:i≤U1+U2:=by omega
   have egu:=nK hi2
   have hcu:=q8 i hu
   refine pP ?_
   refine lX (fun(j:Nat) L=>((((((((((((St.mk L.slot (hp [(2,⟨3,[.agg [aE U1,aE V1,.list 3 (a.map ratL)]],true⟩),(3,⟨3,[.agg [aE U2,aE V2,.list 3 (b.map ratL)]],true⟩),(4,⟨3,[.agg [.v (.int .i64 0),.v (.int .i64 0),.v (.slice none 0 0)]],true⟩),(6,⟨3,[.agg [aE (U1+U2),aE (V1+V2),.ref 55 3 0 ((U1+U2+1)*(V1+V2+1))]],true⟩),(55,⟨3,(gL (m+j) (dvV (U1+U2) (V1+V2) (nZ U1 V1 U2 V2 a b))++(nZ U1 V1 U2 V2 a b).drop (m+j)).map ratL,true⟩)])).put (some 2) (.eptr 2 3 0 0)).put (some 3) (.eptr 3 3 0 0)).put (some 4) (.eptr 4 3 0 0)).put (some 6) (.eptr 6 3 0 0)).put (some 14) (.list 1 ((nR (U1+U2)).map lJ))).put (some 15) (.list 1 ((nR (V1+V2)).map lJ))).put (some 138) (aE (U1+U2+1))).put (some 139) (aE i)).put (some 16) (aE i)).put (some 143) (aE (V1+V2+1))).put (some 144) (aE j))) (fun j=>j≤V1+V2+1) (fun j=>V1+V2+1-j) 0 (Nat.zero_le _) ?_
   rintro j L6 hj
   refine dB ?_
   refine aK rfl (fun h145r h145=>?_) (fun h145r h145=>?_)
   ·have hj2:j≤V1+V2:=by omega
    have egv:=nK hj2
    have hcv:=q8 j hv
    have hix:=oO hi2 hj2
    rw [hm] at hix
    have egd:=aLy (W:=(dvV (U1+U2) (V1+V2) (nZ U1 V1 U2 V2 a b))) (o:=(nZ U1 V1 U2 V2 a b)) (m:=m+j)
    have hdv:(dvV (U1+U2) (V1+V2) (nZ U1 V1 U2 V2 a b)) (m+j)=(nZ U1 V1 U2 V2 a b).getD (m+j) 0/((((k5 (U1+U2) i:Nat):Int):Rat)*(((k5 (V1+V2) j:Nat):Int):Rat)):=by rw [dvV,←hm,pF hj2,o7 hj2]
    have esd:=aLg (W:=(dvV (U1+U2) (V1+V2) (nZ U1 V1 U2 V2 a b))) (o:=(nZ U1 V1 U2 V2 a b)) (m:=m+j) (by omega) hdv.symm
    have hgl:(gL (m+j) (dvV (U1+U2) (V1+V2) (nZ U1 V1 U2 V2 a b))++(nZ U1 V1 U2 V2 a b).drop (m+j)).length=((U1+U2+1)*(V1+V2+1)):=by rw [List.length_append,iC,List.length_drop];omega
    have hr1:=pV i hu
    have hr2:=pV j hv
    have hr3:=fH (by omega) hrI (m+j)
    have hr4:=cS ((((k5 (U1+U2) i:Nat):Int):Rat)) ((((k5 (V1+V2) j:Nat):Int):Rat))
    refine iJ ?_
    refine aB rfl (.bin rfl rfl (bV (by omega))) ?_
    refine aB rfl (.bin rfl rfl (xT hm (by omega))) ?_
    refine bE ?_
    refine aB rfl (.bin rfl rfl (lM (by omega))) ?_
    refine cP ?_
    refine g8 24 [22] (by decide +kernel) ?_
    refine eC ?_
    try simp only [t1,gW,Nat.zero_add,egd]
    refine cO ?_
    try simp only [t1,dfi,Nat.zero_add,egu]
    refine cp dC (rH ((k5 (U1+U2) i:Nat):Int) (by omega) (by omega)) ?_
    refine cO ?_
    try simp only [t1,dfi,Nat.zero_add,egv]
    refine cp dC (rH ((k5 (V1+V2) j:Nat):Int) (by omega) (by omega)) ?_
    refine cp b9 (fN ((((k5 (U1+U2) i:Nat):Int):Rat)) ((((k5 (V1+V2) j:Nat):Int):Rat)) (by omega)) ?_
    refine cp b9 (aAi ((nZ U1 V1 U2 V2 a b).getD (m+j) 0) ((((k5 (U1+U2) i:Nat):Int):Rat)*(((k5 (V1+V2) j:Nat):Int):Rat)) (by omega)) ?_
    refine eA ?_
    exact kE (j+1) (by omega)
   ·obtain rfl:j=V1+V2+1:=by omega
    refine cV ?_
    exact lI (i+1) (m+(V1+V2+1)) ⟨by omega,by rw [Nat.succ_mul];omega⟩ (he:=bI.of_eq (aA (aA (aA (aA (aA (aA (aA (aA (bC cl1) cl1) cl1) cl1) cl1) cl1) cl1) cl1) cl1))
  ·obtain rfl:i=U1+U2+1:=by omega
   have hE:(gL m (dvV (U1+U2) (V1+V2) (nZ U1 V1 U2 V2 a b))++(nZ U1 V1 U2 V2 a b).drop m)=sT U1 V1 U2 V2 a b:=by rw [←hm,List.drop_of_length_le (by omega),List.append_nil];rfl
   refine eA ?_
   rw [←hE]
   exact kG [55] rfl rfl rfl rfl rfl T64 (.agg (.cons (.pure rfl) (.cons (.pure rfl) (.cons (cA aD rfl rfl (by rw [List.length_append,iC,List.length_drop];omega)) .nil)))) rfl (.pure rfl)
end Go.Proofs.YtfpdccbgngdhkaaGreat
namespace Go.Lg
theorem aBt (b:Nat) (f:FuncId) (caps:List LV) (h:aY caps=true):(LV.clo f caps).kill b=.clo f caps:=LV.kill_pure b _ (by simpa [LV.pure] using h)
end Go.Lg
namespace Go.Proofs.YtfpdccbgngdhkaaGreat
open Go.Lg
def nE (V:Nat) (c:List Rat) (i:Nat):List Rat:=(c.take ((i+1)*(V+1))).drop (i*(V+1))
theorem aGC {U V i:Nat} {c:List Rat} (hc:c.length=(U+1)*(V+1)) (hi:i≤U):i*(V+1)+(V+1)≤c.length:=by
 rw [hc,←Nat.succ_mul];exact Nat.mul_le_mul_right _ (by omega)
theorem d9 {U V i:Nat} {c:List Rat} (hc:c.length=(U+1)*(V+1)) (hi:i≤U):(nE V c i).length=V+1:=by
 have:=aGC hc hi
 unfold nE
 rw [List.length_drop,List.length_take,Nat.succ_mul];omega
theorem lA {V i:Nat} {c:List Rat} {x:Rat} (h:x∈nE V c i):x∈c:=List.mem_of_mem_take (List.mem_of_mem_drop h)
theorem aIq {U V i j:Nat} {c:List Rat} (hc:c.length=(U+1)*(V+1)) (hi:i≤U) (hj:j≤V):(nE V c i).getD j 0=c.getD (i*(V+1)+j) 0:=by
 have:=aGC hc hi
 unfold nE
 rw [oL,List.getD_eq_getElem?_getD,List.getElem?_take_of_lt (by rw [Nat.succ_mul];omega),←List.getD_eq_getElem?_getD]
def rF (g:List Rat→List Rat) (V:Nat) (c:List Rat):Nat→List Rat
 | 0=>[]
 | i+1=>rF g V c i++g (nE V c i)
theorem mQ {g:List Rat→List Rat} {V W U:Nat} {c:List Rat} (hg:∀ i,i≤U→(g (nE V c i)).length=W+1):∀ n,n≤U+1→(rF g V c n).length=n*(W+1)
 | 0,_=>by rw [Nat.zero_mul];rfl
 | n+1,h=>by rw [rF,List.length_append,mQ hg n (by omega),hg n (by omega),Nat.succ_mul]
theorem iW (U V:Nat) (c:List Rat):(n6 U V c).length=(V+1)*(U+1):=iC _ _
theorem aF9 {U V R:Nat} {c:List Rat} (hR:1≤R) (h:∀ x∈c,rl x≤R):∀ x∈n6 U V c,rl x≤R:=by
 intro x hx
 obtain⟨i,_,rfl⟩:=List.mem_map.1 hx
 exact fH hR h _
def aHM (U V:Nat) (c:List Rat) (v:Rat):List Rat:=rF (fun p=>[evP p v]) V c (U+1)
def aAe (U V:Nat) (c:List Rat) (u:Rat):List Rat:=rF (fun p=>[evP p u]) U (n6 U V c) (V+1)
theorem aF3 (U V:Nat) (c:List Rat) (v:Rat):(aHM U V c v).length=U+1:=by
 have:=mQ (g:=fun p=>[evP p v]) (V:=V) (W:=0) (U:=U) (c:=c) (fun i _=>rfl) (U+1) (Nat.le_refl _)
 rw [aHM,this];omega
theorem sM (U V:Nat) (c:List Rat) (u:Rat):(aAe U V c u).length=V+1:=by
 have:=mQ (g:=fun p=>[evP p u]) (V:=U) (W:=0) (U:=V) (c:=n6 U V c) (fun i _=>rfl) (V+1) (Nat.le_refl _)
 rw [aAe,this];omega
def oR (U V:Nat) (c:List Rat) (u v:Rat):Rat:=evP (aAe U V c u) v
def xR (U V:Nat) (c:List Rat):List Rat:=n6 V (U-1) (rF kQ U (n6 U V c) (V+1))
def xQ (U V:Nat) (c:List Rat):List Rat:=rF kQ V c (U+1)
theorem aGD {p:List Rat} {U:Nat} (h:p.length=U+1):(kQ p).length=U-1+1:=by rw [oV];split<;>omega
theorem aJP {g:List Rat→List Rat} {V U R:Nat} {c:List Rat} (h:∀ i,i≤U→∀ x∈g (nE V c i),rl x≤R):∀ {n:Nat},n≤U+1→∀ x∈rF g V c n,rl x≤R
 | 0,_,x,hx=>by cases hx
 | n+1,hn,x,hx=>by
  rcases List.mem_append.1 (show x∈rF g V c n++g (nE V c n) from hx) with h1 | h1
  ·exact aJP h (by omega) x h1
  ·exact h n (by omega) x h1
open H0 in
theorem aKB (U V:Nat) (c:List Rat) (hc:c.length=(U+1)*(V+1)) (hl:c.length≤1048576) (i:Nat) (hi:i≤U):aM Tryz.prog 213 [.agg [aE U,aE V,.list 3 (c.map ratL)],aE i] (.list 3 ((nE V c i).map ratL)):=by
 have hU:U+1≤c.length:=by rw [hc];exact Nat.le_mul_of_pos_right _ (Nat.succ_pos V)
 have hV:V+1≤c.length:=by rw [hc];exact Nat.le_mul_of_pos_left _ (Nat.succ_pos U)
 have hnp:=bH U V c
 have hri:=aGC hc hi
 have hrs:(i+1)*(V+1)=i*(V+1)+(V+1):=Nat.succ_mul i (V+1)
 refine dI Tryz.func213 ?_
 refine eA ?_
 refine aB rfl (.bin rfl rfl (bV (by omega))) ?_
 refine aB rfl (.bin rfl rfl (xT rfl (by omega))) ?_
 refine bE ?_
 refine aB rfl (.bin rfl rfl (bV (by omega))) ?_
 refine cY ?_
 refine aB rfl (.bin rfl rfl (bV (by omega))) ?_
 refine aB rfl (.bin rfl rfl (xT rfl (by omega))) ?_
 refine aB rfl (.sliceLb (a:=_) (h:=_) aD rfl Tryz.underlying36 cX rfl rfl (by omega) (by omega)) ?_
 refine cO ?_
 exact bM rfl (by first | exact .pure rfl | exact .pure (bA _) | exact .pure (aO _) | exact .pure (aD.pure _) | exact .pure (aG cT _ _) | exact .pure (aG aD _ _))
namespace Zq140
theorem dG {p q:Prop} (k:q) (e:p=q:=by simp only [e1,e2,e3,e4,p1,p2,p3,q1,q2,q3,l1,t0,t1,r1,r2,r3,r4,Nat.zero_add,Nat.reduceMul,Nat.reduceAdd,b1,b2,b3,b4,b5,b6,i1,i2,i3,i4,i5,i6,Nat.reduceBEq,fW,gW,aBt _ _ _ hcp,ers,etk,elen,Nat.add_sub_cancel,List.length_map,aC aD,aS,aZ,LV.kill,bB];exact rfl):p:=e.mpr k
theorem rG {p q:Prop} (k:q) (e:p=q:=by simp only [e1,e2,e3,e4,p1,p2,p3,q1,q2,q3,l1,t0,t1,r1,r2,r3,r4,Nat.zero_add,Nat.reduceMul,Nat.reduceAdd,b1,b2,b3,b4,b5,b6,i1,i2,i3,i4,i5,i6,Nat.reduceBEq,fW,gW,aBt _ _ _ hcp,ers,etk,elen,Nat.add_sub_cancel,List.length_map,aC aD,aS,aZ,LV.kill,bB,elen];exact rfl):p:=e.mpr k
theorem nf1 {p:Prop} (h:p:=by first | (refine rG ?_;exact rfl) | exact rfl):p:=h
end Zq140
open Zq140 in
theorem aAq (U V:Nat) (c:List Rat) (hc:c.length=(U+1)*(V+1)) (hl:c.length≤1048576) (f:Nat) (caps:List LV) (hcp:aY caps=true) (hcs:∀ x∈caps,x.csize=1∧x.isAgg=false) (g:List Rat→List Rat) (W:Nat) (hf:∀ i,i≤U→aM Tryz.prog f ([.list 3 ((nE V c i).map ratL)]++caps) (.list 3 ((g (nE V c i)).map ratL))) (hg:∀ i,i≤U→(g (nE V c i)).length=W+1) (hW:(U+1)*(W+1)≤1048576):aM Tryz.prog 145 [.agg [aE U,aE V,.list 3 (c.map ratL)],.clo f caps] (.agg [aE U,aE W,.list 3 ((rF g V c (U+1)).map ratL)]):=by
 have hU:U+1≤c.length:=by rw [hc];exact Nat.le_mul_of_pos_right _ (Nat.succ_pos V)
 have hV:V+1≤c.length:=by rw [hc];exact Nat.le_mul_of_pos_left _ (Nat.succ_pos U)
 have hnp:=bH U V c
 have hW2:W+1≤(U+1)*(W+1):=Nat.le_mul_of_pos_left _ (Nat.succ_pos U)
 refine dI Tryz.func145 (ht:=(fun g=>LV.ren_pure g _ (bH _ _ _))) ?_
 have ers:True:=trivial
 have etk:True:=trivial
 have elen:True:=trivial
 refine mZ ?_
 refine cp dC (sG U V c hc hl) ?_
 refine cV ?_
 refine aB rfl (.bin rfl rfl (bV (by omega))) ?_
 refine cO ?_
 refine eZ ((bI.cell 5 rfl (fun Z μ w cs h=>oB 35 3 _ _ Z μ w cs h)).trans (bI.newB _ 35 3 rfl)) ?_
 refine lp3 (fun(i m v:Nat) L=>(((((((St.mk L.slot (hp [(2,⟨3,[.agg [aE U,aE V,.list 3 (c.map ratL)]],true⟩),(4,⟨3,[.agg [.v (.int .i64 0),.v (.int .i64 0),.v (.slice none 0 0)]],true⟩),(5,⟨3,[.agg [aE U,aE v,.ref 35 3 0 m]],true⟩),(35,⟨3,(rF g V c i).map ratL,true⟩)])).put (some 1) (.clo f caps)).put (some 2) (.eptr 2 3 0 0)).put (some 4) (.eptr 4 3 0 0)).put (some 5) (.eptr 5 3 0 0)).put (some 19) (aE (U+1))).put (some 20) (aE i))) (fun i m v=>i≤U+1∧i*(W+1)=m∧(i=0∨v=W)) (fun i m v=>U+1-i) 0 0 0 ⟨Nat.zero_le _,Nat.zero_mul _,.inl rfl⟩ ?_
 rintro i m v L1 ⟨hi,hm,hv⟩
 refine dB ?_
 refine aK rfl (fun h21r h21=>?_) (fun h21r h21=>?_)
 ·have hi2:i≤U:=by omega
  have hfi:=hf i hi2
  have elen:=hg i hi2
  have hrl:=mQ hg i hi
  rw [hm] at hrl
  have hmu:m+(W+1)≤(U+1)*(W+1):=by rw [←hm,←Nat.succ_mul];exact Nat.mul_le_mul_right _ (by omega)
  have ers:(rF g V c i).map ratL++(g (nE V c i)).map ratL=(rF g V c (i+1)).map ratL:=by rw [rF,List.map_append]
  have etk:((rF g V c i).map ratL).take m=(rF g V c i).map ratL:=List.take_of_length_le (by rw [List.length_map];omega)
  refine iJ ?_
  refine cp b9 (aKB U V c hc hl i hi2) ?_
  refine eP [] rfl rfl (.clo (f:=f) (cap:=caps) (args:=[.list 3 ((nE V c i).map ratL)]) rfl (.cons kR .nil) ⟨hcp,hcs⟩ hfi.1 (by decide) (fun _ h=>by cases h)) (hfi.2 _) ?_
  refine dL ?_
  refine aB rfl (.bin rfl rfl (iG (by omega) (by omega))) ?_
  refine bE ?_
  refine bD rfl (.store rfl rfl rfl rfl rfl rfl rfl T3 uR) ?_
  refine jU nf1 ?_
  refine dR ?_
  refine bD rfl (.app (news:=(g (nE V c i)).map ratL) rfl rfl rfl rfl rfl (by rw [List.length_map];omega) (.inl rfl) (by decide) Tryz.underlying36 Tryz.underlying159 eH cX rfl lB (.inr (.inl rfl)) (by rw [List.length_map,elen];omega) (by rw [List.length_map,elen];omega) (by decide)) ?_
  refine cN ?_
  exact nx3 (i+1) (m+(W+1)) W ⟨by omega,by rw [Nat.succ_mul];omega,.inr rfl⟩
 ·obtain rfl:i=U+1:=by omega
  obtain rfl:v=W:=by omega
  have hrl:=mQ hg (U+1) (Nat.le_refl _)
  refine cW ?_
  exact dQ [35] rfl rfl rfl rfl rfl T64 (.agg (.cons (.pure rfl) (.cons (.pure rfl) (.cons (cA aD rfl rfl (by omega)) .nil))))
open H0 in
theorem aLT (p:List Rat) (v:Rat) (h:HS p v) (hp0:0<p.length):aM Tryz.prog 258 [.list 3 (p.map ratL),.boxp (ratL v)] (.list 3 ([evP p v].map ratL)):=by
 refine dI Tryz.func258 ?_
 refine dU ?_
 refine cp b9 (aDB p v h hp0) ?_
 refine dR ?_
 exact kP [7] rfl rfl (cA aD rfl rfl rfl)
open H0 in
theorem aF6 (U V:Nat) (c:List Rat) (hc:c.length=(U+1)*(V+1)) (hl:c.length≤1048576) (v:Rat) (hS:∀ i,i≤U→HS (nE V c i) v):aM Tryz.prog 199 [.agg [aE U,aE V,.list 3 (c.map ratL)],ratL v] (.list 3 ((aHM U V c v).map ratL)):=by
 have hU:U+1≤c.length:=by rw [hc];exact Nat.le_mul_of_pos_right _ (Nat.succ_pos V)
 have hV:V+1≤c.length:=by rw [hc];exact Nat.le_mul_of_pos_left _ (Nat.succ_pos U)
 have hnp:=bH U V c
 have hbp:aY [LV.boxp (ratL v)]=true:=by simp [aY,LV.pure,aD.pure]
 refine dI Tryz.func199 ?_
 refine cN ?_
 refine eP [3] rfl rfl (.mk (caps:=[.boxp (ratL v)]) (.cons (.eptr rfl rfl rfl (aD.csize _) (aJ _) (aD.pure _) rfl) .nil) (fun x hx=>by rw [List.mem_singleton.1 hx];exact⟨rfl,rfl⟩)) rfl ?_
 refine dX rfl (.cons (.pure hnp) (.cons (.pure (show LV.pure (.clo 258 [.boxp (ratL v)])=true by simpa [LV.pure] using hbp)) .nil)) (aAq U V c hc hl 258 [.boxp (ratL v)] hbp (fun x hx=>by rw [List.mem_singleton.1 hx];exact⟨rfl,rfl⟩) (fun p=>[evP p v]) 0 (fun i hi=>aLT _ v (hS i hi) (by rw [d9 hc hi];exact Nat.succ_pos V)) (fun i hi=>rfl) (by omega)) ?_
 refine aB rfl (.field rfl aNf rfl (aG aD _ _)) ?_
 refine cO ?_
 exact bM rfl (by first | exact .pure rfl | exact .pure (bA _) | exact .pure (aO _) | exact .pure (aD.pure _) | exact .pure (aG cT _ _) | exact .pure (aG aD _ _))
open H0 in
theorem aKW (U V:Nat) (c:List Rat) (hc:c.length=(U+1)*(V+1)) (hl:c.length≤1048576) (hcR:∀ x∈c,rl x≤274877906944) (u:Rat) (hS:∀ j,j≤V→HS (nE U (n6 U V c) j) u):aM Tryz.prog 132 [.agg [aE U,aE V,.list 3 (c.map ratL)],ratL u] (.list 3 ((aAe U V c u).map ratL)):=by
 have hU:U+1≤c.length:=by rw [hc];exact Nat.le_mul_of_pos_right _ (Nat.succ_pos V)
 have hV:V+1≤c.length:=by rw [hc];exact Nat.le_mul_of_pos_left _ (Nat.succ_pos U)
 have hnp:=bH U V c
 have hsl:=iW U V c
 have hsw:(n6 U V c).length≤1048576:=by rw [hsl,Nat.mul_comm,←hc];exact hl
 have hnp2:=bH V U (n6 U V c)
 refine dI Tryz.func132 ?_
 refine eC ?_
 refine aP 5 (by decide +kernel) ?_
 refine bE ?_
 refine cp dC (aC7 U V c hc hl hcR) ?_
 refine bE ?_
 refine cp b9 (aF6 V U (n6 U V c) hsl hsw u hS) ?_
 refine cO ?_
 exact bM rfl (by first | exact .pure rfl | exact .pure (bA _) | exact .pure (aO _) | exact .pure (aD.pure _) | exact .pure (aG cT _ _) | exact .pure (aG aD _ _))
open H0 in
theorem aJc (U V:Nat) (c:List Rat) (hc:c.length=(U+1)*(V+1)) (hl:c.length≤1048576) (hcR:∀ x∈c,rl x≤274877906944) (u v:Rat) (hS:∀ j,j≤V→HS (nE U (n6 U V c) j) u) (hS2:HS (aAe U V c u) v):aM Tryz.prog 66 [.agg [aE U,aE V,.list 3 (c.map ratL)],ratL u,ratL v] (ratL (oR U V c u v)):=by
 have hU:U+1≤c.length:=by rw [hc];exact Nat.le_mul_of_pos_right _ (Nat.succ_pos V)
 have hV:V+1≤c.length:=by rw [hc];exact Nat.le_mul_of_pos_left _ (Nat.succ_pos U)
 have hnp:=bH U V c
 refine dI Tryz.func66 ?_
 refine dU ?_
 refine aP 5 (by decide +kernel) ?_
 refine cY ?_
 refine cp b9 (aKW U V c hc hl hcR u hS) ?_
 refine bE ?_
 refine cp b9 (aDB (aAe U V c u) v hS2 (by rw [sM];exact Nat.succ_pos V)) ?_
 refine cO ?_
 exact dQ [] rfl rfl rfl (aD.csize _) (aJ _) cX (.pure (aD.pure _))
open H0 in
theorem yM (U V:Nat) (c:List Rat) (hc:c.length=(U+1)*(V+1)) (hl:c.length≤1048576) (hcR:∀ x∈c,rl x≤274877906944) (f:Nat) (caps:List LV) (hcp:aY caps=true) (hcs:∀ x∈caps,x.csize=1∧x.isAgg=false) (g:List Rat→List Rat) (W:Nat) (hf:∀ j,j≤V→aM Tryz.prog f ([.list 3 ((nE U (n6 U V c) j).map ratL)]++caps) (.list 3 ((g (nE U (n6 U V c) j)).map ratL))) (hg:∀ j,j≤V→(g (nE U (n6 U V c) j)).length=W+1) (hW:(V+1)*(W+1)≤1048576) (hgR:∀ x∈(rF g U (n6 U V c) (V+1)),rl x≤274877906944):aM Tryz.prog 143 [.agg [aE U,aE V,.list 3 (c.map ratL)],.clo f caps] (.agg [aE W,aE V,.list 3 ((n6 V W (rF g U (n6 U V c) (V+1))).map ratL)]):=by
 have hU:U+1≤c.length:=by rw [hc];exact Nat.le_mul_of_pos_right _ (Nat.succ_pos V)
 have hV:V+1≤c.length:=by rw [hc];exact Nat.le_mul_of_pos_left _ (Nat.succ_pos U)
 have hnp:=bH U V c
 have hsl:=iW U V c
 have hsw:(n6 U V c).length≤1048576:=by rw [hsl,Nat.mul_comm,←hc];exact hl
 have hnp2:=bH V U (n6 U V c)
 have hrl:=mQ hg (V+1) (Nat.le_refl _)
 have hnp3:=bH V W (rF g U (n6 U V c) (V+1))
 have hcl:LV.pure (.clo f caps)=true:=by simpa [LV.pure] using hcp
 refine dI Tryz.func143 (ht:=(fun g=>LV.ren_pure g _ (bH _ _ _))) ?_
 refine dU ?_
 refine cp dC (aC7 U V c hc hl hcR) ?_
 refine bE ?_
 refine cp b9 (aAq V U (n6 U V c) hsl hsw f caps hcp hcs g W hf hg hW) ?_
 refine cp dC (aC7 V W (rF g U (n6 U V c) (V+1)) hrl (by omega) hgR) ?_
 refine cO ?_
 exact dQ [] rfl rfl rfl rfl rfl T64 (.pure (bH _ _ _))
open H0 in
theorem aJx (U V:Nat) (c:List Rat) (hc:c.length=(U+1)*(V+1)) (hl:c.length≤1048576) (hcR:∀ x∈c,rl x≤1073741824) (hU1:U≤900):aM Tryz.prog 72 [.agg [aE U,aE V,.list 3 (c.map ratL)]] (.agg [aE (U-1),aE V,.list 3 ((xR U V c).map ratL)]):=by
 have hU:U+1≤c.length:=by rw [hc];exact Nat.le_mul_of_pos_right _ (Nat.succ_pos V)
 have hV:V+1≤c.length:=by rw [hc];exact Nat.le_mul_of_pos_left _ (Nat.succ_pos U)
 have hnp:=bH U V c
 have hsl:=iW U V c
 have hsw:(n6 U V c).length≤1048576:=by rw [hsl,Nat.mul_comm,←hc];exact hl
 have hnp2:=bH (U-1) V (xR U V c)
 have hsR:=aF9 (U:=U) (V:=V) (R:=1073741824) (by decide) hcR
 refine dI Tryz.func72 (ht:=(fun g=>LV.ren_pure g _ (bH _ _ _))) ?_
 refine dU ?_
 refine cp b9 (yM U V c hc hl (fun x hx=>Nat.le_trans (hcR x hx) (by decide)) 144 [] rfl (fun x hx=>by cases hx) kQ (U-1) (fun j hj=>aFt _ (by rw [d9 hsl hj];omega) (fun x hx=>hsR x (lA hx))) (fun j hj=>aGD (d9 hsl hj)) (by have:=Nat.mul_le_mul_left (V+1) (show U-1+1≤U+1 by omega);omega) (aJP (U:=V) (fun j hj x hx=>Nat.le_trans (rO (R:=1073741824) (by decide) (by rw [d9 hsl hj];omega) (fun x hx=>hsR x (lA hx)) x hx) (by decide)) (Nat.le_refl _))) ?_
 refine cO ?_
 exact dQ [] rfl rfl rfl rfl rfl T64 (.pure (bH _ _ _))
theorem aDd {U V:Nat} {c:List Rat} (hc:c.length=(U+1)*(V+1)) {x:Rat} (hx:x∈n6 U V c):x∈c:=by
 obtain⟨i,hi,rfl⟩:=List.mem_map.1 hx
 have hi:=List.mem_range.1 hi
 have h1:i/(U+1)<V+1:=Nat.div_lt_of_lt_mul (by rw [Nat.mul_comm];exact hi)
 have h2:=Nat.mod_lt i (show U+1 > 0 by omega)
 exact cC (by rw [hc];exact oO (by omega) (by omega))
theorem pG {g:List Rat→List Rat} {V U:Nat} {c:List Rat} {Q:Rat→Prop} (h:∀ i,i≤U→∀ x∈g (nE V c i),Q x):∀ {n:Nat},n≤U+1→∀ x∈rF g V c n,Q x
 | 0,_,x,hx=>by cases hx
 | n+1,hn,x,hx=>by
  rcases List.mem_append.1 (show x∈rF g V c n++g (nE V c n) from hx) with h1 | h1
  ·exact pG h (by omega) x h1
  ·exact h n (by omega) x h1
theorem aGP {U V:Nat} {c:List Rat} {i j:Nat} (hi:i≤U) (hj:j≤V):(n6 U V c).getD (j*(U+1)+i) 0=c.getD (i*(V+1)+j) 0:=by
 rw [n6,aCw (oO hj hi),swV,pF hi,o7 hi]
section
variable {m M a b:Rat} {U V:Nat} {c:List Rat} (hc:c.length=(U+1)*(V+1)) (h0:0≤a) (hab:a≤b) (hb:b≤1) (h:∀ x∈c,m≤x∧x≤M)
end
def plL (p:List Rat):LV:=.list 3 (p.map ratL)
theorem plE:EncOK plL 1 false:=⟨fun _=>rfl,fun _=>rfl,fun p=>aG aD 3 p⟩
theorem plZ:bN Tryz.prog 159 (plL []):=⟨Tryz.t159,_,by kernel_rfl,rfl,rfl,fun _ _ _=>p7 3⟩
instance:EC Tryz.prog 159 plL 1 false []:=⟨plE,plZ,aLf⟩
open H0 in
theorem sP (u v:Nat) (c d:List Rat) (hl:c.length≤1048576) (hl2:d.length≤1048576) (hcR:∀ x∈c,rl x≤137438953472) (hdR:∀ x∈d,rl x≤137438953472):aM Tryz.prog 26 [.agg [aE u,aE v,.list 3 (c.map ratL)],.agg [aE u,aE v,.list 3 (d.map ratL)]] (bL (decide (c=d))):=by
 have hn1:=bH u v c
 have hn2:=bH u v d
 refine dI Tryz.func26 ?_
 refine iJ ?_
 refine aB (aL (v:=true) rfl rfl ((beq_self_eq_true _)) rfl) mC ?_
 refine aB (aL (v:=true) rfl rfl ((beq_self_eq_true _)) rfl) kS ?_
 refine aB (aL (v:=true) rfl rfl ((beq_self_eq_true _)) rfl) mC ?_
 refine aB (aL (v:=true) rfl rfl ((beq_self_eq_true _)) rfl) kS ?_
 refine aB (aL (v:=true) rfl rfl ((beq_self_eq_true _)) rfl) (.bin rfl rfl rfl) ?_
 refine aB rfl (.pickT rfl ((beq_self_eq_true _))) ?_
 refine bE ?_
 refine aB (aL (v:=true) rfl rfl ((beq_self_eq_true _)) rfl) mC ?_
 refine aB (aL (v:=true) rfl rfl ((beq_self_eq_true _)) rfl) kS ?_
 refine aB (aL (v:=true) rfl rfl ((beq_self_eq_true _)) rfl) mC ?_
 refine aB (aL (v:=true) rfl rfl ((beq_self_eq_true _)) rfl) kS ?_
 refine dX (aL (v:=true) rfl rfl ((beq_self_eq_true _)) rfl) (.cons kR (.cons kR .nil)) (aGV c d hl hl2 hcR hdR) ?_
 refine aB rfl (.pickT rfl ((beq_self_eq_true _))) ?_
 refine cO ?_
 exact bM rfl (by first | exact .pure rfl | exact .pure (bA _) | exact .pure (aO _) | exact .pure (aD.pure _) | exact .pure (aG cT _ _) | exact .pure (aG aD _ _))
def upR (V:Nat) (c:List Rat) (v U:Nat):List Rat:=rF (fun p=>upP p v) V c (U+1)
def oP (U V:Nat) (c:List Rat) (u v:Nat):List Rat:=n6 v u (rF (fun p=>upP p u) U (n6 U v (upR V c v U)) (v+1))
theorem aJA {U V v:Nat} {c:List Rat} (hc:c.length=(U+1)*(V+1)) (hV:V≤v):(upR V c v U).length=(U+1)*(v+1) :=
 mQ (W:=v) (U:=U) (fun i hi=>aAh (by rw [d9 hc hi];omega)) _ (Nat.le_refl _)
theorem zX (U V:Nat) (c:List Rat) (u v:Nat):(oP U V c u v).length=(u+1)*(v+1):=iW v u _
theorem zO {p:List Rat} {n:Nat} (hl:p.length≤n+1) (h:upS p n):∀ x∈upP p n,rl x≤1073741824:=h.2 _ (by omega)
theorem aAk (V:Nat) (c:List Rat):∀ n,rF (fun p=>p) V c n=c.take (n*(V+1))
 | 0=>by simp [rF]
 | n+1=>by
  rw [rF,aAk V c n,nE,Nat.succ_mul]
  have h:=List.take_append_drop (n*(V+1)) (c.take (n*(V+1)+(V+1)))
  rw [List.take_take,Nat.min_eq_left (by omega)] at h
  exact h
theorem aMz {U V:Nat} {c:List Rat} (hc:c.length=(U+1)*(V+1)):n6 V U (n6 U V c)=c:=by
 refine aMU (by rw [iW,hc]) fun k hk=>?_
 rw [iW] at hk
 have h1:k/(V+1)<U+1:=Nat.div_lt_of_lt_mul (by rw [Nat.mul_comm];exact hk)
 have h2:=Nat.mod_lt k (show V+1 > 0 by omega)
 have e:k=k/(V+1)*(V+1)+k % (V+1):=by rw [Nat.mul_comm];exact(Nat.div_add_mod k (V+1)).symm
 rw [e,aGP (U:=V) (V:=U) (i:=k % (V+1)) (j:=k/(V+1)) (by omega) (by omega),aGP (U:=U) (V:=V) (i:=k/(V+1)) (j:=k % (V+1)) (by omega) (by omega)]
theorem rN {g h:List Rat→List Rat} {V U:Nat} {c:List Rat} (e:∀ i,i≤U→g (nE V c i)=h (nE V c i)):∀ {n},n≤U+1→rF g V c n=rF h V c n
 | 0,_=>rfl
 | n+1,hn=>by rw [rF,rF,rN e (by omega),e n (by omega)]
theorem aBM {U V:Nat} {c:List Rat} (hc:c.length=(U+1)*(V+1)):oP U V c U V=c:=by
 have h1:upR V c V U=c:=by
  rw [upR,rN (h:=fun p=>p) (fun i hi=>wZ (by rw [d9 hc hi];omega)) (Nat.le_refl _),aAk,List.take_of_length_le (by omega)]
 rw [oP,h1,rN (h:=fun p=>p) (fun i hi=>wZ (by rw [d9 (iW U V c) hi];omega)) (Nat.le_refl _),aAk,List.take_of_length_le (by rw [iW];omega),aMz hc]
open H0 in
theorem aJD (U V:Nat) (c:List Rat) (hc:c.length=(U+1)*(V+1)) (hl:c.length≤1048576) (hcR:∀ x∈c,rl x≤1073741824) (hV1:V≤900):aM Tryz.prog 73 [.agg [aE U,aE V,.list 3 (c.map ratL)]] (.agg [aE U,aE (V-1),.list 3 ((xQ U V c).map ratL)]):=by
 have hU:U+1≤c.length:=by rw [hc];exact Nat.le_mul_of_pos_right _ (Nat.succ_pos V)
 have hV:V+1≤c.length:=by rw [hc];exact Nat.le_mul_of_pos_left _ (Nat.succ_pos U)
 have hnp:=bH U V c
 have hnp2:=bH U (V-1) (xQ U V c)
 refine dI Tryz.func73 (ht:=(fun g=>LV.ren_pure g _ (bH _ _ _))) ?_
 refine dU ?_
 refine cp b9 (aAq U V c hc hl 144 [] rfl (fun x hx=>by cases hx) kQ (V-1) (fun i hi=>aFt _ (by rw [d9 hc hi];omega) (fun x hx=>hcR x (lA hx))) (fun i hi=>aGD (d9 hc hi)) (by have:=Nat.mul_le_mul_left (U+1) (show V-1+1≤V+1 by omega);omega)) ?_
 refine cO ?_
 exact dQ [] rfl rfl rfl rfl rfl T64 (.pure (bH _ _ _))
open H0 in
theorem aH3 (p:List Rat) (d:Nat) (hp0:0<p.length) (hd:d≤40) (hpn:p.length≤d+1) (hps:upS p d):aM Tryz.prog 276 [.list 3 (p.map ratL),.boxp (aE d)] (.list 3 ((upP p d).map ratL)):=by
 refine dI Tryz.func276 ?_
 refine dU ?_
 refine cp b9 (aKY p d hp0 hd hpn hps) ?_
 refine gC ?_
 exact bM rfl (by first | exact .pure rfl | exact .pure (bA _) | exact .pure (aO _) | exact .pure (aD.pure _) | exact .pure (aG cT _ _) | exact .pure (aG aD _ _))
open H0 in
theorem aDu (d:Nat):aM Tryz.prog 275 [aE d] (.clo 276 [.boxp (aE d)]):=by
 refine dI Tryz.func275 (ht:=(fun g=>by simp [LV.ren,eJ])) ?_
 refine eC ?_
 refine eP [1] rfl rfl (.mk (caps:=[.boxp (aE d)]) (.cons (.eptr rfl rfl rfl rfl (uL (aE d) rfl) rfl rfl) .nil) (fun x hx=>by rw [List.mem_singleton.1 hx];exact⟨rfl,rfl⟩)) rfl ?_
 refine cO ?_
 exact bM rfl (.pure rfl)
namespace Zq149
theorem dG {p q:Prop} (k:q) (e:p=q:=by simp only [e1,e2,e3,e4,p1,p2,p3,q1,q2,q3,l1,t0,t1,r1,r2,r3,r4,Nat.zero_add,Nat.reduceMul,Nat.reduceAdd,b1,b2,b3,b4,b5,b6,i1,i2,i3,i4,i5,i6,Nat.reduceBEq,fW,gW,aC aD,aS,aZ,LV.kill,bB];exact rfl):p:=e.mpr k
end Zq149
open Zq149 in
theorem aJ7 (U V:Nat) (c:List Rat) (hc:c.length=(U+1)*(V+1)) (hl:c.length≤1048576) (hcR:∀ x∈c,rl x≤274877906944) (u v:Nat) (hUu:U≤u) (hVv:V≤v) (hu:u≤40) (hv:v≤40) (h1:∀ i,i≤U→upS (nE V c i) v) (h2:∀ j,j≤v→upS (nE U (n6 U v (upR V c v U)) j) u):aM Tryz.prog 264 [.agg [aE U,aE V,.list 3 (c.map ratL)],aE u,aE v] (.agg [aE u,aE v,.list 3 ((oP U V c u v).map ratL)]):=by
 have hU:U+1≤c.length:=by rw [hc];exact Nat.le_mul_of_pos_right _ (Nat.succ_pos V)
 have hV:V+1≤c.length:=by rw [hc];exact Nat.le_mul_of_pos_left _ (Nat.succ_pos U)
 have hnp:=bH U V c
 have hl1:=aJA hc hVv
 have hl1s:(upR V c v U).length≤1048576:=by rw [hl1];exact Nat.le_trans (Nat.mul_le_mul (show U+1≤41 by omega) (show v+1≤41 by omega)) (by decide)
 have hn1:=bH U v (upR V c v U)
 have hR1:=aAq U V c hc hl 276 [.boxp (aE v)] rfl (fun x hx=>by rw [List.mem_singleton.1 hx];exact⟨rfl,rfl⟩) (fun p=>upP p v) v (fun i hi=>aH3 _ v (by rw [d9 hc hi];omega) hv (by rw [d9 hc hi];omega) (h1 i hi)) (fun i hi=>aAh (by rw [d9 hc hi];omega)) (by rw [←hl1];exact hl1s)
 have hm1:∀ x∈(upR V c v U),rl x≤1073741824:=pG (U:=U) (fun i hi=>zO (by rw [d9 hc hi];omega) (h1 i hi)) (Nat.le_refl _)
 have hsl:=iW U v (upR V c v U)
 have hR2:=yM U v (upR V c v U) hl1 hl1s (fun x hx=>Nat.le_trans (hm1 x hx) (by decide)) 276 [.boxp (aE u)] rfl (fun x hx=>by rw [List.mem_singleton.1 hx];exact⟨rfl,rfl⟩) (fun p=>upP p u) u (fun j hj=>aH3 _ u (by rw [d9 hsl hj];omega) hu (by rw [d9 hsl hj];omega) (h2 j hj)) (fun j hj=>aAh (by rw [d9 hsl hj];omega)) (by exact Nat.le_trans (Nat.mul_le_mul (show v+1≤41 by omega) (show u+1≤41 by omega)) (by decide)) (pG (U:=v) (fun j hj x hx=>Nat.le_trans (zO (by rw [d9 hsl hj];omega) (h2 j hj) x hx) (by decide)) (Nat.le_refl _))
 refine dI Tryz.func264 (ht:=(fun g=>LV.ren_pure g _ (bH _ _ _))) ?_
 refine cW ?_
 refine aP 9 (by decide +kernel) ?_
 refine cP ?_
 refine eP [] rfl rfl (.clo (f:=275) (cap:=[]) (args:=[aE v]) rfl (.cons kR .nil) ⟨rfl,fun _ h=>by cases h⟩ (aDu v).1 (by decide) (fun _ h=>by cases h)) ((aDu v).2 _) ?_
 refine dX rfl (.cons (.pure hnp) (.cons (.pure rfl) .nil)) hR1 ?_
 refine cY ?_
 refine eP [] rfl rfl (.clo (f:=275) (cap:=[]) (args:=[aE u]) rfl (.cons kR .nil) ⟨rfl,fun _ h=>by cases h⟩ (aDu u).1 (by decide) (fun _ h=>by cases h)) ((aDu u).2 _) ?_
 refine dX rfl (.cons (.pure hn1) (.cons (.pure rfl) .nil)) hR2 ?_
 refine cO ?_
 exact dQ [] rfl rfl rfl rfl rfl T64 (.pure (bH _ _ _))
theorem aM0 {a b u:Nat} (h1:a≤u) (h2:b≤u) (h:a=u∨b=u):(if ((b:Nat):Int) > ((a:Nat):Int) then((b:Nat):Int) else((a:Nat):Int))=((u:Nat):Int):=by split<;>omega
theorem mnE (a:Int):(if a<a then a else a)=a:=by split<;>rfl
structure upH (U V:Nat) (c:List Rat) (u v:Nat):Prop where
 hc:c.length=(U+1)*(V+1)
 hl:c.length≤1048576
 hR:∀ x∈c,rl x≤274877906944
 hU:U≤u
 hV:V≤v
 hu:u≤40
 hv:v≤40
 h1:∀ i,i≤U→upS (nE V c i) v
 h2:∀ j,j≤v→upS (nE U (n6 U v (upR V c v U)) j) u
theorem upH.rl {U V u v:Nat} {c:List Rat} (h:upH U V c u v):∀ x∈oP U V c u v,Go.Lg.rl x≤1073741824 :=
 aF9 (by decide) fun x hx=>pG (U:=v) (V:=U) (c:=n6 U v (upR V c v U)) (n:=v+1) (fun j hj y hy=>zO (by rw [d9 (iW U v _) hj];have:=h.hU;omega) (h.h2 j hj) y hy) (Nat.le_refl _) x hx
theorem upH.g {U V u v:Nat} {c:List Rat} (h:upH U V c u v) (k:Nat):Go.Lg.rl ((oP U V c u v).getD k 0)≤1073741824:=fH (by decide) h.rl k
theorem upH.n {U V u v:Nat} {c:List Rat} (h:upH U V c u v):(u+1)*(v+1)≤1681 :=
 Nat.le_trans (Nat.mul_le_mul (show u+1≤41 by have:=h.hu;omega) (show v+1≤41 by have:=h.hv;omega)) (by decide)
namespace Zq123
theorem dG {p q:Prop} (k:q) (e:p=q:=by simp only [e1,e2,e3,e4,p1,p2,p3,q1,q2,q3,l1,t0,t1,r1,r2,r3,r4,Nat.zero_add,Nat.reduceMul,Nat.reduceAdd,b1,b2,b3,b4,b5,b6,i1,i2,i3,i4,i5,i6,Nat.reduceBEq,fW,gW,hmu,hmv,mnE,eg,aAr,elp,elq,bJ,cI,bQ,List.length_cons,List.length_nil,List.nil_append,List.map_nil,List.take_nil,List.append_nil,aC aD,aS,aZ,LV.kill,bB];exact rfl):p:=e.mpr k
end Zq123
open Zq123 in
theorem aIv (f:Nat) (g:Rat→Rat→Rat) (U1 V1 U2 V2:Nat) (a b:List Rat) (u v:Nat) (ha:upH U1 V1 a u v) (hb:upH U2 V2 b u v) (hu:U1=u∨U2=u) (hv:V1=v∨V2=v) (hf:∀ i,aM Tryz.prog f [ratL ((oP U1 V1 a u v).getD i 0),ratL ((oP U2 V2 b u v).getD i 0)] (ratL (g ((oP U1 V1 a u v).getD i 0) ((oP U2 V2 b u v).getD i 0)))):aM Tryz.prog 210 [.agg [aE U1,aE V1,.list 3 (a.map ratL)],.agg [aE U2,aE V2,.list 3 (b.map ratL)],.clo f []] (.agg [aE u,aE v,.list 3 ((wO g (oP U1 V1 a u v) (oP U2 V2 b u v)).map ratL)]):=by
 have hmu:=aM0 ha.hU hb.hU hu
 have hmv:=aM0 ha.hV hb.hV hv
 have elp:(oP U1 V1 a u v).length=(u+1)*(v+1):=zX _ _ _ _ _
 have elq:(oP U2 V2 b u v).length=(u+1)*(v+1):=zX _ _ _ _ _
 have hn:=ha.n
 have hn1:=bH U1 V1 a
 have hn2:=bH U2 V2 b
 have hn3:=bH u v (oP U1 V1 a u v)
 have hn4:=bH u v (oP U2 V2 b u v)
 refine dI Tryz.func210 (ht:=(fun g=>LV.ren_pure g _ (bH _ _ _))) ?_
 have eg:True:=trivial
 have elp:True:=trivial
 have elq:True:=trivial
 refine eC ?_
 refine aP 12 (by decide +kernel) ?_
 refine iJ ?_
 refine aP 8 (by decide +kernel) ?_
 refine cP ?_
 refine cp pS (aJ7 U1 V1 a ha.hc ha.hl ha.hR u v ha.hU ha.hV ha.hu ha.hv ha.h1 ha.h2) ?_
 refine cP ?_
 refine cp pS (aJ7 U2 V2 b hb.hc hb.hl hb.hR u v hb.hU hb.hV hb.hu hb.hv hb.h1 hb.h2) ?_
 refine aOp ?_
 refine eZ ((bI.cell 9 rfl (fun Z μ w cs h=>oB 57 3 _ _ Z μ w cs h)).trans (bI.newB _ 57 3 rfl)) ?_
 refine lX (fun(i:Nat) L=>((((((((St.mk L.slot (hp [(3,⟨3,[.agg [aE u,aE v,.list 3 ((oP U1 V1 a u v).map ratL)]],true⟩),(4,⟨3,[.agg [aE u,aE v,.list 3 ((oP U2 V2 b u v).map ratL)]],true⟩),(6,⟨3,[.agg [.v (.int .i64 0),.v (.int .i64 0),.v (.slice none 0 0)]],true⟩),(9,⟨3,[.agg [aE u,aE v,.ref 57 3 0 i]],true⟩),(57,⟨3,(gL i (fun k=>g ((oP U1 V1 a u v).getD k 0) ((oP U2 V2 b u v).getD k 0))).map ratL,true⟩)])).put (some 2) (.clo f [])).put (some 3) (.eptr 3 3 0 0)).put (some 4) (.eptr 4 3 0 0)).put (some 6) (.eptr 6 3 0 0)).put (some 9) (.eptr 9 3 0 0)).put (some 38) (aE ((u+1)*(v+1)))).put (some 39) (aE i))) (fun i=>i≤(u+1)*(v+1)) (fun i=>(u+1)*(v+1)-i) 0 (Nat.zero_le _) ?_
 rintro i L1 hi
 refine dB ?_
 refine aK rfl (fun h40r h40=>?_) (fun h40r h40=>?_)
 ·have hi2:i<(u+1)*(v+1):=by omega
  have hfi:=hf i
  have hgl:=iC i (fun k=>g ((oP U1 V1 a u v).getD k 0) ((oP U2 V2 b u v).getD k 0))
  have eg:gL (i+1) (fun k=>g ((oP U1 V1 a u v).getD k 0) ((oP U2 V2 b u v).getD k 0))=gL i (fun k=>g ((oP U1 V1 a u v).getD k 0) ((oP U2 V2 b u v).getD k 0))++[g ((oP U1 V1 a u v).getD i 0) ((oP U2 V2 b u v).getD i 0)]:=uN _ _
  refine cN ?_
  refine aP 15 (by decide +kernel) ?_
  refine eA ?_
  refine eP [] rfl rfl (.clo (f:=f) (cap:=[]) (args:=[ratL ((oP U1 V1 a u v).getD i 0),ratL ((oP U2 V2 b u v).getD i 0)]) rfl (.cons kR (.cons kR .nil)) ⟨rfl,fun _ h=>by cases h⟩ hfi.1 (by decide) (fun _ h=>by cases h)) (hfi.2 _) ?_
  refine bE ?_
  refine bD rfl (.app (news:=[ratL (g ((oP U1 V1 a u v).getD i 0) ((oP U2 V2 b u v).getD i 0))]) rfl rfl rfl rfl rfl (by simp [iC]) (.inl rfl) (by decide) Tryz.underlying36 Tryz.underlying36 eH cX rfl lB (.inl ⟨56,0,_,rfl,by decide,rfl,rfl,by simp,rfl,by simp [aY,aD.pure]⟩) (by simp;omega) (by simp;omega) (by decide)) ?_
  refine dR ?_
  refine bR (bI.kill _ 56) ?_
  refine aB rfl (.bin rfl rfl (bV (by omega))) ?_
  refine cP ?_
  exact kE (i+1) (by omega)
 ·obtain rfl:i=(u+1)*(v+1):=by omega
  have hE:gL ((u+1)*(v+1)) (fun k=>g ((oP U1 V1 a u v).getD k 0) ((oP U2 V2 b u v).getD k 0))=(wO g (oP U1 V1 a u v) (oP U2 V2 b u v)):=by rw [wO,zX];rfl
  refine cW ?_
  rw [←hE]
  exact dQ [57] rfl rfl rfl rfl rfl T64 (.agg (.cons (.pure rfl) (.cons (.pure rfl) (.cons (cA aD rfl rfl (by rw [iC])) .nil))))
open H0 in
theorem aLA (U1 V1 U2 V2:Nat) (a b:List Rat) (u v:Nat) (ha:upH U1 V1 a u v) (hb:upH U2 V2 b u v) (hu:U1=u∨U2=u) (hv:V1=v∨V2=v):aM Tryz.prog 141 [.agg [aE U1,aE V1,.list 3 (a.map ratL)],.agg [aE U2,aE V2,.list 3 (b.map ratL)]] (.agg [aE u,aE v,.list 3 ((wO (·-·) (oP U1 V1 a u v) (oP U2 V2 b u v)).map ratL)]):=by
 have hn1:=bH U1 V1 a
 have hn2:=bH U2 V2 b
 refine dI Tryz.func141 (ht:=(fun g=>LV.ren_pure g _ (bH _ _ _))) ?_
 refine cV ?_
 refine cp pS (aIv 82 (·-·) U1 V1 U2 V2 a b u v ha hb hu hv (fun i=>lK _ _ (by have:=ha.g i;have:=hb.g i;omega))) ?_
 refine cO ?_
 exact dQ [] rfl rfl rfl rfl rfl T64 (.pure (bH _ _ _))
theorem aDX:∀ (n m:Nat) (f:Nat→Nat→Rat),sm n (fun i=>sm m (f i))=sm m (fun j=>sm n (fun i=>f i j))
 | 0,m,f=>(aEb m _ (fun _ _=>rfl)).symm
 | n+1,m,f=>by rw [sm,aDX n m f,←aHZ];rfl
def sx (U V:Nat) (c:List Rat) (i j:Nat):Rat:=cR U i*sq (nE V c i) j
theorem aKr {U V i j:Nat} {c:List Rat} (hc:c.length=(U+1)*(V+1)) (hi:i≤U) (hj:j≤V):(oS U V c).getD (i*(V+1)+j) 0=sx U V c i j:=by
 rw [oS,aCw (oO hi hj),wtV,pF hj,o7 hj,sx,sq,d9 hc hi,Nat.add_sub_cancel,aIq hc hi hj,Rat.mul_assoc];rfl
theorem aJL {U V i j:Nat} {c:List Rat} (hc:c.length=(U+1)*(V+1)) (hi:i≤U) (hj:V<j):sx U V c i j=0:=by
 rw [sx,aM8 (by rw [d9 hc hi];omega),Rat.mul_zero]
theorem aLJ {W i j r s:Nat} (hj:j≤W) (hs:s≤W) (h:i*(W+1)+j=r*(W+1)+s):i=r∧j=s:=by
 have h1:=congrArg (·/(W+1)) h
 have h2:=congrArg (· % (W+1)) h
 simp only [pF hj,pF hs,o7 hj,o7 hs] at h1 h2
 exact⟨h1,h2⟩
section
variable {V1 V2 W U U2 r s:Nat} {x y o:List Rat} (i j k:Nat)
theorem aCp:∀ l (o:List Rat),(mL V1 V2 W x y i j k l o).length=o.length
 | 0,o=>rfl
 | l+1,o=>by rw [mL,List.length_set,aCp l o]
theorem aCm:∀ k (o:List Rat),(mK V1 V2 W x y i j k o).length=o.length
 | 0,o=>rfl
 | k+1,o=>by rw [mK,aCp,aCm k o]
theorem aCh:∀ j (o:List Rat),(mJ V1 V2 W U2 x y i j o).length=o.length
 | 0,o=>rfl
 | j+1,o=>by rw [mJ,aCm,aCh j o]
theorem aG1:∀ i (o:List Rat),(mI V1 V2 W U2 x y i o).length=o.length
 | 0,o=>rfl
 | i+1,o=>by rw [mI,aCh,aG1 i o]
theorem aGS (hik:i+k≤U) (ho:o.length=(U+1)*(W+1)):∀ l,j+l≤W+1→∀ r s,s≤W→(mL V1 V2 W x y i j k l o).getD (r*(W+1)+s) 0=o.getD (r*(W+1)+s) 0+(if i+k=r∧j≤s∧s<j+l then x.getD (i*(V1+1)+j) 0*y.getD (k*(V2+1)+(s-j)) 0 else 0)
 | 0,_,r,s,hs=>by rw [mL,if_neg (by omega),Rat.add_zero]
 | l+1,h,r,s,hs=>by
  have hix:=oO (U:=U) (V:=W) (i:=i+k) (j:=j+l) (by omega) (by omega)
  have ih:=aGS hik ho l (by omega)
  rw [mL,aHC _ _ _ _ (by rw [aCp,ho];omega)]
  by_cases h1:(i+k)*(W+1)+j+l=r*(W+1)+s
  ·obtain⟨h2,h3⟩:=aLJ (W:=W) (i:=i+k) (j:=j+l) (r:=r) (s:=s) (by omega) hs (by omega)
   rw [if_pos h1,h1,ih r s hs,if_neg (by omega),if_pos (by omega),show s-j=l by omega];grind
  ·rw [if_neg h1,ih r s hs]
   have h4:¬ (i+k=r∧j+l=s):=fun⟨e1,e2⟩=>h1 (by rw [←e1,←e2];omega)
   by_cases h2:i+k=r∧j≤s∧s<j+l
   ·rw [if_pos h2,if_pos (by omega)]
   ·rw [if_neg h2,if_neg (by omega)]
theorem aF8 (hs:s≤W) (hj:j+V2≤W) (ho:o.length=(U+1)*(W+1)):∀ k,i+k≤U+1→(mK V1 V2 W x y i j k o).getD (r*(W+1)+s) 0=o.getD (r*(W+1)+s) 0+sm k (fun k=>if i+k=r∧j≤s∧s<j+(V2+1) then x.getD (i*(V1+1)+j) 0*y.getD (k*(V2+1)+(s-j)) 0 else 0)
 | 0,_=>by rw [mK,sm,Rat.add_zero]
 | k+1,h=>by
  rw [mK,aGS (U:=U) i j k (by omega) (by rw [aCm];exact ho) _ (by omega) r s hs,aF8 hs hj ho k (by omega),Rat.add_assoc];rfl
theorem aHL (hs:s≤W) (hV:V1+V2≤W) (ho:o.length=(U+1)*(W+1)) (hi:i+U2≤U):∀ j,j≤V1+1→(mJ V1 V2 W U2 x y i j o).getD (r*(W+1)+s) 0=o.getD (r*(W+1)+s) 0+sm j (fun j=>sm (U2+1) fun k=>if i+k=r∧j≤s∧s<j+(V2+1) then x.getD (i*(V1+1)+j) 0*y.getD (k*(V2+1)+(s-j)) 0 else 0)
 | 0,_=>by rw [mJ,sm,Rat.add_zero]
 | j+1,h=>by
  rw [mJ,aF8 (U:=U) i j hs (by omega) (by rw [aCh];exact ho) _ (by omega),aHL hs hV ho hi j (by omega),Rat.add_assoc];rfl
theorem aFs {U1:Nat} (hs:s≤W) (hV:V1+V2≤W) (ho:o.length=(U+1)*(W+1)) (hU:U1+U2≤U):∀ i,i≤U1+1→(mI V1 V2 W U2 x y i o).getD (r*(W+1)+s) 0=o.getD (r*(W+1)+s) 0+sm i (fun i=>sm (V1+1) fun j=>sm (U2+1) fun k=>if i+k=r∧j≤s∧s<j+(V2+1) then x.getD (i*(V1+1)+j) 0*y.getD (k*(V2+1)+(s-j)) 0 else 0)
 | 0,_=>by rw [mI,sm,Rat.add_zero]
 | i+1,h=>by
  rw [mI,aHL (U:=U) i hs hV (by rw [aG1];exact ho) (by omega) _ (Nat.le_refl _),aFs hs hV ho hU i (by omega),Rat.add_assoc];rfl
end
def tpS (U1 V1 U2 V2:Nat) (a b:List Rat) (r s:Nat):Rat:=sm (U1+1) fun i=>sm (U2+1) fun k=>if i+k=r then cf (sx U1 V1 a i) (sx U2 V2 b k) s else 0
theorem aIS {U1 V1 U2 V2 r s:Nat} {a b:List Rat} (ha:a.length=(U1+1)*(V1+1)) (hb:b.length=(U2+1)*(V2+1)) (hs:s≤V1+V2):(nZ U1 V1 U2 V2 a b).getD (r*(V1+V2+1)+s) 0=tpS U1 V1 U2 V2 a b r s:=by
 rw [nZ,aFs (U:=U1+U2) (U1:=U1) hs (Nat.le_refl _) (by simp) (Nat.le_refl _) _ (Nat.le_refl _),aFJ,Rat.zero_add]
 refine pE _ _ _ fun i hi=>?_
 rw [aDX]
 refine pE _ _ _ fun k hk=>?_
 by_cases h:i+k=r
 ·rw [if_pos h]
  have hG1:∀ j,V1+1≤j→(fun j=>if j≤s then sx U1 V1 a i j*sx U2 V2 b k (s-j) else 0) j=0:=fun j hj=>by
   show (if j≤s then sx U1 V1 a i j*sx U2 V2 b k (s-j) else 0)=0
   split
   ·rw [aJL ha (by omega) (by omega),Rat.zero_mul]
   ·rfl
  have hG2:∀ j,s+1≤j→(fun j=>if j≤s then sx U1 V1 a i j*sx U2 V2 b k (s-j) else 0) j=0:=fun j hj=>if_neg (by omega)
  have e:cf (sx U1 V1 a i) (sx U2 V2 b k) s=sm (V1+1) (fun j=>if j≤s then sx U1 V1 a i j*sx U2 V2 b k (s-j) else 0):=by
   rw [←aDb _ _ hG1 (s+1),Nat.add_comm,aDb _ _ hG2]
   exact pE _ _ _ fun j hj=>(if_pos (by omega)).symm
  rw [e]
  refine pE _ _ _ fun j hj=>?_
  by_cases h2:j≤s
  ·rw [if_pos h2]
   by_cases h3:s<j+(V2+1)
   ·rw [if_pos ⟨h,h2,h3⟩,aKr ha (by omega) (by omega),aKr hb (by omega) (by omega)]
   ·rw [if_neg (by omega),aJL hb (by omega) (by omega),Rat.mul_zero]
  ·rw [if_neg h2,if_neg (by omega)]
 ·rw [if_neg h]
  exact aEb _ _ fun j _=>if_neg (by omega)
theorem aC9 (U1 V1 U2 V2:Nat) (a b:List Rat):(sT U1 V1 U2 V2 a b).length=(U1+U2+1)*(V1+V2+1):=iC _ _
theorem aLe {U1 V1 U2 V2 r s:Nat} {a b:List Rat} (ha:a.length=(U1+1)*(V1+1)) (hb:b.length=(U2+1)*(V2+1)) (hr:r≤U1+U2) (hs:s≤V1+V2):(sT U1 V1 U2 V2 a b).getD (r*(V1+V2+1)+s) 0=tpS U1 V1 U2 V2 a b r s/(cR (U1+U2) r*cR (V1+V2) s):=by
 rw [sT,aCw (oO hr hs),dvV,pF hs,o7 hs,aIS ha hb hs];rfl
section
variable {U1 V1 U2 V2 i k:Nat} {a b:List Rat} (ha:a.length=(U1+1)*(V1+1)) (hb:b.length=(U2+1)*(V2+1)) (hi:i≤U1) (hk:k≤U2)
end
def oE:Option (List Rat)→LV
 | none=>.v (.slice none 0 0)
 | some p=>plL p
section
variable {U1 V1 U2 V2 R:Nat} {a b:List Rat}
end
theorem aNi:EncOK oE 1 false:=⟨fun o=>by cases o<;>rfl,fun o=>by cases o<;>rfl,fun o=>by
 cases o with
 | none=>rfl
 | some p=>exact aG aD 3 p⟩
theorem aNW:bN Tryz.prog 159 (oE none):=⟨Tryz.t159,_,by kernel_rfl,rfl,rfl,fun _ _ _=>⟨rfl,rfl⟩⟩
instance:EC Tryz.prog 159 oE 1 false none:=⟨aNi,aNW,aLf⟩
theorem aJp {U V:Nat} {c:List Rat} (hc:c.length=(U+1)*(V+1)):(xQ U V c).length=(U+1)*(V-1+1) :=
 mQ (W:=V-1) (U:=U) (fun i hi=>aGD (d9 hc hi)) _ (Nat.le_refl _)
theorem aI5 (U V:Nat) (c:List Rat):(xR U V c).length=(U-1+1)*(V+1):=iW _ _ _
theorem zT {B:Nat}:∀ (n:Nat) (f:Nat→Rat),(∀ i,i<n→rl (f i)≤B)→rl (sm n f)≤1+n*(B+1)
 | 0,f,_=>by show rl 0≤_;rw [show rl 0=1 from rfl];omega
 | n+1,f,h=>by
  have h1:=zT n f (fun i hi=>h i (by omega))
  have h2:=h n (by omega)
  have h3:=gD (sm n f) (f n)
  rw [sm,Nat.succ_mul];omega
theorem aBm {U V:Nat} {c:List Rat} (hc:c.length=(U+1)*(V+1)) (hU:U≤40) (hV:V≤40) (hR:∀ x∈c,rl x≤1073741824):upH U V c U V:=by
 have h1:upR V c V U=c:=by
  rw [upR,rN (h:=fun p=>p) (fun i hi=>wZ (by rw [d9 hc hi];omega)) (Nat.le_refl _),aAk,List.take_of_length_le (by omega)]
 have h2:∀ {p:List Rat} {n:Nat},p.length=n+1→(∀ x∈p,rl x≤1073741824)→upS p n:=fun {p n} hp hpR=>⟨hpR,fun k hk=>by
  obtain rfl:k=0:=by omega
  exact hpR⟩
 refine⟨hc,?_,fun x hx=>Nat.le_trans (hR x hx) (by decide),Nat.le_refl _,Nat.le_refl _,hU,hV,fun i hi=>h2 (d9 hc hi) (fun x hx=>hR x (lA hx)),fun j hj=>?_⟩
 ·rw [hc];exact Nat.le_trans (Nat.mul_le_mul (show U+1≤41 by omega) (show V+1≤41 by omega)) (by decide)
 ·rw [h1]
  exact h2 (d9 (iW U V c) hj) (fun x hx=>hR x (aDd hc (lA hx)))
theorem aLH {U V R:Nat} {c:List Rat} (hc:c.length=(U+1)*(V+1)) (hV:V≤900) (hR:1≤R) (h:∀ x∈c,rl x≤R):∀ x∈xQ U V c,rl x≤2*R+4 :=
 pG (U:=U) (fun i hi=>rO hR (by rw [d9 hc hi];omega) (fun x hx=>h x (lA hx))) (Nat.le_refl _)
theorem aL4 {U V R:Nat} {c:List Rat} (hc:c.length=(U+1)*(V+1)) (hU:U≤900) (hR:1≤R) (h:∀ x∈c,rl x≤R):∀ x∈xR U V c,rl x≤2*R+4 :=
 aF9 (by omega) (pG (U:=V) (fun j hj=>rO hR (by rw [d9 (iW U V c) hj];omega) (fun x hx=>h x (aDd hc (lA hx)))) (Nat.le_refl _))
theorem aJC {R:Nat} {p q:List Rat} {g:Rat→Rat→Rat} (hg:∀ a b,rl (g a b)≤rl a+rl b+1) (hR:1≤R) (hp:∀ x∈p,rl x≤R) (hq:∀ x∈q,rl x≤R):∀ x∈wO g p q,rl x≤2*R+1:=fun x hx=>by
 obtain⟨i,_,rfl⟩:=List.mem_map.1 hx
 have h1:=fH hR hp i
 have h2:=fH hR hq i
 have h3:=hg (p.getD i 0) (q.getD i 0)
 omega
theorem gB:(default:List PoR)=[]:=rfl
theorem yA (d1 d2 d3 d4 sz:Nat) (x1 x2 x3 x4 y1 y2 y3 y4:LV) (Z:Nat→Prop) (μ:Nat→Option Nat) (w:World) (cs:List Value)
  (h:cL Z μ w (.agg [.agg [x1,y1,.v (.slice none 0 0)],.agg [x2,y2,.v (.slice none 0 0)],.agg [x3,y3,.v (.slice none 0 0)],.agg [x4,y4,.v (.slice none 0 0)]]) cs) :
  cL Z μ w (.agg [.agg [x1,y1,.ref d1 sz 0 0],.agg [x2,y2,.ref d2 sz 0 0],.agg [x3,y3,.ref d3 sz 0 0],.agg [x4,y4,.ref d4 sz 0 0]]) cs:=by
 rw [cL] at h ⊢
 simp only [cH] at h ⊢
 obtain⟨a1,b1,e1,l1,g1,a2,b2,e2,l2,g2,a3,b3,e3,l3,g3,a4,b4,e4,l4,g4,e5⟩:=h
 exact⟨a1,b1,e1,l1,oB _ _ _ _ _ _ _ _ g1,a2,b2,e2,l2,oB _ _ _ _ _ _ _ _ g2,a3,b3,e3,l3,oB _ _ _ _ _ _ _ _ g3,a4,b4,e4,l4,oB _ _ _ _ _ _ _ _ g4,e5⟩
theorem aMR {rows:List (List PoR)} {i:Nat} (h:i<rows.length):rows.drop i=rows.getD i [] :: rows.drop (i+1):=by
 rw [List.drop_eq_getElem_cons h,List.getD_eq_getElem?_getD,List.getElem?_eq_getElem h];rfl
theorem aND {po:List PoR} {j:Nat} (h:j<po.length):po.drop j=po.getD j default :: po.drop (j+1):=by
 rw [List.drop_eq_getElem_cons h,List.getD_eq_getElem?_getD,List.getElem?_eq_getElem h];rfl
theorem dZ {rows:List (List PoR)} {i:Nat} (h:i<rows.length):rows.getD i []∈rows:=by
 rw [List.getD_eq_getElem?_getD,List.getElem?_eq_getElem h];exact List.getElem_mem h
structure rwOK (rows:List (List PoR)) (R:Nat):Prop where
 ok:∀ r∈rows,∀ q∈r,pY R q
 n:rows.length≤1000
 m:∀ r∈rows,r.length≤1000
 f:rows.flatten.length≤10000
structure rwI (rows:List (List PoR)) (i:Nat) (ps:List PoR):Prop where
 hi:i≤rows.length
 he:ps++(rows.drop i).flatten=rows.flatten
theorem rwI.le {rows:List (List PoR)} {i:Nat} {ps:List PoR} (h:rwI rows i ps):ps.length≤rows.flatten.length:=by
 rw [←h.he];simp
theorem rwI.zero (rows:List (List PoR)):rwI rows 0 []:=⟨Nat.zero_le _,rfl⟩
theorem rwI.last {rows:List (List PoR)} {ps:List PoR} (h:rwI rows rows.length ps):ps=rows.flatten:=by
 have:=h.he
 rwa [List.drop_length,List.flatten_nil,List.append_nil] at this
structure rwJ (rows:List (List PoR)) (i j:Nat) (qs:List PoR):Prop where
 hi:i<rows.length
 hj:j≤(rows.getD i []).length
 he:qs++((rows.getD i []).drop j++(rows.drop (i+1)).flatten)=rows.flatten
theorem rwI.go {rows:List (List PoR)} {i:Nat} {ps:List PoR} (h:rwI rows i ps) (hi:i<rows.length):rwJ rows i 0 ps:=by
 refine⟨hi,Nat.zero_le _,?_⟩
 have:=h.he
 rwa [aMR hi,List.flatten_cons] at this
theorem rwJ.le {rows:List (List PoR)} {i j:Nat} {qs:List PoR} (h:rwJ rows i j qs):qs.length≤rows.flatten.length:=by
 rw [←h.he];simp
theorem rwJ.lt {rows:List (List PoR)} {i j:Nat} {qs:List PoR} (h:rwJ rows i j qs) (hj:j<(rows.getD i []).length):qs.length<rows.flatten.length:=by
 have:=congrArg List.length h.he
 rw [List.length_append,List.length_append,List.length_drop] at this
 omega
theorem rwJ.next {rows:List (List PoR)} {i j:Nat} {qs:List PoR} (h:rwJ rows i j qs) (hj:j<(rows.getD i []).length):rwJ rows i (j+1) (qs++[(rows.getD i []).getD j default]):=by
 refine⟨h.hi,by omega,?_⟩
 have:=h.he
 rw [aND hj] at this
 rw [←this];simp
theorem rwJ.last {rows:List (List PoR)} {i:Nat} {qs:List PoR} (h:rwJ rows i (rows.getD i []).length qs):rwI rows (i+1) qs:=by
 refine⟨h.hi,?_⟩
 have:=h.he
 rwa [List.drop_length,List.nil_append] at this
theorem sX (po:List PoR) (q:PoR) (k:Nat):f7 po k++[q.w*q.p.at k]=f7 (po++[q]) k:=by simp [f7]
theorem aHz (po:List PoR) (q:PoR):gI po++[q.w]=gI (po++[q]):=by simp [gI]
namespace Zq91
theorem dG {p q:Prop} (k:q) (e:p=q:=by simp only [e1,e2,e3,e4,p1,p2,p3,q1,q2,q3,l1,t0,t1,r1,r2,r3,r4,Nat.zero_add,Nat.reduceMul,Nat.reduceAdd,b1,b2,b3,b4,b5,b6,i1,i2,i3,i4,i5,i6,Nat.reduceBEq,cM,etk0,etk1,etk2,etk3,ers0,ers1,ers2,ers3,bQ,dS,aC gY,gB,gW,bJ,cI,bQ,List.length_cons,List.length_nil,List.nil_append,List.map_nil,List.take_nil,List.append_nil,List.set_cons_zero,List.set_cons_succ,Nat.reduceEqDiff,reduceIte,if_true,if_false,bG,bF,aC fF,aC eI,aC aD,aS,aZ,LV.kill,bB];exact rfl):p:=e.mpr k
end Zq91
open Zq91 in
theorem aDi (U V:Nat) (kU kV:List Rat) (rows:List (List PoR)) (hU:U≤1000000) (hV:V≤1000000) (R:Nat) (hR:R≤1000000) (hw:rwOK rows R):aM Tryz.prog 24 [.agg [aE U,aE V,.list 3 (kU.map ratL),.list 3 (kV.map ratL),.list 1 (rows.map cM)]] (.agg [.agg [aE U,aE V,.list 3 ((f7 rows.flatten 0).map ratL)],.agg [aE U,aE V,.list 3 ((f7 rows.flatten 1).map ratL)],.agg [aE U,aE V,.list 3 ((f7 rows.flatten 2).map ratL)],.agg [aE U,aE V,.list 3 ((gI rows.flatten).map ratL)]]):=by
 have hsp:LV.pure (.agg [aE U,aE V,.list 3 (kU.map ratL),.list 3 (kV.map ratL),.list 1 (rows.map cM)])=true:=by simp [LV.pure,aY,aH aD,aH gY]
 have hwn:=hw.n
 have hwf:=hw.f
 refine dI Tryz.func24 (ht:=(fun g=>LV.ren_pure g _ (by simp [LV.pure,aY,aH aD,aH gY]))) ?_
 have etk0:True:=trivial
 have etk1:True:=trivial
 have etk2:True:=trivial
 have etk3:True:=trivial
 have ers0:True:=trivial
 have ers1:True:=trivial
 have ers2:True:=trivial
 have ers3:True:=trivial
 refine pP ?_
 refine aW ?_
 refine dB ?_
 refine bK (b:=_) rfl (by decide) ?_
 refine cN ?_
 refine uO rfl 8 3 [1,4,5] (by decide +kernel) rfl ?_
 simp only [List.take_succ_cons,List.take_zero,e1,e2,e3,e4,p1,p2,p3,q1,q2,q3,l1,t0,t1,r1,r2,r3,r4,Nat.zero_add,Nat.reduceMul,Nat.reduceAdd,b1,b2,b3,b4,b5,b6,i1,i2,i3,i4,i5,i6,Nat.reduceBEq,bh7,dh1,dh2,dh3]
 refine eC ?_
 refine qI rfl rfl (fun om h=>by cases h;exact⟨_,_,_,_,_,rfl,rfl⟩) ?_
 simp only [List.drop_succ_cons,List.drop_zero]
 refine cW ?_
 refine aW ?_
 refine dB ?_
 refine bK (b:=_) rfl (by decide) ?_
 refine cN ?_
 refine uO rfl 8 3 [1,4,5] (by decide +kernel) rfl ?_
 simp only [List.take_succ_cons,List.take_zero,e1,e2,e3,e4,p1,p2,p3,q1,q2,q3,l1,t0,t1,r1,r2,r3,r4,Nat.zero_add,Nat.reduceMul,Nat.reduceAdd,b1,b2,b3,b4,b5,b6,i1,i2,i3,i4,i5,i6,Nat.reduceBEq,bh7,dh1,dh2,dh3]
 refine eC ?_
 refine qI rfl rfl (fun om h=>by cases h;exact⟨_,_,_,_,_,rfl,rfl⟩) ?_
 simp only [List.drop_succ_cons,List.drop_zero]
 refine cW ?_
 refine aW ?_
 refine dB ?_
 refine bK (b:=_) rfl (by decide) ?_
 refine cN ?_
 refine uO rfl 8 3 [1,4,5] (by decide +kernel) rfl ?_
 simp only [List.take_succ_cons,List.take_zero,e1,e2,e3,e4,p1,p2,p3,q1,q2,q3,l1,t0,t1,r1,r2,r3,r4,Nat.zero_add,Nat.reduceMul,Nat.reduceAdd,b1,b2,b3,b4,b5,b6,i1,i2,i3,i4,i5,i6,Nat.reduceBEq,bh7,dh1,dh2,dh3]
 refine eC ?_
 refine qI rfl rfl (fun om h=>by cases h;exact⟨_,_,_,_,_,rfl,rfl⟩) ?_
 simp only [List.drop_succ_cons,List.drop_zero]
 refine cW ?_
 refine aW ?_
 refine dB ?_
 refine bK (b:=_) rfl (by decide) ?_
 refine cN ?_
 refine uO rfl 8 3 [1,4,5] (by decide +kernel) rfl ?_
 simp only [List.take_succ_cons,List.take_zero,e1,e2,e3,e4,p1,p2,p3,q1,q2,q3,l1,t0,t1,r1,r2,r3,r4,Nat.zero_add,Nat.reduceMul,Nat.reduceAdd,b1,b2,b3,b4,b5,b6,i1,i2,i3,i4,i5,i6,Nat.reduceBEq,bh7,dh1,dh2,dh3]
 refine eC ?_
 refine qI rfl rfl (fun om h=>by cases h;exact⟨_,_,_,_,_,rfl,rfl⟩) ?_
 simp only [List.drop_succ_cons,List.drop_zero]
 refine cW ?_
 refine aW ?_
 refine dB ?_
 refine bX (b:=_) rfl (by decide) ?_
 refine iJ ?_
 refine eZ (((bI.cell 3 rfl (fun Z μ w cs h=>yA 1001 1002 1003 1004 3 _ _ _ _ _ _ _ _ Z μ w cs h)).trans ((bI.newB _ 1001 3 rfl).trans ((bI.newB _ 1002 3 rfl).trans ((bI.newB _ 1003 3 rfl).trans (bI.newB _ 1004 3 rfl)))))) ?_
 refine nD (fun(i:Nat) (ps:List PoR) L=>((((((St.mk L.slot (hp [(1,⟨5,[.agg [aE U,aE V,.list 3 (kU.map ratL),.list 3 (kV.map ratL),.list 1 (rows.map cM)]],true⟩),(2,⟨12,[.agg [.agg [.v (.int .i64 0),.v (.int .i64 0),.v (.slice none 0 0)],.agg [.v (.int .i64 0),.v (.int .i64 0),.v (.slice none 0 0)],.agg [.v (.int .i64 0),.v (.int .i64 0),.v (.slice none 0 0)],.agg [.v (.int .i64 0),.v (.int .i64 0),.v (.slice none 0 0)]]],true⟩),(3,⟨12,[.agg [.agg [aE U,aE V,.ref 1001 3 0 ps.length],.agg [aE U,aE V,.ref 1002 3 0 ps.length],.agg [aE U,aE V,.ref 1003 3 0 ps.length],.agg [aE U,aE V,.ref 1004 3 0 ps.length]]],true⟩),(1001,⟨3,(f7 ps 0).map ratL,true⟩),(1002,⟨3,(f7 ps 1).map ratL,true⟩),(1003,⟨3,(f7 ps 2).map ratL,true⟩),(1004,⟨3,(gI ps).map ratL,true⟩)])).put (some 2) (.eptr 2 12 0 0)).put (some 3) (.eptr 3 12 0 0)).put (some 26) (.list 1 (rows.map cM))).put (some 27) (aE rows.length)).put (some 28) (aE i))) (fun i ps=>rwI rows i ps) (fun i ps=>rows.length-i) 0 ([]) (rwI.zero rows) ?_
 rintro i ps L2 hI
 refine dB ?_
 refine aK rfl (fun h29r h29=>?_) (fun h29r h29=>?_)
 ·have hi2:i<rows.length:=by omega
  refine mZ ?_
  refine nD (fun(j:Nat) (qs:List PoR) L=>(((((((((St.mk L.slot (hp [(1,⟨5,[.agg [aE U,aE V,.list 3 (kU.map ratL),.list 3 (kV.map ratL),.list 1 (rows.map cM)]],true⟩),(2,⟨12,[.agg [.agg [.v (.int .i64 0),.v (.int .i64 0),.v (.slice none 0 0)],.agg [.v (.int .i64 0),.v (.int .i64 0),.v (.slice none 0 0)],.agg [.v (.int .i64 0),.v (.int .i64 0),.v (.slice none 0 0)],.agg [.v (.int .i64 0),.v (.int .i64 0),.v (.slice none 0 0)]]],true⟩),(3,⟨12,[.agg [.agg [aE U,aE V,.ref 1001 3 0 qs.length],.agg [aE U,aE V,.ref 1002 3 0 qs.length],.agg [aE U,aE V,.ref 1003 3 0 qs.length],.agg [aE U,aE V,.ref 1004 3 0 qs.length]]],true⟩),(1001,⟨3,(f7 qs 0).map ratL,true⟩),(1002,⟨3,(f7 qs 1).map ratL,true⟩),(1003,⟨3,(f7 qs 2).map ratL,true⟩),(1004,⟨3,(gI qs).map ratL,true⟩)])).put (some 2) (.eptr 2 12 0 0)).put (some 3) (.eptr 3 12 0 0)).put (some 26) (.list 1 (rows.map cM))).put (some 27) (aE rows.length)).put (some 28) (aE i)).put (some 32) (.list 12 ((rows.getD i []).map gZ))).put (some 33) (aE (rows.getD i []).length)).put (some 34) (aE j))) (fun j qs=>rwJ rows i j qs) (fun j qs=>(rows.getD i []).length-j) 0 ps (hI.go hi2) ?_
  rintro j qs L3 hJ
  refine dB ?_
  refine aK rfl (fun h35r h35=>?_) (fun h35r h35=>?_)
  ·have hj2:j<(rows.getD i []).length:=by omega
   have hJe:=hJ.hj
   have hJl:=hJ.le
   have hJi:=hJ.hi
   have hrm:=dZ hJi
   have hrl:=hw.m _ hrm
   have hqm:=fY hj2
   have hok:=hw.ok _ hrm _ hqm
   have hJ2:=hJ.lt hj2
   have ers0:(f7 qs 0)++[((rows.getD i []).getD j default).w*((rows.getD i []).getD j default).p.x]=(f7 (qs++[((rows.getD i []).getD j default)]) 0):=sX _ _ 0
   have ers1:(f7 qs 1)++[((rows.getD i []).getD j default).w*((rows.getD i []).getD j default).p.y]=(f7 (qs++[((rows.getD i []).getD j default)]) 1):=sX _ _ 1
   have ers2:(f7 qs 2)++[((rows.getD i []).getD j default).w*((rows.getD i []).getD j default).p.z]=(f7 (qs++[((rows.getD i []).getD j default)]) 2):=sX _ _ 2
   have ers3:(gI qs)++[((rows.getD i []).getD j default).w]=(gI (qs++[((rows.getD i []).getD j default)])):=aHz _ _
   have etk0:((f7 qs 0).map ratL).take qs.length=(f7 qs 0).map ratL:=List.take_of_length_le (by rw [List.length_map,fI];omega)
   have etk1:((f7 qs 1).map ratL).take qs.length=(f7 qs 1).map ratL:=List.take_of_length_le (by rw [List.length_map,fI];omega)
   have etk2:((f7 qs 2).map ratL).take qs.length=(f7 qs 2).map ratL:=List.take_of_length_le (by rw [List.length_map,fI];omega)
   have etk3:((gI qs).map ratL).take qs.length=(gI qs).map ratL:=List.take_of_length_le (by rw [List.length_map,k9];omega)
   have hn0:=fI qs 0
   have hn1:=fI qs 1
   have hn2:=fI qs 2
   have hn3:=k9 qs
   refine iJ ?_
   refine cp dC (aMs ((rows.getD i []).getD j default) R hR hok) ?_
   refine cO ?_
   refine aW ?_
   refine dB ?_
   refine bK (b:=_) rfl (by decide) ?_
   refine eA ?_
   refine g8 7 [0] (by decide +kernel) ?_
   refine dL ?_
   refine bD rfl (.appX (d:=1001) (news:=[ratL (((rows.getD i []).getD j default).w*((rows.getD i []).getD j default).p.x)]) rfl rfl rfl rfl (by simp;omega) (.inl rfl) (by decide) Tryz.underlying159 Tryz.underlying159 eH cX rfl lB (.inl ⟨50,0,_,rfl,by decide,rfl,rfl,by simp,rfl,by simp [aY,aD.pure]⟩) (by simp;omega) (by simp;omega) (by decide)) ?_
   refine dB ?_
   refine bR ((bI.kill _ 10).trans (bI.kill _ 50)) ?_
   refine cO ?_
   refine aW ?_
   refine dB ?_
   refine bK (b:=_) rfl (by decide) ?_
   refine eA ?_
   refine g8 7 [0] (by decide +kernel) ?_
   refine dL ?_
   refine bD rfl (.appX (d:=1002) (news:=[ratL (((rows.getD i []).getD j default).w*((rows.getD i []).getD j default).p.y)]) rfl rfl rfl rfl (by simp;omega) (.inl rfl) (by decide) Tryz.underlying159 Tryz.underlying159 eH cX rfl lB (.inl ⟨50,0,_,rfl,by decide,rfl,rfl,by simp,rfl,by simp [aY,aD.pure]⟩) (by simp;omega) (by simp;omega) (by decide)) ?_
   refine dB ?_
   refine bR ((bI.kill _ 10).trans (bI.kill _ 50)) ?_
   refine cO ?_
   refine aW ?_
   refine dB ?_
   refine bK (b:=_) rfl (by decide) ?_
   refine eA ?_
   refine g8 7 [0] (by decide +kernel) ?_
   refine dL ?_
   refine bD rfl (.appX (d:=1003) (news:=[ratL (((rows.getD i []).getD j default).w*((rows.getD i []).getD j default).p.z)]) rfl rfl rfl rfl (by simp;omega) (.inl rfl) (by decide) Tryz.underlying159 Tryz.underlying159 eH cX rfl lB (.inl ⟨50,0,_,rfl,by decide,rfl,rfl,by simp,rfl,by simp [aY,aD.pure]⟩) (by simp;omega) (by simp;omega) (by decide)) ?_
   refine dB ?_
   refine bR ((bI.kill _ 10).trans (bI.kill _ 50)) ?_
   refine cO ?_
   refine aW ?_
   refine dB ?_
   refine bK (b:=_) rfl (by decide) ?_
   refine eA ?_
   refine g8 7 [0] (by decide +kernel) ?_
   refine dL ?_
   refine bD rfl (.appX (d:=1004) (news:=[ratL (((rows.getD i []).getD j default).w)]) rfl rfl rfl rfl (by simp;omega) (.inl rfl) (by decide) Tryz.underlying159 Tryz.underlying159 eH cX rfl lB (.inl ⟨50,0,_,rfl,by decide,rfl,rfl,by simp,rfl,by simp [aY,aD.pure]⟩) (by simp;omega) (by simp;omega) (by decide)) ?_
   refine dB ?_
   refine bR ((bI.kill _ 10).trans (bI.kill _ 50)) ?_
   refine cO ?_
   refine aW ?_
   refine dB ?_
   refine bX (b:=_) rfl (by decide) ?_
   refine dB ?_
   refine bR (bI.kill _ 8) ?_
   refine aB rfl (.bin rfl rfl (bV (by omega))) ?_
   refine cP ?_
   exact lI (j+1) (qs++[((rows.getD i []).getD j default)]) (hJ.next hj2)
  ·have hJe:=hJ.hj
   have hJl:=hJ.le
   have hJi:=hJ.hi
   have hrm:=dZ hJi
   have hrl:=hw.m _ hrm
   obtain rfl:j=(rows.getD i []).length:=by omega
   refine dL ?_
   refine aB rfl (.bin rfl rfl (bV (by omega))) ?_
   refine cP ?_
   exact lI (i+1) qs hJ.last (hm:=by have:=hJ.hi;omega)
 ·have hIi:=hI.hi
  obtain rfl:i=rows.length:=by omega
  have hE:=hI.last
  subst hE
  refine cW ?_
  exact dQ [1001,1002,1003,1004] rfl rfl rfl cs (dN cs rfl) T65 (.agg (.cons (.agg (.cons (.pure rfl) (.cons (.pure rfl) (.cons (cA aD rfl rfl (fI _ 0).symm) .nil)))) (.cons (.agg (.cons (.pure rfl) (.cons (.pure rfl) (.cons (cA aD rfl rfl (fI _ 1).symm) .nil)))) (.cons (.agg (.cons (.pure rfl) (.cons (.pure rfl) (.cons (cA aD rfl rfl (fI _ 2).symm) .nil)))) (.cons (.agg (.cons (.pure rfl) (.cons (.pure rfl) (.cons (cA aD rfl rfl (k9 _).symm) .nil)))) .nil)))))
namespace Zq29
theorem dG {p q:Prop} (k:q) (e:p=q:=by simp only [e1,e2,e3,e4,p1,p2,p3,q1,q2,q3,l1,t0,t1,r1,r2,r3,r4,Nat.zero_add,Nat.reduceMul,Nat.reduceAdd,b1,b2,b3,b4,b5,b6,i1,i2,i3,i4,i5,i6,Nat.reduceBEq,cM,etk0,etk1,etk2,etk3,ers0,ers1,ers2,ers3,bQ,dS,aC gY,gB,gW,bJ,cI,bQ,List.length_cons,List.length_nil,List.nil_append,List.map_nil,List.take_nil,List.append_nil,List.set_cons_zero,List.set_cons_succ,Nat.reduceEqDiff,reduceIte,if_true,if_false,bG,bF,aC fF,aC eI,aC aD,aS,aZ,LV.kill,bB];exact rfl):p:=e.mpr k
end Zq29
open Zq29 in
theorem aId (U V:Nat) (kU kV:List Rat) (rows:List (List PoR)) (hU:U≤1000000) (hV:V≤1000000) (R:Nat) (hR:R≤1000000) (hw:rwOK rows R):aM Tryz.prog 25 [.agg [aE U,aE V,.list 3 (kU.map ratL),.list 3 (kV.map ratL),.list 1 (rows.map cM)]] (.agg [.agg [aE U,aE V,.list 3 ((f7 rows.flatten 0).map ratL)],.agg [aE U,aE V,.list 3 ((f7 rows.flatten 1).map ratL)],.agg [aE U,aE V,.list 3 ((f7 rows.flatten 2).map ratL)],.agg [aE U,aE V,.list 3 ((gI rows.flatten).map ratL)]]):=by
 have hsp:LV.pure (.agg [aE U,aE V,.list 3 (kU.map ratL),.list 3 (kV.map ratL),.list 1 (rows.map cM)])=true:=by simp [LV.pure,aY,aH aD,aH gY]
 have hwn:=hw.n
 have hwf:=hw.f
 refine dI Tryz.func25 (ht:=(fun g=>LV.ren_pure g _ (by simp [LV.pure,aY,aH aD,aH gY]))) ?_
 have etk0:True:=trivial
 have etk1:True:=trivial
 have etk2:True:=trivial
 have etk3:True:=trivial
 have ers0:True:=trivial
 have ers1:True:=trivial
 have ers2:True:=trivial
 have ers3:True:=trivial
 refine pP ?_
 refine aW ?_
 refine dL ?_
 refine bK (b:=_) rfl (by decide) ?_
 refine aCu ?_
 refine aW ?_
 refine dL ?_
 refine bK (b:=_) rfl (by decide) ?_
 refine aCu ?_
 refine aW ?_
 refine dL ?_
 refine bK (b:=_) rfl (by decide) ?_
 refine aCu ?_
 refine aW ?_
 refine dL ?_
 refine bK (b:=_) rfl (by decide) ?_
 refine aCu ?_
 refine aW ?_
 refine dL ?_
 refine bX (b:=_) rfl (by decide) ?_
 refine cW ?_
 refine eZ (((bI.cell 3 rfl (fun Z μ w cs h=>yA 1001 1002 1003 1004 3 _ _ _ _ _ _ _ _ Z μ w cs h)).trans ((bI.newB _ 1001 3 rfl).trans ((bI.newB _ 1002 3 rfl).trans ((bI.newB _ 1003 3 rfl).trans (bI.newB _ 1004 3 rfl)))))) ?_
 refine nD (fun(i:Nat) (ps:List PoR) L=>(((((St.mk L.slot (hp [(1,⟨5,[.agg [aE U,aE V,.list 3 (kU.map ratL),.list 3 (kV.map ratL),.list 1 (rows.map cM)]],true⟩),(2,⟨12,[.agg [.agg [.v (.int .i64 0),.v (.int .i64 0),.v (.slice none 0 0)],.agg [.v (.int .i64 0),.v (.int .i64 0),.v (.slice none 0 0)],.agg [.v (.int .i64 0),.v (.int .i64 0),.v (.slice none 0 0)],.agg [.v (.int .i64 0),.v (.int .i64 0),.v (.slice none 0 0)]]],true⟩),(3,⟨12,[.agg [.agg [aE U,aE V,.ref 1001 3 0 ps.length],.agg [aE U,aE V,.ref 1002 3 0 ps.length],.agg [aE U,aE V,.ref 1003 3 0 ps.length],.agg [aE U,aE V,.ref 1004 3 0 ps.length]]],true⟩),(1001,⟨3,(f7 ps 0).map ratL,true⟩),(1002,⟨3,(f7 ps 1).map ratL,true⟩),(1003,⟨3,(f7 ps 2).map ratL,true⟩),(1004,⟨3,(gI ps).map ratL,true⟩)])).put (some 1) (.eptr 1 5 0 0)).put (some 2) (.eptr 2 12 0 0)).put (some 3) (.eptr 3 12 0 0)).put (some 5) (aE i))) (fun i ps=>rwI rows i ps) (fun i ps=>rows.length-i) 0 ([]) (rwI.zero rows) ?_
 rintro i ps L2 hI
 refine cN ?_
 refine aK rfl (fun h24r h24=>?_) (fun h24r h24=>?_)
 ·have hi2:i<rows.length:=by omega
  refine cN ?_
  refine nD (fun(j:Nat) (qs:List PoR) L=>((((((St.mk L.slot (hp [(1,⟨5,[.agg [aE U,aE V,.list 3 (kU.map ratL),.list 3 (kV.map ratL),.list 1 (rows.map cM)]],true⟩),(2,⟨12,[.agg [.agg [.v (.int .i64 0),.v (.int .i64 0),.v (.slice none 0 0)],.agg [.v (.int .i64 0),.v (.int .i64 0),.v (.slice none 0 0)],.agg [.v (.int .i64 0),.v (.int .i64 0),.v (.slice none 0 0)],.agg [.v (.int .i64 0),.v (.int .i64 0),.v (.slice none 0 0)]]],true⟩),(3,⟨12,[.agg [.agg [aE U,aE V,.ref 1001 3 0 qs.length],.agg [aE U,aE V,.ref 1002 3 0 qs.length],.agg [aE U,aE V,.ref 1003 3 0 qs.length],.agg [aE U,aE V,.ref 1004 3 0 qs.length]]],true⟩),(1001,⟨3,(f7 qs 0).map ratL,true⟩),(1002,⟨3,(f7 qs 1).map ratL,true⟩),(1003,⟨3,(f7 qs 2).map ratL,true⟩),(1004,⟨3,(gI qs).map ratL,true⟩)])).put (some 1) (.eptr 1 5 0 0)).put (some 2) (.eptr 2 12 0 0)).put (some 3) (.eptr 3 12 0 0)).put (some 5) (aE i)).put (some 6) (aE j))) (fun j qs=>rwJ rows i j qs) (fun j qs=>(rows.getD i []).length-j) 0 ps (hI.go hi2) ?_
  rintro j qs L3 hJ
  have hJe:=hJ.hj
  have hJl:=hJ.le
  have hJi:=hJ.hi
  have hrm:=dZ hJi
  have hrl:=hw.m _ hrm
  refine eA ?_
  refine aK rfl (fun h34r h34=>?_) (fun h34r h34=>?_)
  ·have hj2:j<(rows.getD i []).length:=by omega
   have hqm:=fY hj2
   have hok:=hw.ok _ hrm _ hqm
   have hJ2:=hJ.lt hj2
   have ers0:(f7 qs 0)++[((rows.getD i []).getD j default).w*((rows.getD i []).getD j default).p.x]=(f7 (qs++[((rows.getD i []).getD j default)]) 0):=sX _ _ 0
   have ers1:(f7 qs 1)++[((rows.getD i []).getD j default).w*((rows.getD i []).getD j default).p.y]=(f7 (qs++[((rows.getD i []).getD j default)]) 1):=sX _ _ 1
   have ers2:(f7 qs 2)++[((rows.getD i []).getD j default).w*((rows.getD i []).getD j default).p.z]=(f7 (qs++[((rows.getD i []).getD j default)]) 2):=sX _ _ 2
   have ers3:(gI qs)++[((rows.getD i []).getD j default).w]=(gI (qs++[((rows.getD i []).getD j default)])):=aHz _ _
   have etk0:((f7 qs 0).map ratL).take qs.length=(f7 qs 0).map ratL:=List.take_of_length_le (by rw [List.length_map,fI];omega)
   have etk1:((f7 qs 1).map ratL).take qs.length=(f7 qs 1).map ratL:=List.take_of_length_le (by rw [List.length_map,fI];omega)
   have etk2:((f7 qs 2).map ratL).take qs.length=(f7 qs 2).map ratL:=List.take_of_length_le (by rw [List.length_map,fI];omega)
   have etk3:((gI qs).map ratL).take qs.length=(gI qs).map ratL:=List.take_of_length_le (by rw [List.length_map,k9];omega)
   have hn0:=fI qs 0
   have hn1:=fI qs 1
   have hn2:=fI qs 2
   have hn3:=k9 qs
   refine gC ?_
   refine cp dC (aJt ((rows.getD i []).getD j default) R hR hok) ?_
   refine cN ?_
   refine aW ?_
   refine dL ?_
   refine bK (b:=_) rfl (by decide) ?_
   refine cO ?_
   refine g8 9 [0] (by decide +kernel) ?_
   refine dU ?_
   refine bD rfl (.appX (d:=1001) (news:=[ratL (((rows.getD i []).getD j default).w*((rows.getD i []).getD j default).p.x)]) rfl rfl rfl rfl (by simp;omega) (.inl rfl) (by decide) Tryz.underlying159 Tryz.underlying159 eH cX rfl lB (.inl ⟨58,0,_,rfl,by decide,rfl,rfl,by simp,rfl,by simp [aY,aD.pure]⟩) (by simp;omega) (by simp;omega) (by decide)) ?_
   refine dB ?_
   refine bR (bI.kill _ 58) ?_
   refine dR ?_
   refine aW ?_
   refine dL ?_
   refine bK (b:=_) rfl (by decide) ?_
   refine cO ?_
   refine g8 9 [0] (by decide +kernel) ?_
   refine dU ?_
   refine bD rfl (.appX (d:=1002) (news:=[ratL (((rows.getD i []).getD j default).w*((rows.getD i []).getD j default).p.y)]) rfl rfl rfl rfl (by simp;omega) (.inl rfl) (by decide) Tryz.underlying159 Tryz.underlying159 eH cX rfl lB (.inl ⟨58,0,_,rfl,by decide,rfl,rfl,by simp,rfl,by simp [aY,aD.pure]⟩) (by simp;omega) (by simp;omega) (by decide)) ?_
   refine dB ?_
   refine bR (bI.kill _ 58) ?_
   refine dR ?_
   refine aW ?_
   refine dL ?_
   refine bK (b:=_) rfl (by decide) ?_
   refine cO ?_
   refine g8 9 [0] (by decide +kernel) ?_
   refine dU ?_
   refine bD rfl (.appX (d:=1003) (news:=[ratL (((rows.getD i []).getD j default).w*((rows.getD i []).getD j default).p.z)]) rfl rfl rfl rfl (by simp;omega) (.inl rfl) (by decide) Tryz.underlying159 Tryz.underlying159 eH cX rfl lB (.inl ⟨58,0,_,rfl,by decide,rfl,rfl,by simp,rfl,by simp [aY,aD.pure]⟩) (by simp;omega) (by simp;omega) (by decide)) ?_
   refine dB ?_
   refine bR (bI.kill _ 58) ?_
   refine dR ?_
   refine aW ?_
   refine dL ?_
   refine bK (b:=_) rfl (by decide) ?_
   refine cO ?_
   refine g8 9 [0] (by decide +kernel) ?_
   refine dU ?_
   refine bD rfl (.appX (d:=1004) (news:=[ratL (((rows.getD i []).getD j default).w)]) rfl rfl rfl rfl (by simp;omega) (.inl rfl) (by decide) Tryz.underlying159 Tryz.underlying159 eH cX rfl lB (.inl ⟨58,0,_,rfl,by decide,rfl,rfl,by simp,rfl,by simp [aY,aD.pure]⟩) (by simp;omega) (by simp;omega) (by decide)) ?_
   refine dB ?_
   refine bR (bI.kill _ 58) ?_
   refine dR ?_
   refine aW ?_
   refine dL ?_
   refine bX (b:=_) rfl (by decide) ?_
   refine dB ?_
   refine bR (bI.kill _ 7) ?_
   refine bE ?_
   refine aB rfl (.bin rfl rfl (bV (by omega))) ?_
   refine cP ?_
   exact lI (j+1) (qs++[((rows.getD i []).getD j default)]) (hJ.next hj2)
  ·obtain rfl:j=(rows.getD i []).length:=by omega
   refine eC ?_
   refine aB rfl (.bin rfl rfl (bV (by omega))) ?_
   refine cP ?_
   exact lI (i+1) qs hJ.last (hm:=by have:=hJ.hi;omega)
 ·have hIi:=hI.hi
  obtain rfl:i=rows.length:=by omega
  have hE:=hI.last
  subst hE
  refine cW ?_
  exact dQ [1001,1002,1003,1004] rfl rfl rfl cs (dN cs rfl) T65 (.agg (.cons (.agg (.cons (.pure rfl) (.cons (.pure rfl) (.cons (cA aD rfl rfl (fI _ 0).symm) .nil)))) (.cons (.agg (.cons (.pure rfl) (.cons (.pure rfl) (.cons (cA aD rfl rfl (fI _ 1).symm) .nil)))) (.cons (.agg (.cons (.pure rfl) (.cons (.pure rfl) (.cons (cA aD rfl rfl (fI _ 2).symm) .nil)))) (.cons (.agg (.cons (.pure rfl) (.cons (.pure rfl) (.cons (cA aD rfl rfl (k9 _).symm) .nil)))) .nil)))))
structure pf (R U V:Nat) (rows:List (List PoR)):Prop where
 r1:1≤R
 rB:R≤1000000
 u1:1≤U
 u3:U≤3
 v1:1≤V
 v3:V≤3
 n:rows.length=U+1
 m:∀ r∈rows,r.length=V+1
 ok:∀ r∈rows,∀ q∈r,pY R q
theorem aBS {rows:List (List PoR)} {m:Nat} (h:∀ r∈rows,r.length=m):rows.flatten.length=rows.length*m:=by
 induction rows with
 | nil=>simp
 | cons r rs ih =>
  rw [List.flatten_cons,List.length_append,ih fun x hx=>h x (List.mem_cons_of_mem _ hx),h r (List.mem_cons_self ..),List.length_cons,Nat.succ_mul,Nat.add_comm]
section
variable {R U V:Nat} {rows:List (List PoR)} (h:pf R U V rows)
include h
theorem pf.len:rows.flatten.length=(U+1)*(V+1):=by rw [aBS h.m,h.n]
theorem pf.l16:rows.flatten.length≤16:=by
 rw [h.len]
 have h1:=h.u3
 have h2:=h.v3
 exact Nat.le_trans (Nat.mul_le_mul (show U+1≤4 by omega) (show V+1≤4 by omega)) (by decide)
theorem pf.fok:∀ q∈rows.flatten,pY R q:=fun q hq=>by
 obtain⟨r,h1,h2⟩:=List.mem_flatten.1 hq
 exact h.ok r h1 q h2
theorem pf.rw:rwOK rows R:=by
 have h1:=h.u3
 have h2:=h.v3
 have h3:=h.n
 have h4:=h.l16
 exact⟨h.ok,by omega,fun r hr=>by have:=h.m r hr;omega,by omega⟩
theorem pf.nl (k:Nat):(f7 rows.flatten k).length=(U+1)*(V+1):=by rw [fI,h.len]
theorem pf.wl:(gI rows.flatten).length=(U+1)*(V+1):=by rw [k9,h.len]
theorem pf.nr (k:Nat):∀ x∈f7 rows.flatten k,rl x≤2*R:=aF4 h.fok k
theorem pf.wr:∀ x∈gI rows.flatten,rl x≤R:=aFU h.fok
end
theorem aFA {U V i j R:Nat} {c:List Rat} (hU:U≤40) (hV:V≤40) (hc:c.length=(U+1)*(V+1)) (hi:i≤U) (hR:1≤R) (h:∀ x∈c,rl x≤R):rl (sx U V c i j)≤R+4:=by
 have h1:=uS (n:=U) i hU
 have h2:=uS (n:=V) j hV
 have h3:=fH (S:=R) hR (fun x hx=>h x (lA (V:=V) (i:=i) hx)) j
 have h4:=cS (cR V j) ((nE V c i).getD j 0)
 have h5:=cS (cR U i) (cR V j*(nE V c i).getD j 0)
 rw [sx,sq,d9 hc hi,Nat.add_sub_cancel]
 unfold cR at *
 omega
theorem aFI {S U1 V1 U2 V2:Nat} {a b:List Rat} (ha:a.length=(U1+1)*(V1+1)) (hb:b.length=(U2+1)*(V2+1)) (hU1:U1≤3) (hV1:V1≤3) (hU2:U2≤3) (hV2:V2≤3) (hS:1≤S) (haR:∀ x∈a,rl x≤S) (hbR:∀ x∈b,rl x≤S):∀ x∈sT U1 V1 U2 V2 a b,rl x≤224*S+1200:=by
 intro x hx
 have ht:=aC9 U1 V1 U2 V2 a b
 obtain⟨k,hk,rfl⟩:=List.getElem_of_mem hx
 rw [ht] at hk
 have h1:k/(V1+V2+1)<U1+U2+1:=Nat.div_lt_of_lt_mul (by rw [Nat.mul_comm];exact hk)
 have h2:=Nat.mod_lt k (show V1+V2+1 > 0 by omega)
 have e:k=k/(V1+V2+1)*(V1+V2+1)+k % (V1+V2+1):=by rw [Nat.mul_comm];exact(Nat.div_add_mod k _).symm
 have e2:(sT U1 V1 U2 V2 a b)[k]=(sT U1 V1 U2 V2 a b).getD k 0:=by rw [List.getD_eq_getElem?_getD,List.getElem?_eq_getElem (by rw [ht];exact hk)];rfl
 rw [e2,e]
 generalize k/(V1+V2+1)=r at *
 generalize k % (V1+V2+1)=s at *
 rw [aLe ha hb (by omega) (by omega)]
 have c1:=uS (n:=U1+U2) r (by omega)
 have c2:=uS (n:=V1+V2) s (by omega)
 have c3:=cS (cR (U1+U2) r) (cR (V1+V2) s)
 have hcf:∀ i,i<U1+1→∀ k,k<U2+1→rl (if i+k=r then cf (sx U1 V1 a i) (sx U2 V2 b k) s else 0)≤14*S+64:=fun i hi k hk=>by
  split
  ·have:=zT (B:=2*S+8) (s+1) (fun j=>sx U1 V1 a i j*sx U2 V2 b k (s-j)) (fun j _=>by
    have g1:=aFA (j:=j) (show U1≤40 by omega) (show V1≤40 by omega) ha (show i≤U1 by omega) hS haR
    have g2:=aFA (j:=s-j) (show U2≤40 by omega) (show V2≤40 by omega) hb (show k≤U2 by omega) hS hbR
    have g3:=cS (sx U1 V1 a i j) (sx U2 V2 b k (s-j))
    omega)
   refine Nat.le_trans this ?_
   have:(s+1)*(2*S+8+1)≤7*(2*S+8+1):=Nat.mul_le_mul (by omega) (Nat.le_refl _)
   omega
  ·show rl 0≤_
   rw [show rl 0=1 from rfl];omega
 have h3:=zT (B:=56*S+261) (U1+1) _ (fun i hi=>Nat.le_trans (zT (B:=14*S+64) (U2+1) _ (hcf i hi)) (by
  have:(U2+1)*(14*S+64+1)≤4*(14*S+64+1):=Nat.mul_le_mul (by omega) (Nat.le_refl _)
  omega))
 have h4:=pQ (tpS U1 V1 U2 V2 a b r s) (cR (U1+U2) r*cR (V1+V2) s)
 have h5:rl (tpS U1 V1 U2 V2 a b r s)≤1+(U1+1)*(56*S+261+1):=h3
 have h6:(U1+1)*(56*S+261+1)≤4*(56*S+261+1):=Nat.mul_le_mul (by omega) (Nat.le_refl _)
 unfold cR at *
 omega
def nU (U V Ud Vd:Nat) (D:List Rat→List Rat) (F:List PoR) (k:Nat):List Rat:=wO (·-·) (sT Ud Vd U V (D (f7 F k)) (gI F)) (sT U V Ud Vd (f7 F k) (D (gI F)))
structure dfS (U V Ud Vd:Nat) (D:List Rat→List Rat):Prop where
 u:Ud≤3
 v:Vd≤3
 l:∀ c:List Rat,c.length=(U+1)*(V+1)→(D c).length=(Ud+1)*(Vd+1)
 r:∀ (R:Nat) (c:List Rat),1≤R→c.length=(U+1)*(V+1)→(∀ x∈c,rl x≤R)→∀ x∈D c,rl x≤2*R+4
theorem aKv {U V:Nat} (hU:U≤3) (hV:V≤3):dfS U V (U-1) V (xR U V) :=
 ⟨by omega,hV,fun c _=>aI5 U V c,fun R c hR hc h=>aL4 (R:=R) hc (by omega) hR h⟩
theorem aJW {U V:Nat} (hU:U≤3) (hV:V≤3):dfS U V U (V-1) (xQ U V) :=
 ⟨hU,by omega,fun c hc=>aJp hc,fun R c hR hc h=>aLH (R:=R) hc (by omega) hR h⟩
section
variable {R U V Ud Vd:Nat} {rows:List (List PoR)} {D:List Rat→List Rat} (h:pf R U V rows) (hd:dfS U V Ud Vd D) (k:Nat)
theorem aBa (h:pf R U V rows) (hd:dfS U V Ud Vd D) (k:Nat):(sT Ud Vd U V (D (f7 rows.flatten k)) (gI rows.flatten)).length=(Ud+U+1)*(Vd+V+1)∧∀ x∈sT Ud Vd U V (D (f7 rows.flatten k)) (gI rows.flatten),rl x≤900*R+2100 :=
 ⟨aC9 ..,fun x hx=>by
  have hr:=h.r1
  have:=aFI (S:=4*R+4) (hd.l _ (h.nl k)) h.wl hd.u hd.v h.u3 h.v3 (by omega) (fun x hx=>by have:=hd.r _ _ (show 1≤2*R by omega) (h.nl k) (h.nr k) x hx;omega) (fun x hx=>by have:=h.wr x hx;omega) x hx
  omega⟩
theorem aEh (h:pf R U V rows) (hd:dfS U V Ud Vd D) (k:Nat):(sT U V Ud Vd (f7 rows.flatten k) (D (gI rows.flatten))).length=(Ud+U+1)*(Vd+V+1)∧∀ x∈sT U V Ud Vd (f7 rows.flatten k) (D (gI rows.flatten)),rl x≤900*R+2100 :=
 ⟨by rw [aC9,Nat.add_comm U Ud,Nat.add_comm V Vd],fun x hx=>by
  have hr:=h.r1
  have:=aFI (S:=4*R+4) (h.nl k) (hd.l _ h.wl) h.u3 h.v3 hd.u hd.v (by omega) (fun x hx=>by have:=h.nr k x hx;omega) (fun x hx=>by have:=hd.r _ _ hr h.wl h.wr x hx;omega) x hx
  omega⟩
theorem qZ (h:pf R U V rows) (hd:dfS U V Ud Vd D) (k:Nat):(nU U V Ud Vd D rows.flatten k).length=(Ud+U+1)*(Vd+V+1):=by rw [nU,aA8];exact(aBa h hd k).1
theorem vS (h:pf R U V rows) (hd:dfS U V Ud Vd D) (k:Nat):∀ x∈nU U V Ud Vd D rows.flatten k,rl x≤1800*R+4201:=fun x hx=>by
 have:=aJC (R:=900*R+2100) jX (by omega) (aBa h hd k).2 (aEh h hd k).2 x hx
 omega
theorem aMu {a b:Nat} (ha:a≤6) (hb:b≤6):(a+1)*(b+1)≤49:=Nat.le_trans (Nat.mul_le_mul (show a+1≤7 by omega) (show b+1≤7 by omega)) (by decide)
end
def shX (x:Rat):Prop:=rl (1-x)+rl x+1≤20
theorem z8 {R U V:Nat} {c:List Rat} {u v:Rat} (hc:c.length=(U+1)*(V+1)) (hU:U≤6) (hV:V≤6) (hR1:1≤R) (hR:R≤100000) (h:∀ x∈c,rl x≤R) (hu:shX u) (hv:shX v) :
  (∀ j,j≤V→HS (nE U (n6 U V c) j) u)∧HS (aAe U V c u) v∧(∀ i,i≤U→HS (nE V c i) v)∧HS (aHM U V c v) u∧rl (oR U V c u v)≤4100*(R+30):=by
 unfold shX at hu hv
 have h1:∀ j,j≤V→∀ x∈nE U (n6 U V c) j,rl x≤R:=fun j _ x hx=>h x (aDd hc (lA hx))
 have h2:∀ j,j≤V→(nE U (n6 U V c) j).length=U+1:=fun j hj=>d9 (iW U V c) hj
 have h3:∀ i,i≤U→∀ x∈nE V c i,rl x≤R:=fun j _ x hx=>h x (lA hx)
 have h4:∀ i,i≤U→(nE V c i).length=V+1:=fun j hj=>d9 hc hj
 have p6:∀ n,n≤6→2 ^ n≤64:=fun n hn=>Nat.pow_le_pow_right (n:=2) (by decide) hn
 have hrow:∀ x∈aAe U V c u,rl x≤(R+20)*64:=pG (U:=V) (fun j hj x hx=>by
  rw [List.mem_singleton.1 hx]
  have:=aHu (p:=nE U (n6 U V c) j) (t:=u) (by rw [h2 j hj];omega) hR1 (h1 j hj)
  rw [h2 j hj,Nat.add_sub_cancel] at this
  exact Nat.le_trans this (Nat.mul_le_mul (by omega) (p6 U hU))) (Nat.le_refl _)
 have hcol:∀ x∈aHM U V c v,rl x≤(R+20)*64:=pG (U:=U) (fun i hi x hx=>by
  rw [List.mem_singleton.1 hx]
  have:=aHu (p:=nE V c i) (t:=v) (by rw [h4 i hi];omega) hR1 (h3 i hi)
  rw [h4 i hi,Nat.add_sub_cancel] at this
  exact Nat.le_trans this (Nat.mul_le_mul (by omega) (p6 V hV))) (Nat.le_refl _)
 refine⟨fun j hj=>zF (by rw [h2 j hj];omega) (fun y hy=>by have:=h1 j hj y hy;omega) (by omega),zF (by rw [sM];omega) (fun y hy=>by have:=hrow y hy;omega) (by omega),
  fun j hj=>zF (by rw [h4 j hj];omega) (fun y hy=>by have:=h3 j hj y hy;omega) (by omega),zF (by rw [aF3];omega) (fun y hy=>by have:=hcol y hy;omega) (by omega),?_⟩
 have:=aHu (p:=aAe U V c u) (t:=v) (by rw [sM];omega) (show 1≤(R+20)*64 by omega) hrow
 rw [sM,Nat.add_sub_cancel] at this
 refine Nat.le_trans this (Nat.le_trans (Nat.mul_le_mul (show _≤(R+20)*64+20 by omega) (p6 V hV)) ?_)
 omega
namespace Zq109
theorem dG {p q:Prop} (k:q) (e:p=q:=by simp only [e1,e2,e3,e4,p1,p2,p3,q1,q2,q3,l1,t0,t1,r1,r2,r3,r4,Nat.zero_add,Nat.reduceMul,Nat.reduceAdd,b1,b2,b3,b4,b5,b6,i1,i2,i3,i4,i5,i6,Nat.reduceBEq,gW,hkl,hlo,hhi,List.length_map,List.set_cons_zero,List.set_cons_succ,Nat.reduceEqDiff,reduceIte,if_true,if_false,bG,bF,aC fF,aC eI,aC aD,aS,aZ,LV.kill,bB];exact rfl):p:=e.mpr k
end Zq109
open Zq109 in
theorem aDs (d:Nat) (a b:Rat) (ha:rl a≤100) (hb:rl b≤100) (hab:a<b) (h9:d≤6):aM Tryz.prog 129 [.list 3 ((nS d a b).map ratL)] (spL (a,b)):=by
 have hkl:=aJj d a b
 have hlo:=aLq d a b
 have hhi:=aKV d a b
 have hkp:=aG aD 3 (nS d a b)
 have hS:=aJI a b (by omega)
 rw [aKT hab,aKU hab] at hS
 refine dI Tryz.func129 ?_
 refine eA ?_
 refine aK rfl (fun h5r h5=>?_) (fun h5r h5=>?_)
 ·omega
 ·refine cP ?_
  refine aP 10 (by decide +kernel) ?_
  refine dB ?_
  refine aB rfl (.bin rfl rfl (iG (by omega) (by omega))) ?_
  refine cY ?_
  try simp only [t1,gW,hkl,hlo,hhi,List.length_map]
  refine cp b9 (hS) ?_
  refine cO ?_
  exact dQ [] rfl rfl rfl (jK.csize _) (k6 _) T42 (.pure (jK.pure _))
namespace Zq87
theorem dG {p q:Prop} (k:q) (e:p=q:=by simp only [e1,e2,e3,e4,p1,p2,p3,q1,q2,q3,l1,t0,t1,r1,r2,r3,r4,Nat.zero_add,Nat.reduceMul,Nat.reduceAdd,b1,b2,b3,b4,b5,b6,i1,i2,i3,i4,i5,i6,Nat.reduceBEq,dS,aC gY,gB,gW,bJ,cI,bQ,List.length_cons,List.length_nil,List.nil_append,List.map_nil,List.take_nil,List.append_nil,List.set_cons_zero,List.set_cons_succ,Nat.reduceEqDiff,reduceIte,if_true,if_false,bG,bF,aC fF,aC eI,aC aD,aS,aZ,LV.kill,bB];exact rfl):p:=e.mpr k
end Zq87
open Zq87 in
theorem aLP (U V:Nat) (ua ub va vb:Rat) (rows:List (List PoR)) (hua:rl ua≤100) (hub:rl ub≤100) (hva:rl va≤100) (hvb:rl vb≤100) (hu:ua<ub) (hv:va<vb) (hU:U≤6) (hV:V≤6):aM Tryz.prog 64 [.agg [aE U,aE V,.list 3 ((nS U ua ub).map ratL),.list 3 ((nS V va vb).map ratL),.list 1 (rows.map cM)]] (.tup [spL (ua,ub),spL (va,vb)]):=by
 have hsp:LV.pure (.agg [aE U,aE V,.list 3 ((nS U ua ub).map ratL),.list 3 ((nS V va vb).map ratL),.list 1 (rows.map cM)])=true:=by simp [LV.pure,aY,aH aD,aH gY]
 have hku:=aG aD 3 (nS U ua ub)
 have hkv:=aG aD 3 (nS V va vb)
 refine dI Tryz.func64 (ht:=(jZ (jK.pure _) (jK.pure _))) ?_
 refine eC ?_
 refine aP 6 (by decide +kernel) ?_
 refine cY ?_
 refine cp dC (aDs U ua ub hua hub hu hU) ?_
 refine cY ?_
 refine cp dC (aDs V va vb hva hvb hv hV) ?_
 refine dR ?_
 exact aNg [] rfl rfl rfl (jK.csize _) (k6 _) T42 (.pure (jK.pure _)) rfl rfl (jK.csize _) (k6 _) T42 (.pure (jK.pure _))
namespace Zq94
theorem dG {p q:Prop} (k:q) (e:p=q:=by simp only [e1,e2,e3,e4,p1,p2,p3,q1,q2,q3,l1,t0,t1,r1,r2,r3,r4,Nat.zero_add,Nat.reduceMul,Nat.reduceAdd,b1,b2,b3,b4,b5,b6,i1,i2,i3,i4,i5,i6,Nat.reduceBEq,List.set_cons_zero,List.set_cons_succ,Nat.reduceEqDiff,reduceIte,if_true,if_false,bG,bF,aC fF,aC eI,aC aD,aS,aZ,LV.kill,bB];exact rfl):p:=e.mpr k
end Zq94
open Zq94 in
theorem aFY (a b t:Rat) (ha:rl a≤100) (hb:rl b≤100) (hab:a<b) (ht:rl t≤100) (hi:t7 (a,b) t=true):aM Tryz.prog 65 [spL (a,b),ratL t] (.tup [ratL ((t-a)/(b-a)),ratL (b-a),bL true]):=by
 have hz1:=jX t a
 have hz2:=jX b a
 have hW:aM Tryz.prog 110 [spL (a,b)] (ratL (b-a)):=aGc (a,b) (by show rl b+rl a≤_;omega)
 have hQ:aM Tryz.prog 68 [ratL (t-a),ratL (b-a)] (.tup [ratL ((t-a)/(b-a)),iL 0]):=by
  have:=aAi (t-a) (b-a) (by omega)
  rwa [if_neg (by grind)] at this
 have hH:aM Tryz.prog 130 [spL (a,b),ratL t] (bL true):=by
  have:=aK6 (a,b) t (by show rl a+rl t≤_;omega) (by show rl t+rl b≤_;omega)
  rwa [hi] at this
 refine dI Tryz.func65 (ht:=(aD2 (aD.pure _) (aD.pure _) rfl)) ?_
 refine gC ?_
 refine cp b9 (hH) ?_
 refine cP ?_
 refine aK rfl (fun h11r h11=>?_) (fun h11r h11=>?_)
 ·first | exact h11.elim | cases h11r
 ·refine dR ?_
  refine cp dC (hW) ?_
  refine cO ?_
  refine g8 9 [8] (by decide +kernel) ?_
  refine cP ?_
  refine cp b9 (lK t a (by omega)) ?_
  refine bE ?_
  refine cp b9 (hQ) ?_
  refine eC ?_
  refine qJ ?_
  refine w9 0 1 2 _ _ _ (by decide +kernel) rfl rfl rfl ?_ ?_ ?_
  ·refine bE ?_
   refine aF ?_
   refine w9 1 2 4 _ _ _ (by decide +kernel) rfl rfl rfl ?_ ?_ ?_
   ·refine bE ?_
    refine aF ?_
    refine dO 2 4 _ _ (by decide +kernel) rfl rfl ?_ ?_
    ·refine bE ?_
     refine aF ?_
     refine dO 3 4 _ _ (by decide +kernel) rfl rfl ?_ ?_
     ·refine bE ?_
      refine aF ?_
      refine aN 4 _ (by decide +kernel) rfl ?_
      refine bE ?_
      refine aF ?_
      refine aN 5 _ (by decide +kernel) rfl ?_
      refine bE ?_
      refine aF ?_
      refine aN 6 _ (by decide +kernel) rfl ?_
      refine bE ?_
      refine aF ?_
      refine cK (by decide +kernel) ?_
      refine cY ?_
      exact dM [] rfl rfl rfl (aD.csize _) (aJ _) cX (.pure (aD.pure _)) rfl rfl (aD.csize _) (aJ _) cX (.pure (aD.pure _)) rfl (.pure rfl)
     ·refine bE ?_
      refine aF ?_
      refine dO 3 5 _ _ (by decide +kernel) rfl rfl ?_ ?_
      ·refine bE ?_
       refine aF ?_
       refine aN 5 _ (by decide +kernel) rfl ?_
       refine bE ?_
       refine aF ?_
       refine aN 6 _ (by decide +kernel) rfl ?_
       refine bE ?_
       refine aF ?_
       refine cK (by decide +kernel) ?_
       refine cY ?_
       exact dM [] rfl rfl rfl (aD.csize _) (aJ _) cX (.pure (aD.pure _)) rfl rfl (aD.csize _) (aJ _) cX (.pure (aD.pure _)) rfl (.pure rfl)
      ·refine bE ?_
       refine aF ?_
       refine aN 3 _ (by decide +kernel) rfl ?_
       refine bE ?_
       refine aF ?_
       refine aN 6 _ (by decide +kernel) rfl ?_
       refine bE ?_
       refine aF ?_
       refine cK (by decide +kernel) ?_
       refine cY ?_
       exact dM [] rfl rfl rfl (aD.csize _) (aJ _) cX (.pure (aD.pure _)) rfl rfl (aD.csize _) (aJ _) cX (.pure (aD.pure _)) rfl (.pure rfl)
    ·refine bE ?_
     refine aF ?_
     refine dO 2 5 _ _ (by decide +kernel) rfl rfl ?_ ?_
     ·refine bE ?_
      refine aF ?_
      refine dO 3 5 _ _ (by decide +kernel) rfl rfl ?_ ?_
      ·refine bE ?_
       refine aF ?_
       refine aN 5 _ (by decide +kernel) rfl ?_
       refine bE ?_
       refine aF ?_
       refine aN 6 _ (by decide +kernel) rfl ?_
       refine bE ?_
       refine aF ?_
       refine cK (by decide +kernel) ?_
       refine cY ?_
       exact dM [] rfl rfl rfl (aD.csize _) (aJ _) cX (.pure (aD.pure _)) rfl rfl (aD.csize _) (aJ _) cX (.pure (aD.pure _)) rfl (.pure rfl)
      ·refine bE ?_
       refine aF ?_
       refine aN 3 _ (by decide +kernel) rfl ?_
       refine bE ?_
       refine aF ?_
       refine aN 6 _ (by decide +kernel) rfl ?_
       refine bE ?_
       refine aF ?_
       refine cK (by decide +kernel) ?_
       refine cY ?_
       exact dM [] rfl rfl rfl (aD.csize _) (aJ _) cX (.pure (aD.pure _)) rfl rfl (aD.csize _) (aJ _) cX (.pure (aD.pure _)) rfl (.pure rfl)
     ·refine bE ?_
      refine aF ?_
      refine aN 2 _ (by decide +kernel) rfl ?_
      refine bE ?_
      refine aF ?_
      refine aN 3 _ (by decide +kernel) rfl ?_
      refine bE ?_
      refine aF ?_
      refine aN 6 _ (by decide +kernel) rfl ?_
      refine bE ?_
      refine aF ?_
      refine cK (by decide +kernel) ?_
      refine cY ?_
      exact dM [] rfl rfl rfl (aD.csize _) (aJ _) cX (.pure (aD.pure _)) rfl rfl (aD.csize _) (aJ _) cX (.pure (aD.pure _)) rfl (.pure rfl)
   ·refine bE ?_
    refine aF ?_
    refine w9 1 3 4 _ _ _ (by decide +kernel) rfl rfl rfl ?_ ?_ ?_
    ·refine bE ?_
     refine aF ?_
     refine dO 3 4 _ _ (by decide +kernel) rfl rfl ?_ ?_
     ·refine bE ?_
      refine aF ?_
      refine aN 4 _ (by decide +kernel) rfl ?_
      refine bE ?_
      refine aF ?_
      refine aN 5 _ (by decide +kernel) rfl ?_
      refine bE ?_
      refine aF ?_
      refine aN 6 _ (by decide +kernel) rfl ?_
      refine bE ?_
      refine aF ?_
      refine cK (by decide +kernel) ?_
      refine cY ?_
      exact dM [] rfl rfl rfl (aD.csize _) (aJ _) cX (.pure (aD.pure _)) rfl rfl (aD.csize _) (aJ _) cX (.pure (aD.pure _)) rfl (.pure rfl)
     ·refine bE ?_
      refine aF ?_
      refine dO 3 5 _ _ (by decide +kernel) rfl rfl ?_ ?_
      ·refine bE ?_
       refine aF ?_
       refine aN 5 _ (by decide +kernel) rfl ?_
       refine bE ?_
       refine aF ?_
       refine aN 6 _ (by decide +kernel) rfl ?_
       refine bE ?_
       refine aF ?_
       refine cK (by decide +kernel) ?_
       refine cY ?_
       exact dM [] rfl rfl rfl (aD.csize _) (aJ _) cX (.pure (aD.pure _)) rfl rfl (aD.csize _) (aJ _) cX (.pure (aD.pure _)) rfl (.pure rfl)
      ·refine bE ?_
       refine aF ?_
       refine aN 3 _ (by decide +kernel) rfl ?_
       refine bE ?_
       refine aF ?_
       refine aN 6 _ (by decide +kernel) rfl ?_
       refine bE ?_
       refine aF ?_
       refine cK (by decide +kernel) ?_
       refine cY ?_
       exact dM [] rfl rfl rfl (aD.csize _) (aJ _) cX (.pure (aD.pure _)) rfl rfl (aD.csize _) (aJ _) cX (.pure (aD.pure _)) rfl (.pure rfl)
    ·refine bE ?_
     refine aF ?_
     refine dO 1 4 _ _ (by decide +kernel) rfl rfl ?_ ?_
     ·refine bE ?_
      refine aF ?_
      refine aN 4 _ (by decide +kernel) rfl ?_
      refine bE ?_
      refine aF ?_
      refine aN 5 _ (by decide +kernel) rfl ?_
      refine bE ?_
      refine aF ?_
      refine aN 6 _ (by decide +kernel) rfl ?_
      refine bE ?_
      refine aF ?_
      refine cK (by decide +kernel) ?_
      refine cY ?_
      exact dM [] rfl rfl rfl (aD.csize _) (aJ _) cX (.pure (aD.pure _)) rfl rfl (aD.csize _) (aJ _) cX (.pure (aD.pure _)) rfl (.pure rfl)
     ·refine bE ?_
      refine aF ?_
      refine aN 1 _ (by decide +kernel) rfl ?_
      refine bE ?_
      refine aF ?_
      refine aN 5 _ (by decide +kernel) rfl ?_
      refine bE ?_
      refine aF ?_
      refine aN 6 _ (by decide +kernel) rfl ?_
      refine bE ?_
      refine aF ?_
      refine cK (by decide +kernel) ?_
      refine cY ?_
      exact dM [] rfl rfl rfl (aD.csize _) (aJ _) cX (.pure (aD.pure _)) rfl rfl (aD.csize _) (aJ _) cX (.pure (aD.pure _)) rfl (.pure rfl)
    ·refine bE ?_
     refine aF ?_
     refine dO 1 3 _ _ (by decide +kernel) rfl rfl ?_ ?_
     ·refine bE ?_
      refine aF ?_
      refine dO 3 5 _ _ (by decide +kernel) rfl rfl ?_ ?_
      ·refine bE ?_
       refine aF ?_
       refine aN 5 _ (by decide +kernel) rfl ?_
       refine bE ?_
       refine aF ?_
       refine aN 6 _ (by decide +kernel) rfl ?_
       refine bE ?_
       refine aF ?_
       refine cK (by decide +kernel) ?_
       refine cY ?_
       exact dM [] rfl rfl rfl (aD.csize _) (aJ _) cX (.pure (aD.pure _)) rfl rfl (aD.csize _) (aJ _) cX (.pure (aD.pure _)) rfl (.pure rfl)
      ·refine bE ?_
       refine aF ?_
       refine aN 3 _ (by decide +kernel) rfl ?_
       refine bE ?_
       refine aF ?_
       refine aN 6 _ (by decide +kernel) rfl ?_
       refine bE ?_
       refine aF ?_
       refine cK (by decide +kernel) ?_
       refine cY ?_
       exact dM [] rfl rfl rfl (aD.csize _) (aJ _) cX (.pure (aD.pure _)) rfl rfl (aD.csize _) (aJ _) cX (.pure (aD.pure _)) rfl (.pure rfl)
     ·refine bE ?_
      refine aF ?_
      refine aN 1 _ (by decide +kernel) rfl ?_
      refine bE ?_
      refine aF ?_
      refine aN 5 _ (by decide +kernel) rfl ?_
      refine bE ?_
      refine aF ?_
      refine aN 6 _ (by decide +kernel) rfl ?_
      refine bE ?_
      refine aF ?_
      refine cK (by decide +kernel) ?_
      refine cY ?_
      exact dM [] rfl rfl rfl (aD.csize _) (aJ _) cX (.pure (aD.pure _)) rfl rfl (aD.csize _) (aJ _) cX (.pure (aD.pure _)) rfl (.pure rfl)
   ·refine bE ?_
    refine aF ?_
    refine dO 1 2 _ _ (by decide +kernel) rfl rfl ?_ ?_
    ·refine bE ?_
     refine aF ?_
     refine dO 2 5 _ _ (by decide +kernel) rfl rfl ?_ ?_
     ·refine bE ?_
      refine aF ?_
      refine dO 3 5 _ _ (by decide +kernel) rfl rfl ?_ ?_
      ·refine bE ?_
       refine aF ?_
       refine aN 5 _ (by decide +kernel) rfl ?_
       refine bE ?_
       refine aF ?_
       refine aN 6 _ (by decide +kernel) rfl ?_
       refine bE ?_
       refine aF ?_
       refine cK (by decide +kernel) ?_
       refine cY ?_
       exact dM [] rfl rfl rfl (aD.csize _) (aJ _) cX (.pure (aD.pure _)) rfl rfl (aD.csize _) (aJ _) cX (.pure (aD.pure _)) rfl (.pure rfl)
      ·refine bE ?_
       refine aF ?_
       refine aN 3 _ (by decide +kernel) rfl ?_
       refine bE ?_
       refine aF ?_
       refine aN 6 _ (by decide +kernel) rfl ?_
       refine bE ?_
       refine aF ?_
       refine cK (by decide +kernel) ?_
       refine cY ?_
       exact dM [] rfl rfl rfl (aD.csize _) (aJ _) cX (.pure (aD.pure _)) rfl rfl (aD.csize _) (aJ _) cX (.pure (aD.pure _)) rfl (.pure rfl)
     ·refine bE ?_
      refine aF ?_
      refine aN 2 _ (by decide +kernel) rfl ?_
      refine bE ?_
      refine aF ?_
      refine aN 3 _ (by decide +kernel) rfl ?_
      refine bE ?_
      refine aF ?_
      refine aN 6 _ (by decide +kernel) rfl ?_
      refine bE ?_
      refine aF ?_
      refine cK (by decide +kernel) ?_
      refine cY ?_
      exact dM [] rfl rfl rfl (aD.csize _) (aJ _) cX (.pure (aD.pure _)) rfl rfl (aD.csize _) (aJ _) cX (.pure (aD.pure _)) rfl (.pure rfl)
    ·refine bE ?_
     refine aF ?_
     refine dO 1 3 _ _ (by decide +kernel) rfl rfl ?_ ?_
     ·refine bE ?_
      refine aF ?_
      refine dO 3 5 _ _ (by decide +kernel) rfl rfl ?_ ?_
      ·refine bE ?_
       refine aF ?_
       refine aN 5 _ (by decide +kernel) rfl ?_
       refine bE ?_
       refine aF ?_
       refine aN 6 _ (by decide +kernel) rfl ?_
       refine bE ?_
       refine aF ?_
       refine cK (by decide +kernel) ?_
       refine cY ?_
       exact dM [] rfl rfl rfl (aD.csize _) (aJ _) cX (.pure (aD.pure _)) rfl rfl (aD.csize _) (aJ _) cX (.pure (aD.pure _)) rfl (.pure rfl)
      ·refine bE ?_
       refine aF ?_
       refine aN 3 _ (by decide +kernel) rfl ?_
       refine bE ?_
       refine aF ?_
       refine aN 6 _ (by decide +kernel) rfl ?_
       refine bE ?_
       refine aF ?_
       refine cK (by decide +kernel) ?_
       refine cY ?_
       exact dM [] rfl rfl rfl (aD.csize _) (aJ _) cX (.pure (aD.pure _)) rfl rfl (aD.csize _) (aJ _) cX (.pure (aD.pure _)) rfl (.pure rfl)
     ·refine bE ?_
      refine aF ?_
      refine aN 1 _ (by decide +kernel) rfl ?_
      refine bE ?_
      refine aF ?_
      refine aN 5 _ (by decide +kernel) rfl ?_
      refine bE ?_
      refine aF ?_
      refine aN 6 _ (by decide +kernel) rfl ?_
      refine bE ?_
      refine aF ?_
      refine cK (by decide +kernel) ?_
      refine cY ?_
      exact dM [] rfl rfl rfl (aD.csize _) (aJ _) cX (.pure (aD.pure _)) rfl rfl (aD.csize _) (aJ _) cX (.pure (aD.pure _)) rfl (.pure rfl)
  ·refine bE ?_
   refine aF ?_
   refine dO 0 2 _ _ (by decide +kernel) rfl rfl ?_ ?_
   ·refine bE ?_
    refine aF ?_
    refine dO 2 4 _ _ (by decide +kernel) rfl rfl ?_ ?_
    ·refine bE ?_
     refine aF ?_
     refine dO 3 4 _ _ (by decide +kernel) rfl rfl ?_ ?_
     ·refine bE ?_
      refine aF ?_
      refine aN 4 _ (by decide +kernel) rfl ?_
      refine bE ?_
      refine aF ?_
      refine aN 5 _ (by decide +kernel) rfl ?_
      refine bE ?_
      refine aF ?_
      refine aN 6 _ (by decide +kernel) rfl ?_
      refine bE ?_
      refine aF ?_
      refine cK (by decide +kernel) ?_
      refine cY ?_
      exact dM [] rfl rfl rfl (aD.csize _) (aJ _) cX (.pure (aD.pure _)) rfl rfl (aD.csize _) (aJ _) cX (.pure (aD.pure _)) rfl (.pure rfl)
     ·refine bE ?_
      refine aF ?_
      refine dO 3 5 _ _ (by decide +kernel) rfl rfl ?_ ?_
      ·refine bE ?_
       refine aF ?_
       refine aN 5 _ (by decide +kernel) rfl ?_
       refine bE ?_
       refine aF ?_
       refine aN 6 _ (by decide +kernel) rfl ?_
       refine bE ?_
       refine aF ?_
       refine cK (by decide +kernel) ?_
       refine cY ?_
       exact dM [] rfl rfl rfl (aD.csize _) (aJ _) cX (.pure (aD.pure _)) rfl rfl (aD.csize _) (aJ _) cX (.pure (aD.pure _)) rfl (.pure rfl)
      ·refine bE ?_
       refine aF ?_
       refine aN 3 _ (by decide +kernel) rfl ?_
       refine bE ?_
       refine aF ?_
       refine aN 6 _ (by decide +kernel) rfl ?_
       refine bE ?_
       refine aF ?_
       refine cK (by decide +kernel) ?_
       refine cY ?_
       exact dM [] rfl rfl rfl (aD.csize _) (aJ _) cX (.pure (aD.pure _)) rfl rfl (aD.csize _) (aJ _) cX (.pure (aD.pure _)) rfl (.pure rfl)
    ·refine bE ?_
     refine aF ?_
     refine dO 2 5 _ _ (by decide +kernel) rfl rfl ?_ ?_
     ·refine bE ?_
      refine aF ?_
      refine dO 3 5 _ _ (by decide +kernel) rfl rfl ?_ ?_
      ·refine bE ?_
       refine aF ?_
       refine aN 5 _ (by decide +kernel) rfl ?_
       refine bE ?_
       refine aF ?_
       refine aN 6 _ (by decide +kernel) rfl ?_
       refine bE ?_
       refine aF ?_
       refine cK (by decide +kernel) ?_
       refine cY ?_
       exact dM [] rfl rfl rfl (aD.csize _) (aJ _) cX (.pure (aD.pure _)) rfl rfl (aD.csize _) (aJ _) cX (.pure (aD.pure _)) rfl (.pure rfl)
      ·refine bE ?_
       refine aF ?_
       refine aN 3 _ (by decide +kernel) rfl ?_
       refine bE ?_
       refine aF ?_
       refine aN 6 _ (by decide +kernel) rfl ?_
       refine bE ?_
       refine aF ?_
       refine cK (by decide +kernel) ?_
       refine cY ?_
       exact dM [] rfl rfl rfl (aD.csize _) (aJ _) cX (.pure (aD.pure _)) rfl rfl (aD.csize _) (aJ _) cX (.pure (aD.pure _)) rfl (.pure rfl)
     ·refine bE ?_
      refine aF ?_
      refine aN 2 _ (by decide +kernel) rfl ?_
      refine bE ?_
      refine aF ?_
      refine aN 3 _ (by decide +kernel) rfl ?_
      refine bE ?_
      refine aF ?_
      refine aN 6 _ (by decide +kernel) rfl ?_
      refine bE ?_
      refine aF ?_
      refine cK (by decide +kernel) ?_
      refine cY ?_
      exact dM [] rfl rfl rfl (aD.csize _) (aJ _) cX (.pure (aD.pure _)) rfl rfl (aD.csize _) (aJ _) cX (.pure (aD.pure _)) rfl (.pure rfl)
   ·refine bE ?_
    refine aF ?_
    refine dO 0 3 _ _ (by decide +kernel) rfl rfl ?_ ?_
    ·refine bE ?_
     refine aF ?_
     refine dO 3 4 _ _ (by decide +kernel) rfl rfl ?_ ?_
     ·refine bE ?_
      refine aF ?_
      refine aN 4 _ (by decide +kernel) rfl ?_
      refine bE ?_
      refine aF ?_
      refine aN 5 _ (by decide +kernel) rfl ?_
      refine bE ?_
      refine aF ?_
      refine aN 6 _ (by decide +kernel) rfl ?_
      refine bE ?_
      refine aF ?_
      refine cK (by decide +kernel) ?_
      refine cY ?_
      exact dM [] rfl rfl rfl (aD.csize _) (aJ _) cX (.pure (aD.pure _)) rfl rfl (aD.csize _) (aJ _) cX (.pure (aD.pure _)) rfl (.pure rfl)
     ·refine bE ?_
      refine aF ?_
      refine dO 3 5 _ _ (by decide +kernel) rfl rfl ?_ ?_
      ·refine bE ?_
       refine aF ?_
       refine aN 5 _ (by decide +kernel) rfl ?_
       refine bE ?_
       refine aF ?_
       refine aN 6 _ (by decide +kernel) rfl ?_
       refine bE ?_
       refine aF ?_
       refine cK (by decide +kernel) ?_
       refine cY ?_
       exact dM [] rfl rfl rfl (aD.csize _) (aJ _) cX (.pure (aD.pure _)) rfl rfl (aD.csize _) (aJ _) cX (.pure (aD.pure _)) rfl (.pure rfl)
      ·refine bE ?_
       refine aF ?_
       refine aN 3 _ (by decide +kernel) rfl ?_
       refine bE ?_
       refine aF ?_
       refine aN 6 _ (by decide +kernel) rfl ?_
       refine bE ?_
       refine aF ?_
       refine cK (by decide +kernel) ?_
       refine cY ?_
       exact dM [] rfl rfl rfl (aD.csize _) (aJ _) cX (.pure (aD.pure _)) rfl rfl (aD.csize _) (aJ _) cX (.pure (aD.pure _)) rfl (.pure rfl)
    ·refine bE ?_
     refine aF ?_
     refine aN 0 _ (by decide +kernel) rfl ?_
     refine bE ?_
     refine aF ?_
     refine aN 4 _ (by decide +kernel) rfl ?_
     refine bE ?_
     refine aF ?_
     refine aN 5 _ (by decide +kernel) rfl ?_
     refine bE ?_
     refine aF ?_
     refine aN 6 _ (by decide +kernel) rfl ?_
     refine bE ?_
     refine aF ?_
     refine cK (by decide +kernel) ?_
     refine cY ?_
     exact dM [] rfl rfl rfl (aD.csize _) (aJ _) cX (.pure (aD.pure _)) rfl rfl (aD.csize _) (aJ _) cX (.pure (aD.pure _)) rfl (.pure rfl)
  ·refine bE ?_
   refine aF ?_
   refine w9 0 1 3 _ _ _ (by decide +kernel) rfl rfl rfl ?_ ?_ ?_
   ·refine bE ?_
    refine aF ?_
    refine w9 1 3 4 _ _ _ (by decide +kernel) rfl rfl rfl ?_ ?_ ?_
    ·refine bE ?_
     refine aF ?_
     refine dO 3 4 _ _ (by decide +kernel) rfl rfl ?_ ?_
     ·refine bE ?_
      refine aF ?_
      refine aN 4 _ (by decide +kernel) rfl ?_
      refine bE ?_
      refine aF ?_
      refine aN 5 _ (by decide +kernel) rfl ?_
      refine bE ?_
      refine aF ?_
      refine aN 6 _ (by decide +kernel) rfl ?_
      refine bE ?_
      refine aF ?_
      refine cK (by decide +kernel) ?_
      refine cY ?_
      exact dM [] rfl rfl rfl (aD.csize _) (aJ _) cX (.pure (aD.pure _)) rfl rfl (aD.csize _) (aJ _) cX (.pure (aD.pure _)) rfl (.pure rfl)
     ·refine bE ?_
      refine aF ?_
      refine dO 3 5 _ _ (by decide +kernel) rfl rfl ?_ ?_
      ·refine bE ?_
       refine aF ?_
       refine aN 5 _ (by decide +kernel) rfl ?_
       refine bE ?_
       refine aF ?_
       refine aN 6 _ (by decide +kernel) rfl ?_
       refine bE ?_
       refine aF ?_
       refine cK (by decide +kernel) ?_
       refine cY ?_
       exact dM [] rfl rfl rfl (aD.csize _) (aJ _) cX (.pure (aD.pure _)) rfl rfl (aD.csize _) (aJ _) cX (.pure (aD.pure _)) rfl (.pure rfl)
      ·refine bE ?_
       refine aF ?_
       refine aN 3 _ (by decide +kernel) rfl ?_
       refine bE ?_
       refine aF ?_
       refine aN 6 _ (by decide +kernel) rfl ?_
       refine bE ?_
       refine aF ?_
       refine cK (by decide +kernel) ?_
       refine cY ?_
       exact dM [] rfl rfl rfl (aD.csize _) (aJ _) cX (.pure (aD.pure _)) rfl rfl (aD.csize _) (aJ _) cX (.pure (aD.pure _)) rfl (.pure rfl)
    ·refine bE ?_
     refine aF ?_
     refine dO 1 4 _ _ (by decide +kernel) rfl rfl ?_ ?_
     ·refine bE ?_
      refine aF ?_
      refine aN 4 _ (by decide +kernel) rfl ?_
      refine bE ?_
      refine aF ?_
      refine aN 5 _ (by decide +kernel) rfl ?_
      refine bE ?_
      refine aF ?_
      refine aN 6 _ (by decide +kernel) rfl ?_
      refine bE ?_
      refine aF ?_
      refine cK (by decide +kernel) ?_
      refine cY ?_
      exact dM [] rfl rfl rfl (aD.csize _) (aJ _) cX (.pure (aD.pure _)) rfl rfl (aD.csize _) (aJ _) cX (.pure (aD.pure _)) rfl (.pure rfl)
     ·refine bE ?_
      refine aF ?_
      refine aN 1 _ (by decide +kernel) rfl ?_
      refine bE ?_
      refine aF ?_
      refine aN 5 _ (by decide +kernel) rfl ?_
      refine bE ?_
      refine aF ?_
      refine aN 6 _ (by decide +kernel) rfl ?_
      refine bE ?_
      refine aF ?_
      refine cK (by decide +kernel) ?_
      refine cY ?_
      exact dM [] rfl rfl rfl (aD.csize _) (aJ _) cX (.pure (aD.pure _)) rfl rfl (aD.csize _) (aJ _) cX (.pure (aD.pure _)) rfl (.pure rfl)
    ·refine bE ?_
     refine aF ?_
     refine dO 1 3 _ _ (by decide +kernel) rfl rfl ?_ ?_
     ·refine bE ?_
      refine aF ?_
      refine dO 3 5 _ _ (by decide +kernel) rfl rfl ?_ ?_
      ·refine bE ?_
       refine aF ?_
       refine aN 5 _ (by decide +kernel) rfl ?_
       refine bE ?_
       refine aF ?_
       refine aN 6 _ (by decide +kernel) rfl ?_
       refine bE ?_
       refine aF ?_
       refine cK (by decide +kernel) ?_
       refine cY ?_
       exact dM [] rfl rfl rfl (aD.csize _) (aJ _) cX (.pure (aD.pure _)) rfl rfl (aD.csize _) (aJ _) cX (.pure (aD.pure _)) rfl (.pure rfl)
      ·refine bE ?_
       refine aF ?_
       refine aN 3 _ (by decide +kernel) rfl ?_
       refine bE ?_
       refine aF ?_
       refine aN 6 _ (by decide +kernel) rfl ?_
       refine bE ?_
       refine aF ?_
       refine cK (by decide +kernel) ?_
       refine cY ?_
       exact dM [] rfl rfl rfl (aD.csize _) (aJ _) cX (.pure (aD.pure _)) rfl rfl (aD.csize _) (aJ _) cX (.pure (aD.pure _)) rfl (.pure rfl)
     ·refine bE ?_
      refine aF ?_
      refine aN 1 _ (by decide +kernel) rfl ?_
      refine bE ?_
      refine aF ?_
      refine aN 5 _ (by decide +kernel) rfl ?_
      refine bE ?_
      refine aF ?_
      refine aN 6 _ (by decide +kernel) rfl ?_
      refine bE ?_
      refine aF ?_
      refine cK (by decide +kernel) ?_
      refine cY ?_
      exact dM [] rfl rfl rfl (aD.csize _) (aJ _) cX (.pure (aD.pure _)) rfl rfl (aD.csize _) (aJ _) cX (.pure (aD.pure _)) rfl (.pure rfl)
   ·refine bE ?_
    refine aF ?_
    refine dO 0 3 _ _ (by decide +kernel) rfl rfl ?_ ?_
    ·refine bE ?_
     refine aF ?_
     refine dO 3 4 _ _ (by decide +kernel) rfl rfl ?_ ?_
     ·refine bE ?_
      refine aF ?_
      refine aN 4 _ (by decide +kernel) rfl ?_
      refine bE ?_
      refine aF ?_
      refine aN 5 _ (by decide +kernel) rfl ?_
      refine bE ?_
      refine aF ?_
      refine aN 6 _ (by decide +kernel) rfl ?_
      refine bE ?_
      refine aF ?_
      refine cK (by decide +kernel) ?_
      refine cY ?_
      exact dM [] rfl rfl rfl (aD.csize _) (aJ _) cX (.pure (aD.pure _)) rfl rfl (aD.csize _) (aJ _) cX (.pure (aD.pure _)) rfl (.pure rfl)
     ·refine bE ?_
      refine aF ?_
      refine dO 3 5 _ _ (by decide +kernel) rfl rfl ?_ ?_
      ·refine bE ?_
       refine aF ?_
       refine aN 5 _ (by decide +kernel) rfl ?_
       refine bE ?_
       refine aF ?_
       refine aN 6 _ (by decide +kernel) rfl ?_
       refine bE ?_
       refine aF ?_
       refine cK (by decide +kernel) ?_
       refine cY ?_
       exact dM [] rfl rfl rfl (aD.csize _) (aJ _) cX (.pure (aD.pure _)) rfl rfl (aD.csize _) (aJ _) cX (.pure (aD.pure _)) rfl (.pure rfl)
      ·refine bE ?_
       refine aF ?_
       refine aN 3 _ (by decide +kernel) rfl ?_
       refine bE ?_
       refine aF ?_
       refine aN 6 _ (by decide +kernel) rfl ?_
       refine bE ?_
       refine aF ?_
       refine cK (by decide +kernel) ?_
       refine cY ?_
       exact dM [] rfl rfl rfl (aD.csize _) (aJ _) cX (.pure (aD.pure _)) rfl rfl (aD.csize _) (aJ _) cX (.pure (aD.pure _)) rfl (.pure rfl)
    ·refine bE ?_
     refine aF ?_
     refine aN 0 _ (by decide +kernel) rfl ?_
     refine bE ?_
     refine aF ?_
     refine aN 4 _ (by decide +kernel) rfl ?_
     refine bE ?_
     refine aF ?_
     refine aN 5 _ (by decide +kernel) rfl ?_
     refine bE ?_
     refine aF ?_
     refine aN 6 _ (by decide +kernel) rfl ?_
     refine bE ?_
     refine aF ?_
     refine cK (by decide +kernel) ?_
     refine cY ?_
     exact dM [] rfl rfl rfl (aD.csize _) (aJ _) cX (.pure (aD.pure _)) rfl rfl (aD.csize _) (aJ _) cX (.pure (aD.pure _)) rfl (.pure rfl)
   ·refine bE ?_
    refine aF ?_
    refine dO 0 1 _ _ (by decide +kernel) rfl rfl ?_ ?_
    ·refine bE ?_
     refine aF ?_
     refine dO 1 4 _ _ (by decide +kernel) rfl rfl ?_ ?_
     ·refine bE ?_
      refine aF ?_
      refine aN 4 _ (by decide +kernel) rfl ?_
      refine bE ?_
      refine aF ?_
      refine aN 5 _ (by decide +kernel) rfl ?_
      refine bE ?_
      refine aF ?_
      refine aN 6 _ (by decide +kernel) rfl ?_
      refine bE ?_
      refine aF ?_
      refine cK (by decide +kernel) ?_
      refine cY ?_
      exact dM [] rfl rfl rfl (aD.csize _) (aJ _) cX (.pure (aD.pure _)) rfl rfl (aD.csize _) (aJ _) cX (.pure (aD.pure _)) rfl (.pure rfl)
     ·refine bE ?_
      refine aF ?_
      refine aN 1 _ (by decide +kernel) rfl ?_
      refine bE ?_
      refine aF ?_
      refine aN 5 _ (by decide +kernel) rfl ?_
      refine bE ?_
      refine aF ?_
      refine aN 6 _ (by decide +kernel) rfl ?_
      refine bE ?_
      refine aF ?_
      refine cK (by decide +kernel) ?_
      refine cY ?_
      exact dM [] rfl rfl rfl (aD.csize _) (aJ _) cX (.pure (aD.pure _)) rfl rfl (aD.csize _) (aJ _) cX (.pure (aD.pure _)) rfl (.pure rfl)
    ·refine bE ?_
     refine aF ?_
     refine aN 0 _ (by decide +kernel) rfl ?_
     refine bE ?_
     refine aF ?_
     refine aN 4 _ (by decide +kernel) rfl ?_
     refine bE ?_
     refine aF ?_
     refine aN 5 _ (by decide +kernel) rfl ?_
     refine bE ?_
     refine aF ?_
     refine aN 6 _ (by decide +kernel) rfl ?_
     refine bE ?_
     refine aF ?_
     refine cK (by decide +kernel) ?_
     refine cY ?_
     exact dM [] rfl rfl rfl (aD.csize _) (aJ _) cX (.pure (aD.pure _)) rfl rfl (aD.csize _) (aJ _) cX (.pure (aD.pure _)) rfl (.pure rfl)
def v3x (p q:V3):V3:=⟨p.y*q.z-p.z*q.y,p.z*q.x-p.x*q.z,p.x*q.y-p.y*q.x⟩
theorem aLW {R:Nat} {p q:V3} (hp:jF R p) (hq:jF R q):jF (4*R+5) (v3x p q):=by
 obtain⟨a1,a2,a3⟩:=hp
 obtain⟨b1,b2,b3⟩:=hq
 have g:∀ a b c d:Rat,rl a≤R→rl b≤R→rl c≤R→rl d≤R→rl (a*b-c*d)≤4*R+5:=fun a b c d h1 h2 h3 h4=>by
  have m1:=cS a b
  have m2:=cS c d
  have m3:=jX (a*b) (c*d)
  omega
 exact⟨g _ _ _ _ a2 b3 a3 b2,g _ _ _ _ a3 b1 a1 b3,g _ _ _ _ a1 b2 a2 b1⟩
namespace Zq116
theorem dG {p q:Prop} (k:q) (e:p=q:=by simp only [e1,e2,e3,e4,p1,p2,p3,q1,q2,q3,l1,t0,t1,r1,r2,r3,r4,Nat.zero_add,Nat.reduceMul,Nat.reduceAdd,b1,b2,b3,b4,b5,b6,i1,i2,i3,i4,i5,i6,Nat.reduceBEq,List.set_cons_zero,List.set_cons_succ,Nat.reduceEqDiff,reduceIte,if_true,if_false,bG,bF,aC fF,aC eI,aC aD,aS,aZ,LV.kill,bB];exact rfl):p:=e.mpr k
end Zq116
open Zq116 in
theorem wU (p q:V3) (R:Nat) (hR:R≤1000000000) (hp:jF R p) (hq:jF R q):aM Tryz.prog 63 [fA p,fA q] (fA (v3x p q)):=by
 obtain⟨a1,a2,a3⟩:=hp
 obtain⟨y1,y2,y3⟩:=hq
 have m01:=cS p.x q.y
 have m02:=cS p.x q.z
 have m10:=cS p.y q.x
 have m12:=cS p.y q.z
 have m20:=cS p.z q.x
 have m21:=cS p.z q.y
 refine dI Tryz.func63 (ht:=(fun r=>LV.ren_pure r _ (fF.pure _))) ?_
 refine mZ ?_
 refine aW ?_
 refine dB ?_
 refine bK (b:=_) rfl (by decide) ?_
 refine eA ?_
 refine aB rfl (.bin rfl rfl (show dW .add .i64 0 1=some (.int .i64 ((1:Nat):Int)) from rfl)) ?_
 refine aB rfl (.bin rfl rfl (show dW .rem .i64 1 3=some (.int .i64 ((1:Nat):Int)) from rfl)) ?_
 refine bE ?_
 refine aB rfl (.bin rfl rfl (show dW .add .i64 0 2=some (.int .i64 ((2:Nat):Int)) from rfl)) ?_
 refine aB rfl (.bin rfl rfl (show dW .rem .i64 2 3=some (.int .i64 ((2:Nat):Int)) from rfl)) ?_
 refine cO ?_
 refine aP 17 (by decide +kernel) ?_
 refine dL ?_
 refine cp b9 (fN p.y q.z (by omega)) ?_
 refine dB ?_
 refine cp b9 (fN p.z q.y (by omega)) ?_
 refine cp b9 (lK (p.y*q.z) (p.z*q.y) (by omega)) ?_
 refine cN ?_
 refine aW ?_
 refine dB ?_
 refine bK (b:=_) rfl (by decide) ?_
 refine eA ?_
 refine aB rfl (.bin rfl rfl (show dW .add .i64 1 1=some (.int .i64 ((2:Nat):Int)) from rfl)) ?_
 refine aB rfl (.bin rfl rfl (show dW .rem .i64 2 3=some (.int .i64 ((2:Nat):Int)) from rfl)) ?_
 refine bE ?_
 refine aB rfl (.bin rfl rfl (show dW .add .i64 1 2=some (.int .i64 ((3:Nat):Int)) from rfl)) ?_
 refine aB rfl (.bin rfl rfl (show dW .rem .i64 3 3=some (.int .i64 ((0:Nat):Int)) from rfl)) ?_
 refine cO ?_
 refine aP 17 (by decide +kernel) ?_
 refine dL ?_
 refine cp b9 (fN p.z q.x (by omega)) ?_
 refine dB ?_
 refine cp b9 (fN p.x q.z (by omega)) ?_
 refine cp b9 (lK (p.z*q.x) (p.x*q.z) (by omega)) ?_
 refine cN ?_
 refine aW ?_
 refine dB ?_
 refine bK (b:=_) rfl (by decide) ?_
 refine eA ?_
 refine aB rfl (.bin rfl rfl (show dW .add .i64 2 1=some (.int .i64 ((3:Nat):Int)) from rfl)) ?_
 refine aB rfl (.bin rfl rfl (show dW .rem .i64 3 3=some (.int .i64 ((0:Nat):Int)) from rfl)) ?_
 refine bE ?_
 refine aB rfl (.bin rfl rfl (show dW .add .i64 2 2=some (.int .i64 ((4:Nat):Int)) from rfl)) ?_
 refine aB rfl (.bin rfl rfl (show dW .rem .i64 4 3=some (.int .i64 ((1:Nat):Int)) from rfl)) ?_
 refine cO ?_
 refine aP 17 (by decide +kernel) ?_
 refine dL ?_
 refine cp b9 (fN p.x q.y (by omega)) ?_
 refine dB ?_
 refine cp b9 (fN p.y q.x (by omega)) ?_
 refine cp b9 (lK (p.x*q.y) (p.y*q.x) (by omega)) ?_
 refine cN ?_
 refine aW ?_
 refine dB ?_
 refine bX (b:=_) rfl (by decide) ?_
 refine cW ?_
 exact dQ [] rfl rfl rfl cs (dN cs rfl) sW (.pure pu)
namespace Zq46
theorem dG {p q:Prop} (k:q) (e:p=q:=by simp only [e1,e2,e3,e4,p1,p2,p3,q1,q2,q3,l1,t0,t1,r1,r2,r3,r4,Nat.zero_add,Nat.reduceMul,Nat.reduceAdd,b1,b2,b3,b4,b5,b6,i1,i2,i3,i4,i5,i6,Nat.reduceBEq,List.set_cons_zero,List.set_cons_succ,Nat.reduceEqDiff,reduceIte,if_true,if_false,bG,bF,aC fF,aC eI,aC aD,aS,aZ,LV.kill,bB];exact rfl):p:=e.mpr k
end Zq46
open Zq46 in
theorem yH (p q:V3) (R:Nat) (hR:R≤1000000000) (hp:jF R p) (hq:jF R q):aM Tryz.prog 104 [fA p,fA q] (fA (v3x p q)):=by
 obtain⟨a1,a2,a3⟩:=hp
 obtain⟨y1,y2,y3⟩:=hq
 have m01:=cS p.x q.y
 have m02:=cS p.x q.z
 have m10:=cS p.y q.x
 have m12:=cS p.y q.z
 have m20:=cS p.z q.x
 have m21:=cS p.z q.y
 refine dI Tryz.func104 (ht:=(fun r=>LV.ren_pure r _ (fF.pure _))) ?_
 refine mZ ?_
 refine aW ?_
 refine dL ?_
 refine bK (b:=_) rfl (by decide) ?_
 refine dL ?_
 refine aB rfl (.bin rfl rfl (show dW .add .i64 0 1=some (.int .i64 ((1:Nat):Int)) from rfl)) ?_
 refine aB rfl (.bin rfl rfl (show dW .rem .i64 1 3=some (.int .i64 ((1:Nat):Int)) from rfl)) ?_
 refine bE ?_
 refine aB rfl (.bin rfl rfl (show dW .add .i64 0 2=some (.int .i64 ((2:Nat):Int)) from rfl)) ?_
 refine aB rfl (.bin rfl rfl (show dW .rem .i64 2 3=some (.int .i64 ((2:Nat):Int)) from rfl)) ?_
 refine cO ?_
 refine aP 17 (by decide +kernel) ?_
 refine dL ?_
 refine cp b9 (f8 p.y q.z (by omega)) ?_
 refine dB ?_
 refine cp b9 (f8 p.z q.y (by omega)) ?_
 refine cp b9 (nW (p.y*q.z) (p.z*q.y) (by omega)) ?_
 refine cV ?_
 refine aW ?_
 refine dL ?_
 refine bK (b:=_) rfl (by decide) ?_
 refine dL ?_
 refine aB rfl (.bin rfl rfl (show dW .add .i64 1 1=some (.int .i64 ((2:Nat):Int)) from rfl)) ?_
 refine aB rfl (.bin rfl rfl (show dW .rem .i64 2 3=some (.int .i64 ((2:Nat):Int)) from rfl)) ?_
 refine bE ?_
 refine aB rfl (.bin rfl rfl (show dW .add .i64 1 2=some (.int .i64 ((3:Nat):Int)) from rfl)) ?_
 refine aB rfl (.bin rfl rfl (show dW .rem .i64 3 3=some (.int .i64 ((0:Nat):Int)) from rfl)) ?_
 refine cO ?_
 refine aP 17 (by decide +kernel) ?_
 refine dL ?_
 refine cp b9 (f8 p.z q.x (by omega)) ?_
 refine dB ?_
 refine cp b9 (f8 p.x q.z (by omega)) ?_
 refine cp b9 (nW (p.z*q.x) (p.x*q.z) (by omega)) ?_
 refine cV ?_
 refine aW ?_
 refine dL ?_
 refine bK (b:=_) rfl (by decide) ?_
 refine dL ?_
 refine aB rfl (.bin rfl rfl (show dW .add .i64 2 1=some (.int .i64 ((3:Nat):Int)) from rfl)) ?_
 refine aB rfl (.bin rfl rfl (show dW .rem .i64 3 3=some (.int .i64 ((0:Nat):Int)) from rfl)) ?_
 refine bE ?_
 refine aB rfl (.bin rfl rfl (show dW .add .i64 2 2=some (.int .i64 ((4:Nat):Int)) from rfl)) ?_
 refine aB rfl (.bin rfl rfl (show dW .rem .i64 4 3=some (.int .i64 ((1:Nat):Int)) from rfl)) ?_
 refine cO ?_
 refine aP 17 (by decide +kernel) ?_
 refine dL ?_
 refine cp b9 (f8 p.x q.y (by omega)) ?_
 refine dB ?_
 refine cp b9 (f8 p.y q.x (by omega)) ?_
 refine cp b9 (nW (p.x*q.y) (p.y*q.x) (by omega)) ?_
 refine cV ?_
 refine aW ?_
 refine dL ?_
 refine bX (b:=_) rfl (by decide) ?_
 refine cW ?_
 exact dQ [] rfl rfl rfl cs (dN cs rfl) sW (.pure pu)
theorem aAn {a b:Nat} (ha:a≤3) (hb:b≤3):(a+1)*(b+1)≤16:=Nat.le_trans (Nat.mul_le_mul (show a+1≤4 by omega) (show b+1≤4 by omega)) (by decide)
theorem aNq {a b c d x:Nat} (ha:a≤3) (hb:b≤3) (hc:c≤3) (hd:d≤3):(a+1)*((b+1)*((c+1)*((d+1)*x)))≤256*x:=by
 have h1:(d+1)*x≤4*x:=Nat.mul_le_mul_right _ (by omega)
 have h2:(c+1)*((d+1)*x)≤4*(4*x):=Nat.mul_le_mul (by omega) h1
 have h3:(b+1)*((c+1)*((d+1)*x))≤4*(4*(4*x)):=Nat.mul_le_mul (by omega) h2
 have h4:(a+1)*((b+1)*((c+1)*((d+1)*x)))≤4*(4*(4*(4*x))):=Nat.mul_le_mul (by omega) h3
 omega
namespace Zq136
theorem dG {p q:Prop} (k:q) (e:p=q:=by simp only [e1,e2,e3,e4,p1,p2,p3,q1,q2,q3,l1,t0,t1,r1,r2,r3,r4,Nat.zero_add,Nat.reduceMul,Nat.reduceAdd,b1,b2,b3,b4,b5,b6,i1,i2,i3,i4,i5,i6,Nat.reduceBEq,List.set_cons_zero,List.set_cons_succ,Nat.reduceEqDiff,reduceIte,if_true,if_false,bG,bF,aC fF,aC eI,aC aD,aS,aZ,LV.kill,bB];exact rfl):p:=e.mpr k
end Zq136
open Zq136 in
theorem nQ (U1 V1 U2 V2:Nat) (a b:List Rat) (ha:a.length=(U1+1)*(V1+1)) (hb:b.length=(U2+1)*(V2+1)) (hU1:U1≤3) (hV1:V1≤3) (hU2:U2≤3) (hV2:V2≤3) (S:Nat) (hS1:1≤S) (hS:S≤1000000) (haR:∀ x∈a,rl x≤S) (hbR:∀ x∈b,rl x≤S):aM Tryz.prog 142 [.agg [aE U1,aE V1,.list 3 (a.map ratL)],.agg [aE U2,aE V2,.list 3 (b.map ratL)]] (.agg [aE (U1+U2),aE (V1+V2),.list 3 ((sT U1 V1 U2 V2 a b).map ratL)]):=by
 have hal:=aAn hU1 hV1
 have hbl:=aAn hU2 hV2
 have hn1:=bH U1 V1 a
 have hn2:=bH U2 V2 b
 have hpk:=aNq (x:=2*S+14) hU1 hV1 hU2 hV2
 have hn3:=bH (U1+U2) (V1+V2) (sT U1 V1 U2 V2 a b)
 refine dI Tryz.func142 (ht:=(fun g=>LV.ren_pure g _ (bH _ _ _))) ?_
 refine cV ?_
 refine cp b9 (aIV U1 V1 U2 V2 a b ha hb (by omega) (by omega) (by omega) (by omega) S hS1 hS (by omega) haR hbR) ?_
 refine iJ ?_
 exact dQ [] rfl rfl rfl rfl rfl T64 (.pure (bH _ _ _))
theorem vQ (U V:Nat) (a b:List Rat) (hU:U≤40) (hV:V≤40) (ha:a.length=(U+1)*(V+1)) (hb:b.length=(U+1)*(V+1)) (haR:∀ x∈a,rl x≤500000000) (hbR:∀ x∈b,rl x≤500000000):aM Tryz.prog 141 [.agg [aE U,aE V,.list 3 (a.map ratL)],.agg [aE U,aE V,.list 3 (b.map ratL)]] (.agg [aE U,aE V,.list 3 ((wO (·-·) a b).map ratL)]):=by
 have:=aLA U V U V a b U V (aBm ha hU hV fun x hx=>by have:=haR x hx;omega) (aBm hb hU hV fun x hx=>by have:=hbR x hx;omega) (.inl rfl) (.inl rfl)
 rwa [aBM ha,aBM hb] at this
namespace Zq146
theorem dG {p q:Prop} (k:q) (e:p=q:=by simp only [e1,e2,e3,e4,p1,p2,p3,q1,q2,q3,l1,t0,t1,r1,r2,r3,r4,Nat.zero_add,Nat.reduceMul,Nat.reduceAdd,b1,b2,b3,b4,b5,b6,i1,i2,i3,i4,i5,i6,Nat.reduceBEq,fW,dS,aC gY,gB,gW,bJ,cI,bQ,List.length_cons,List.length_nil,List.nil_append,List.map_nil,List.take_nil,List.append_nil,List.set_cons_zero,List.set_cons_succ,Nat.reduceEqDiff,reduceIte,if_true,if_false,bG,bF,aC fF,aC eI,aC aD,aS,aZ,LV.kill,bB];exact rfl):p:=e.mpr k
end Zq146
open Zq146 in
theorem yR (R U V Ud Vd:Nat) (kU kV:List Rat) (rows:List (List PoR)) (h:pf R U V rows) (hR:R≤200000) (D:List Rat→List Rat) (hd:dfS U V Ud Vd D) (f:Nat) (hf:∀ c:List Rat,c.length=(U+1)*(V+1)→(∀ x∈c,rl x≤2*R)→aM Tryz.prog f [.agg [aE U,aE V,.list 3 (c.map ratL)]] (.agg [aE Ud,aE Vd,.list 3 ((D c).map ratL)])):aM Tryz.prog 71 [.agg [aE U,aE V,.list 3 (kU.map ratL),.list 3 (kV.map ratL),.list 1 (rows.map cM)],.clo f []] (.agg [.agg [aE (Ud+U),aE (Vd+V),.list 3 ((nU U V Ud Vd D rows.flatten 0).map ratL)],.agg [aE (Ud+U),aE (Vd+V),.list 3 ((nU U V Ud Vd D rows.flatten 1).map ratL)],.agg [aE (Ud+U),aE (Vd+V),.list 3 ((nU U V Ud Vd D rows.flatten 2).map ratL)]]):=by
 have hsp:LV.pure (.agg [aE U,aE V,.list 3 (kU.map ratL),.list 3 (kV.map ratL),.list 1 (rows.map cM)])=true:=by simp [LV.pure,aY,aH aD,aH gY]
 have hr1:=h.r1
 have hu3:=h.u3
 have hv3:=h.v3
 have hud:=hd.u
 have hvd:=hd.v
 have hwl:=h.wl
 have hdw:=hd.l _ hwl
 have hwr:=h.wr
 have hdwr:=hd.r _ _ hr1 hwl hwr
 have hpw:=bH U V (gI rows.flatten)
 have hpdw:=bH Ud Vd (D (gI rows.flatten))
 have hnl0:=h.nl 0
 have hdn0:=hd.l _ hnl0
 have hnr0:=h.nr 0
 have hdnr0:=hd.r _ _ (show 1≤2*R by omega) hnl0 hnr0
 have hpn0:=bH U V (f7 rows.flatten 0)
 have hpd0:=bH Ud Vd (D (f7 rows.flatten 0))
 have hpa0:=bH (Ud+U) (Vd+V) (sT Ud Vd U V (D (f7 rows.flatten 0)) (gI rows.flatten))
 have hpb0:=bH (Ud+U) (Vd+V) (sT U V Ud Vd (f7 rows.flatten 0) (D (gI rows.flatten)))
 have hps0:=bH (Ud+U) (Vd+V) (nU U V Ud Vd D rows.flatten 0)
 obtain⟨hal0,har0⟩:=aBa h hd 0
 obtain⟨hbl0,hbr0⟩:=aEh h hd 0
 have hA0:=nQ Ud Vd U V (D (f7 rows.flatten 0)) (gI rows.flatten) hdn0 hwl hud hvd hu3 hv3 (4*R+4) (by omega) (by omega) (fun x hx=>by have:=hdnr0 x hx;omega) (fun x hx=>by have:=hwr x hx;omega)
 have hB0:=nQ U V Ud Vd (f7 rows.flatten 0) (D (gI rows.flatten)) hnl0 hdw hu3 hv3 hud hvd (4*R+4) (by omega) (by omega) (fun x hx=>by have:=hnr0 x hx;omega) (fun x hx=>by have:=hdwr x hx;omega)
 rw [Nat.add_comm U Ud,Nat.add_comm V Vd] at hB0
 have hS0:=vQ (Ud+U) (Vd+V) (sT Ud Vd U V (D (f7 rows.flatten 0)) (gI rows.flatten)) (sT U V Ud Vd (f7 rows.flatten 0) (D (gI rows.flatten))) (by omega) (by omega) hal0 hbl0 (fun x hx=>by have:=har0 x hx;omega) (fun x hx=>by have:=hbr0 x hx;omega)
 have hnl1:=h.nl 1
 have hdn1:=hd.l _ hnl1
 have hnr1:=h.nr 1
 have hdnr1:=hd.r _ _ (show 1≤2*R by omega) hnl1 hnr1
 have hpn1:=bH U V (f7 rows.flatten 1)
 have hpd1:=bH Ud Vd (D (f7 rows.flatten 1))
 have hpa1:=bH (Ud+U) (Vd+V) (sT Ud Vd U V (D (f7 rows.flatten 1)) (gI rows.flatten))
 have hpb1:=bH (Ud+U) (Vd+V) (sT U V Ud Vd (f7 rows.flatten 1) (D (gI rows.flatten)))
 have hps1:=bH (Ud+U) (Vd+V) (nU U V Ud Vd D rows.flatten 1)
 obtain⟨hal1,har1⟩:=aBa h hd 1
 obtain⟨hbl1,hbr1⟩:=aEh h hd 1
 have hA1:=nQ Ud Vd U V (D (f7 rows.flatten 1)) (gI rows.flatten) hdn1 hwl hud hvd hu3 hv3 (4*R+4) (by omega) (by omega) (fun x hx=>by have:=hdnr1 x hx;omega) (fun x hx=>by have:=hwr x hx;omega)
 have hB1:=nQ U V Ud Vd (f7 rows.flatten 1) (D (gI rows.flatten)) hnl1 hdw hu3 hv3 hud hvd (4*R+4) (by omega) (by omega) (fun x hx=>by have:=hnr1 x hx;omega) (fun x hx=>by have:=hdwr x hx;omega)
 rw [Nat.add_comm U Ud,Nat.add_comm V Vd] at hB1
 have hS1:=vQ (Ud+U) (Vd+V) (sT Ud Vd U V (D (f7 rows.flatten 1)) (gI rows.flatten)) (sT U V Ud Vd (f7 rows.flatten 1) (D (gI rows.flatten))) (by omega) (by omega) hal1 hbl1 (fun x hx=>by have:=har1 x hx;omega) (fun x hx=>by have:=hbr1 x hx;omega)
 have hnl2:=h.nl 2
 have hdn2:=hd.l _ hnl2
 have hnr2:=h.nr 2
 have hdnr2:=hd.r _ _ (show 1≤2*R by omega) hnl2 hnr2
 have hpn2:=bH U V (f7 rows.flatten 2)
 have hpd2:=bH Ud Vd (D (f7 rows.flatten 2))
 have hpa2:=bH (Ud+U) (Vd+V) (sT Ud Vd U V (D (f7 rows.flatten 2)) (gI rows.flatten))
 have hpb2:=bH (Ud+U) (Vd+V) (sT U V Ud Vd (f7 rows.flatten 2) (D (gI rows.flatten)))
 have hps2:=bH (Ud+U) (Vd+V) (nU U V Ud Vd D rows.flatten 2)
 obtain⟨hal2,har2⟩:=aBa h hd 2
 obtain⟨hbl2,hbr2⟩:=aEh h hd 2
 have hA2:=nQ Ud Vd U V (D (f7 rows.flatten 2)) (gI rows.flatten) hdn2 hwl hud hvd hu3 hv3 (4*R+4) (by omega) (by omega) (fun x hx=>by have:=hdnr2 x hx;omega) (fun x hx=>by have:=hwr x hx;omega)
 have hB2:=nQ U V Ud Vd (f7 rows.flatten 2) (D (gI rows.flatten)) hnl2 hdw hu3 hv3 hud hvd (4*R+4) (by omega) (by omega) (fun x hx=>by have:=hnr2 x hx;omega) (fun x hx=>by have:=hdwr x hx;omega)
 rw [Nat.add_comm U Ud,Nat.add_comm V Vd] at hB2
 have hS2:=vQ (Ud+U) (Vd+V) (sT Ud Vd U V (D (f7 rows.flatten 2)) (gI rows.flatten)) (sT U V Ud Vd (f7 rows.flatten 2) (D (gI rows.flatten))) (by omega) (by omega) hal2 hbl2 (fun x hx=>by have:=har2 x hx;omega) (fun x hx=>by have:=hbr2 x hx;omega)
 have hfw:=hf (gI rows.flatten) hwl (fun x hx=>by have:=hwr x hx;omega)
 have hf0:=hf (f7 rows.flatten 0) hnl0 hnr0
 have hf1:=hf (f7 rows.flatten 1) hnl1 hnr1
 have hf2:=hf (f7 rows.flatten 2) hnl2 hnr2
 refine dI Tryz.func71 (ht:=(fun g=>LV.ren_pure g _ (by simp [LV.pure,aY,aH aD]))) ?_
 refine dU ?_
 refine cp dC (aDi U V kU kV rows (by omega) (by omega) R (by omega) h.rw) ?_
 refine dU ?_
 refine eP [] rfl rfl (.clo (f:=f) (cap:=[]) (args:=[.agg [aE U,aE V,.list 3 ((gI rows.flatten).map ratL)]]) rfl (.cons kR .nil) ⟨rfl,fun _ h=>by cases h⟩ hfw.1 (by decide) (fun _ h=>by cases h)) (hfw.2 _) ?_
 refine mY ?_
 refine aW ?_
 refine dB ?_
 refine bK (b:=_) rfl (by decide) ?_
 refine cN ?_
 refine aP 16 (by decide +kernel) ?_
 refine dR ?_
 refine eP [] rfl rfl (.clo (f:=f) (cap:=[]) (args:=[.agg [aE U,aE V,.list 3 ((f7 rows.flatten 0).map ratL)]]) rfl (.cons kR .nil) ⟨rfl,fun _ h=>by cases h⟩ hf0.1 (by decide) (fun _ h=>by cases h)) (hf0.2 _) ?_
 refine cY ?_
 refine cp b9 (hA0) ?_
 refine cO ?_
 refine cp b9 (hB0) ?_
 refine cp b9 (hS0) ?_
 refine cN ?_
 refine aW ?_
 refine dB ?_
 refine bK (b:=_) rfl (by decide) ?_
 refine cN ?_
 refine aP 16 (by decide +kernel) ?_
 refine dR ?_
 refine eP [] rfl rfl (.clo (f:=f) (cap:=[]) (args:=[.agg [aE U,aE V,.list 3 ((f7 rows.flatten 1).map ratL)]]) rfl (.cons kR .nil) ⟨rfl,fun _ h=>by cases h⟩ hf1.1 (by decide) (fun _ h=>by cases h)) (hf1.2 _) ?_
 refine cY ?_
 refine cp b9 (hA1) ?_
 refine cO ?_
 refine cp b9 (hB1) ?_
 refine cp b9 (hS1) ?_
 refine cN ?_
 refine aW ?_
 refine dB ?_
 refine bK (b:=_) rfl (by decide) ?_
 refine cN ?_
 refine aP 16 (by decide +kernel) ?_
 refine dR ?_
 refine eP [] rfl rfl (.clo (f:=f) (cap:=[]) (args:=[.agg [aE U,aE V,.list 3 ((f7 rows.flatten 2).map ratL)]]) rfl (.cons kR .nil) ⟨rfl,fun _ h=>by cases h⟩ hf2.1 (by decide) (fun _ h=>by cases h)) (hf2.2 _) ?_
 refine cY ?_
 refine cp b9 (hA2) ?_
 refine cO ?_
 refine cp b9 (hB2) ?_
 refine cp b9 (hS2) ?_
 refine cN ?_
 refine aW ?_
 refine dB ?_
 refine bX (b:=_) rfl (by decide) ?_
 refine cW ?_
 exact dQ [] rfl rfl rfl cs (dN cs rfl) aMD (.pure (by simp [LV.pure,aY,aH aD]))
section
variable {R U V:Nat} {rows:List (List PoR)} (h:pf R U V rows)
include h
theorem pf.pos:0<rows.flatten.length:=by rw [h.len];exact Nat.mul_pos (Nat.succ_pos U) (Nat.succ_pos V)
end
def pdv (U V Ud Vd:Nat) (D:List Rat→List Rat) (F:List PoR) (wd x y:Rat):V3 :=
 v3m (1/(wd*(oR U V (gI F) x y*oR U V (gI F) x y))) ⟨oR (Ud+U) (Vd+V) (nU U V Ud Vd D F 0) x y,oR (Ud+U) (Vd+V) (nU U V Ud Vd D F 1) x y,oR (Ud+U) (Vd+V) (nU U V Ud Vd D F 2) x y⟩
theorem tM {x:Rat} (h:rl x≤8):shX x:=by
 have:=jX 1 x
 have:rl 1=1:=rfl
 unfold shX
 omega
structure pdS (Du Dv:Nat) (q:List Rat) (x y:Rat):Prop where
 hl:q.length=(Du+1)*(Dv+1)
 du:Du≤6
 dv:Dv≤6
 qr:∀ t∈q,rl t≤49231
 hx:shX x
 hy:shX y
theorem pdS.e {Du Dv:Nat} {q:List Rat} {x y:Rat} (h:pdS Du Dv q x y):rl (oR Du Dv q x y)≤201970100 :=
 Nat.le_trans (z8 h.hl h.du h.dv (by omega:1≤49231) (by omega) h.qr h.hx h.hy).2.2.2.2 (by decide)
theorem zI {R U V Ud Vd:Nat} {rows:List (List PoR)} {D:List Rat→List Rat} (h:pf R U V rows) (hd:dfS U V Ud Vd D) (hR:R≤25) {wd x y:Rat} (hw:rl wd≤1000) (hx:shX x) (hy:shX y) :
  rl (oR U V (gI rows.flatten) x y)≤225500∧(∀ k,rl (oR (Ud+U) (Vd+V) (nU U V Ud Vd D rows.flatten k) x y)≤201970100)∧jF 210000000 (pdv U V Ud Vd D rows.flatten wd x y):=by
 have h1:rl (oR U V (gI rows.flatten) x y)≤225500:=by
  have:=(z8 h.wl (by have:=h.u3;omega) (by have:=h.v3;omega) h.r1 (by omega) h.wr hx hy).2.2.2.2
  have:4100*(R+30)≤4100*55:=Nat.mul_le_mul_left _ (by omega)
  omega
 have hu:=hd.u
 have hv:=hd.v
 have hu3:=h.u3
 have hv3:=h.v3
 have h2:∀ k,rl (oR (Ud+U) (Vd+V) (nU U V Ud Vd D rows.flatten k) x y)≤201970100:=fun k =>
  Nat.le_trans (z8 (R:=49231) (qZ h hd k) (by omega) (by omega) (by omega) (by omega) (fun t ht=>by have:=vS h hd k t ht;omega) hx hy).2.2.2.2 (by decide)
 refine⟨h1,h2,?_⟩
 have h3:=cS (oR U V (gI rows.flatten) x y) (oR U V (gI rows.flatten) x y)
 have h4:=cS wd (oR U V (gI rows.flatten) x y*oR U V (gI rows.flatten) x y)
 have h5:=pQ 1 (wd*(oR U V (gI rows.flatten) x y*oR U V (gI rows.flatten) x y))
 have h6:rl 1=1:=rfl
 have g:∀ k,rl (1/(wd*(oR U V (gI rows.flatten) x y*oR U V (gI rows.flatten) x y))*oR (Ud+U) (Vd+V) (nU U V Ud Vd D rows.flatten k) x y)≤210000000:=fun k=>by
  have:=cS (1/(wd*(oR U V (gI rows.flatten) x y*oR U V (gI rows.flatten) x y))) (oR (Ud+U) (Vd+V) (nU U V Ud Vd D rows.flatten k) x y)
  have:=h2 k
  omega
 exact⟨g 0,g 1,g 2⟩
theorem aAp (Du Dv:Nat) (q:List Rat) (x y:Rat) (h:pdS Du Dv q x y):aM Tryz.prog 66 [.agg [aE Du,aE Dv,.list 3 (q.map ratL)],ratL x,ratL y] (ratL (oR Du Dv q x y)):=by
 obtain⟨s1,s2,_⟩:=z8 h.hl h.du h.dv (by omega:1≤49231) (by omega) h.qr h.hx h.hy
 have h49:(Du+1)*(Dv+1)≤49:=aMu h.du h.dv
 exact aJc Du Dv q h.hl (by rw [h.hl];omega) (fun t ht=>by have:=h.qr t ht;omega) x y s1 s2
namespace Zq121
theorem dG {p q:Prop} (k:q) (e:p=q:=by simp only [e1,e2,e3,e4,p1,p2,p3,q1,q2,q3,l1,t0,t1,r1,r2,r3,r4,Nat.zero_add,Nat.reduceMul,Nat.reduceAdd,b1,b2,b3,b4,b5,b6,i1,i2,i3,i4,i5,i6,Nat.reduceBEq,dS,aC gY,gB,gW,bJ,cI,bQ,List.length_cons,List.length_nil,List.nil_append,List.map_nil,List.take_nil,List.append_nil,List.set_cons_zero,List.set_cons_succ,Nat.reduceEqDiff,reduceIte,if_true,if_false,bG,bF,aC fF,aC eI,aC aD,aS,aZ,LV.kill,bB];exact rfl):p:=e.mpr k
end Zq121
open Zq121 in
theorem aGg (Du Dv:Nat) (ql0 ql1 ql2:List Rat) (wd W x y:Rat) (h0:pdS Du Dv ql0 x y) (h1:pdS Du Dv ql1 x y) (h2:pdS Du Dv ql2 x y) (hw:rl wd≤1000) (hW:rl W≤250000):aM Tryz.prog 67 [.agg [.agg [aE Du,aE Dv,.list 3 (ql0.map ratL)],.agg [aE Du,aE Dv,.list 3 (ql1.map ratL)],.agg [aE Du,aE Dv,.list 3 (ql2.map ratL)]],ratL wd,.boxp (ratL W),.boxp (ratL x),.boxp (ratL y)] (fA (v3m (1/(wd*(W*W))) ⟨(oR Du Dv ql0 x y),(oR Du Dv ql1 x y),(oR Du Dv ql2 x y)⟩)):=by
 have hpu:∀ l:List Rat,aY (l.map ratL)=true:=fun l=>aH aD l
 have hpq0:=bH Du Dv ql0
 have hpq1:=bH Du Dv ql1
 have hpq2:=bH Du Dv ql2
 have he0:=h0.e
 have he1:=h1.e
 have he2:=h2.e
 have hp3:LV.pure (.agg [.agg [aE Du,aE Dv,.list 3 (ql0.map ratL)],.agg [aE Du,aE Dv,.list 3 (ql1.map ratL)],.agg [aE Du,aE Dv,.list 3 (ql2.map ratL)]])=true:=by simp [LV.pure,aY,aH aD]
 have m1:=cS W W
 have m2:=cS wd (W*W)
 have m3:=pQ 1 (wd*(W*W))
 have hr1:rl 1=1:=rfl
 refine dI Tryz.func67 (ht:=(fun r=>LV.ren_pure r _ (fF.pure _))) ?_
 refine eC ?_
 refine g8 11 [9] (by decide +kernel) ?_
 refine cp dC (rH 1 (by decide) (by decide)) ?_
 refine cP ?_
 refine cp b9 (fN W W (by omega)) ?_
 refine cp b9 (fN wd (W*W) (by omega)) ?_
 refine cp b9 (aAi 1 (wd*(W*W)) (by omega)) ?_
 refine aC8 ?_
 refine aW ?_
 refine dB ?_
 refine bK (b:=_) rfl (by decide) ?_
 refine eA ?_
 refine aP 8 (by decide +kernel) ?_
 refine dR ?_
 refine cp pS (aAp Du Dv ql0 x y h0) ?_
 refine cp b9 (fN (1/(wd*(W*W))) (oR Du Dv ql0 x y) (by omega)) ?_
 refine dR ?_
 refine bR (bI.kill _ 12) ?_
 refine cO ?_
 refine aW ?_
 refine dB ?_
 refine bK (b:=_) rfl (by decide) ?_
 refine eA ?_
 refine aP 8 (by decide +kernel) ?_
 refine dR ?_
 refine cp pS (aAp Du Dv ql1 x y h1) ?_
 refine cp b9 (fN (1/(wd*(W*W))) (oR Du Dv ql1 x y) (by omega)) ?_
 refine dR ?_
 refine bR (bI.kill _ 12) ?_
 refine cO ?_
 refine aW ?_
 refine dB ?_
 refine bK (b:=_) rfl (by decide) ?_
 refine eA ?_
 refine aP 8 (by decide +kernel) ?_
 refine dR ?_
 refine cp pS (aAp Du Dv ql2 x y h2) ?_
 refine cp b9 (fN (1/(wd*(W*W))) (oR Du Dv ql2 x y) (by omega)) ?_
 refine dR ?_
 refine bR (bI.kill _ 12) ?_
 refine cO ?_
 refine aW ?_
 refine dB ?_
 refine bX (b:=_) rfl (by decide) ?_
 refine cW ?_
 exact dQ [] rfl rfl rfl cs (dN cs rfl) sW (.pure pu)
namespace Zq86
theorem dG {p q:Prop} (k:q) (e:p=q:=by simp only [e1,e2,e3,e4,p1,p2,p3,q1,q2,q3,l1,t0,t1,r1,r2,r3,r4,Nat.zero_add,Nat.reduceMul,Nat.reduceAdd,b1,b2,b3,b4,b5,b6,i1,i2,i3,i4,i5,i6,Nat.reduceBEq,fW,dS,aC gY,gB,gW,bJ,cI,bQ,List.length_cons,List.length_nil,List.nil_append,List.map_nil,List.take_nil,List.append_nil,List.set_cons_zero,List.set_cons_succ,Nat.reduceEqDiff,reduceIte,if_true,if_false,bG,bF,aC fF,aC eI,aC aD,aS,aZ,LV.kill,bB];exact rfl):p:=e.mpr k
end Zq86
open Zq86 in
theorem aLM (R U V:Nat) (ua ub va vb:Rat) (rows:List (List PoR)) (h:pf R U V rows) (hua:rl ua≤100) (hub:rl ub≤100) (hva:rl va≤100) (hvb:rl vb≤100) (hu:ua<ub) (hv:va<vb) (u v x y:Rat) (hu1:rl u≤100) (hv1:rl v≤100) (hx:shX x) (hy:shX y) (ex:(u-ua)/(ub-ua)=x) (ey:(v-va)/(vb-va)=y) (hR:R≤25) (hUi:t7 (ua,ub) u=true) (hVi:t7 (va,vb) v=true):aM Tryz.prog 16 [.agg [aE U,aE V,.list 3 ((nS U ua ub).map ratL),.list 3 ((nS V va vb).map ratL),.list 1 (rows.map cM)],ratL u,ratL v] (.tup [fA (pdv U V (U-1) V (xR U V) rows.flatten (ub-ua) x y),fA (pdv U V U (V-1) (xQ U V) rows.flatten (vb-va) x y),iL 0]):=by
 have hpu:∀ l:List Rat,aY (l.map ratL)=true:=fun l=>aH aD l
 have hsp:LV.pure (.agg [aE U,aE V,.list 3 ((nS U ua ub).map ratL),.list 3 ((nS V va vb).map ratL),.list 1 (rows.map cM)])=true:=by simp [LV.pure,aY,aH aD,aH gY]
 have hku:=aG aD 3 (nS U ua ub)
 have hkv:=aG aD 3 (nS V va vb)
 have hu3:=h.u3
 have hv3:=h.v3
 have hr1:=h.r1
 have hwd1:=jX ub ua
 have hwd2:=jX vb va
 have hdu:dfS U V (U-1) V (xR U V):=aKv h.u3 h.v3
 have hdv:dfS U V U (V-1) (xQ U V):=aJW h.u3 h.v3
 have hqU0:pdS ((U-1)+U) (V+V) (nU U V (U-1) V (xR U V) rows.flatten 0) x y:=⟨qZ h hdu 0,by omega,by omega,fun t ht=>by have:=vS h hdu 0 t ht;omega,hx,hy⟩
 have hqU1:pdS ((U-1)+U) (V+V) (nU U V (U-1) V (xR U V) rows.flatten 1) x y:=⟨qZ h hdu 1,by omega,by omega,fun t ht=>by have:=vS h hdu 1 t ht;omega,hx,hy⟩
 have hqU2:pdS ((U-1)+U) (V+V) (nU U V (U-1) V (xR U V) rows.flatten 2) x y:=⟨qZ h hdu 2,by omega,by omega,fun t ht=>by have:=vS h hdu 2 t ht;omega,hx,hy⟩
 have hqV0:pdS (U+U) ((V-1)+V) (nU U V U (V-1) (xQ U V) rows.flatten 0) x y:=⟨qZ h hdv 0,by omega,by omega,fun t ht=>by have:=vS h hdv 0 t ht;omega,hx,hy⟩
 have hqV1:pdS (U+U) ((V-1)+V) (nU U V U (V-1) (xQ U V) rows.flatten 1) x y:=⟨qZ h hdv 1,by omega,by omega,fun t ht=>by have:=vS h hdv 1 t ht;omega,hx,hy⟩
 have hqV2:pdS (U+U) ((V-1)+V) (nU U V U (V-1) (xQ U V) rows.flatten 2) x y:=⟨qZ h hdv 2,by omega,by omega,fun t ht=>by have:=vS h hdv 2 t ht;omega,hx,hy⟩
 have hpU:LV.pure (.agg [.agg [aE ((U-1)+U),aE (V+V),.list 3 ((nU U V (U-1) V (xR U V) rows.flatten 0).map ratL)],.agg [aE ((U-1)+U),aE (V+V),.list 3 ((nU U V (U-1) V (xR U V) rows.flatten 1).map ratL)],.agg [aE ((U-1)+U),aE (V+V),.list 3 ((nU U V (U-1) V (xR U V) rows.flatten 2).map ratL)]])=true:=by simp [LV.pure,aY,aH aD]
 obtain⟨hWU,hEU,hBU⟩:=zI h hdu hR (wd:=(ub-ua)) (by omega) hx hy
 have hpV:LV.pure (.agg [.agg [aE (U+U),aE ((V-1)+V),.list 3 ((nU U V U (V-1) (xQ U V) rows.flatten 0).map ratL)],.agg [aE (U+U),aE ((V-1)+V),.list 3 ((nU U V U (V-1) (xQ U V) rows.flatten 1).map ratL)],.agg [aE (U+U),aE ((V-1)+V),.list 3 ((nU U V U (V-1) (xQ U V) rows.flatten 2).map ratL)]])=true:=by simp [LV.pure,aY,aH aD]
 obtain⟨hWV,hEV,hBV⟩:=zI h hdv hR (wd:=(vb-va)) (by omega) hx hy
 have hqW:pdS U V (gI rows.flatten) x y:=⟨h.wl,by omega,by omega,fun t ht=>by have:=h.wr t ht;omega,hx,hy⟩
 have hpW:=bH U V (gI rows.flatten)
 have hO1:=aFY ua ub u hua hub hu hu1 hUi
 have hO2:=aFY va vb v hva hvb hv hv1 hVi
 rw [ex] at hO1
 rw [ey] at hO2
 have hbp:aY [.boxp (ratL (oR U V (gI rows.flatten) x y)),.boxp (ratL x),.boxp (ratL y)]=true:=by simp [aY,LV.pure,aD.pure]
 have hAU:=aGg ((U-1)+U) (V+V) (nU U V (U-1) V (xR U V) rows.flatten 0) (nU U V (U-1) V (xR U V) rows.flatten 1) (nU U V (U-1) V (xR U V) rows.flatten 2) (ub-ua) (oR U V (gI rows.flatten) x y) x y hqU0 hqU1 hqU2 (by omega) (by omega)
 have hTU:=yR R U V (U-1) V (nS U ua ub) (nS V va vb) rows h (by omega) (xR U V) hdu 72 (fun c hc hr=>aJx U V c hc (by rw [hc];have:=aAn hu3 hv3;omega) (fun t ht=>by have:=hr t ht;omega) (by omega))
 have hAV:=aGg (U+U) ((V-1)+V) (nU U V U (V-1) (xQ U V) rows.flatten 0) (nU U V U (V-1) (xQ U V) rows.flatten 1) (nU U V U (V-1) (xQ U V) rows.flatten 2) (vb-va) (oR U V (gI rows.flatten) x y) x y hqV0 hqV1 hqV2 (by omega) (by omega)
 have hTV:=yR R U V U (V-1) (nS U ua ub) (nS V va vb) rows h (by omega) (xQ U V) hdv 73 (fun c hc hr=>aJD U V c hc (by rw [hc];have:=aAn hu3 hv3;omega) (fun t ht=>by have:=hr t ht;omega) (by omega))
 refine dI Tryz.func16 (ht:=(aD2 (fF.pure _) (fF.pure _) rfl)) ?_
 refine eA ?_
 refine cp dC (aLP U V ua ub va vb rows hua hub hva hvb hu hv (by omega) (by omega)) ?_
 refine eA ?_
 refine cp b9 (hO1) ?_
 refine iJ ?_
 refine cp b9 (hO2) ?_
 refine nY ?_
 refine aB (aL (v:=false) rfl rfl ((rfl)) rfl) (.move _) ?_
 refine aB (aL (v:=false) rfl rfl ((rfl)) rfl) (.not rfl) ?_
 refine aB rfl (.pickF rfl ((rfl))) ?_
 refine cY ?_
 refine bX (b:=_) rfl (rfl) ?_
 refine cP ?_
 refine aP 7 (by decide +kernel) ?_
 refine bE ?_
 refine cp dC (aDi U V (nS U ua ub) (nS V va vb) rows (by omega) (by omega) R (by omega) h.rw) ?_
 refine cP ?_
 refine cp pS (aAp U V (gI rows.flatten) x y hqW) ?_
 refine dB ?_
 refine eP [17,11,14] rfl rfl (.mk (caps:=[.boxp (ratL (oR U V (gI rows.flatten) x y)),.boxp (ratL x),.boxp (ratL y)]) (.cons (.eptr rfl rfl rfl (aD.csize _) (aJ _) (aD.pure _) rfl) (.cons (.eptr rfl rfl rfl (aD.csize _) (aJ _) (aD.pure _) rfl) (.cons (.eptr rfl rfl rfl (aD.csize _) (aJ _) (aD.pure _) rfl) .nil))) (fun x hx=>by simp only [List.mem_cons,List.not_mem_nil,or_false] at hx;rcases hx with rfl | rfl | rfl<;>exact⟨rfl,rfl⟩)) rfl ?_
 refine cO ?_
 refine aP 10 (by decide +kernel) ?_
 refine cY ?_
 refine cp b9 (hTU) ?_
 refine bE ?_
 refine eP [] rfl rfl (.clo (f:=67) (cap:=[.boxp (ratL (oR U V (gI rows.flatten) x y)),.boxp (ratL x),.boxp (ratL y)]) (args:=[.agg [.agg [aE ((U-1)+U),aE (V+V),.list 3 ((nU U V (U-1) V (xR U V) rows.flatten 0).map ratL)],.agg [aE ((U-1)+U),aE (V+V),.list 3 ((nU U V (U-1) V (xR U V) rows.flatten 1).map ratL)],.agg [aE ((U-1)+U),aE (V+V),.list 3 ((nU U V (U-1) V (xR U V) rows.flatten 2).map ratL)]],ratL (ub-ua)]) rfl (.cons kR (.cons kR .nil)) ⟨hbp,(fun x hx=>by simp only [List.mem_cons,List.not_mem_nil,or_false] at hx;rcases hx with rfl | rfl | rfl<;>exact⟨rfl,rfl⟩)⟩ hAU.1 (by decide) (fun _ h=>by cases h)) (hAU.2 _) ?_
 refine cY ?_
 refine cp b9 (hTV) ?_
 refine bE ?_
 refine eP [] rfl rfl (.clo (f:=67) (cap:=[.boxp (ratL (oR U V (gI rows.flatten) x y)),.boxp (ratL x),.boxp (ratL y)]) (args:=[.agg [.agg [aE (U+U),aE ((V-1)+V),.list 3 ((nU U V U (V-1) (xQ U V) rows.flatten 0).map ratL)],.agg [aE (U+U),aE ((V-1)+V),.list 3 ((nU U V U (V-1) (xQ U V) rows.flatten 1).map ratL)],.agg [aE (U+U),aE ((V-1)+V),.list 3 ((nU U V U (V-1) (xQ U V) rows.flatten 2).map ratL)]],ratL (vb-va)]) rfl (.cons kR (.cons kR .nil)) ⟨hbp,(fun x hx=>by simp only [List.mem_cons,List.not_mem_nil,or_false] at hx;rcases hx with rfl | rfl | rfl<;>exact⟨rfl,rfl⟩)⟩ hAV.1 (by decide) (fun _ h=>by cases h)) (hAV.2 _) ?_
 refine dB ?_
 exact dM [] rfl rfl rfl cs (dN cs rfl) sW (.pure pu) rfl rfl cs (dN cs rfl) sW (.pure pu) rfl (.pure rfl)
namespace Zq90
theorem dG {p q:Prop} (k:q) (e:p=q:=by simp only [e1,e2,e3,e4,p1,p2,p3,q1,q2,q3,l1,t0,t1,r1,r2,r3,r4,Nat.zero_add,Nat.reduceMul,Nat.reduceAdd,b1,b2,b3,b4,b5,b6,i1,i2,i3,i4,i5,i6,Nat.reduceBEq,dS,aC gY,gB,gW,bJ,cI,bQ,List.length_cons,List.length_nil,List.nil_append,List.map_nil,List.take_nil,List.append_nil,List.set_cons_zero,List.set_cons_succ,Nat.reduceEqDiff,reduceIte,if_true,if_false,bG,bF,aC fF,aC eI,aC aD,aS,aZ,LV.kill,bB];exact rfl):p:=e.mpr k
end Zq90
open Zq90 in
theorem aLj (U V:Nat) (kU kV:List Rat) (rows:List (List PoR)) (u v:Rat) (a b:V3) (e:Int) (ha:jF 210000000 a) (hb:jF 210000000 b) (hD:aM Tryz.prog 16 [.agg [aE U,aE V,.list 3 (kU.map ratL),.list 3 (kV.map ratL),.list 1 (rows.map cM)],ratL u,ratL v] (.tup [fA a,fA b,iL e])):aM Tryz.prog 14 [.agg [aE U,aE V,.list 3 (kU.map ratL),.list 3 (kV.map ratL),.list 1 (rows.map cM)],ratL u,ratL v] (.tup [fA (v3x a b),iL e]):=by
 have hsp:LV.pure (.agg [aE U,aE V,.list 3 (kU.map ratL),.list 3 (kV.map ratL),.list 1 (rows.map cM)])=true:=by simp [LV.pure,aY,aH aD,aH gY]
 refine dI Tryz.func14 (ht:=(jZ (fF.pure _) rfl)) ?_
 refine gC ?_
 refine cp pS (hD) ?_
 refine iJ ?_
 refine cp b9 (wU a b 210000000 (by decide) ha hb) ?_
 refine dB ?_
 exact kG [] rfl rfl rfl cs (dN cs rfl) sW (.pure pu) rfl (.pure rfl)
end Go.Proofs.YtfpdccbgngdhkaaGreat
end
