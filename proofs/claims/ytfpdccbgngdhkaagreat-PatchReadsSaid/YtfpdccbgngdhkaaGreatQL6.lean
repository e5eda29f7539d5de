/- Texts K26, LgT, Y1, T1, T2, T3, T6, T7, T8, T9, T15, T16, Y2, Y3, Y0, Y4, Y5 of this proof, joined. -/
import Derived.Test.YtfpdccbgngdhkaaGreatQL5
set_option linter.unusedVariables false
set_option linter.unusedSimpArgs false
section
set_option linter.unusedVariables false
set_option linter.unusedSimpArgs false
set_option maxHeartbeats 8000000
set_option maxRecDepth 100000
attribute [local irreducible] Go.Lg.opsL Go.Lg.wpL Go.Lg.thenL Go.Lg.blockL
namespace Go.Proofs.YtfpdccbgngdhkaaGreat
open Go.Lg
def mh (l:List Int) (j:Nat):Rat:=((1+ga l j 3:Int):Rat)/((1+ga l (eu l j) 2:Int):Rat)
def fT (l:List Int) (d:Nat) (k:List Rat) (j:Nat):Nat:=if k.length=d+1 then j else eu l j
def vw (l:List Int) (d:Nat) (k:List Rat) (t:Rat) (j:Nat):Prop:=k.length=d+1∨0<ga l j 3∨t=k.getD (k.length-d) 0
instance (l:List Int) (d:Nat) (k:List Rat) (t:Rat) (j:Nat):Decidable (vw l d k t j):=by unfold vw;infer_instance
def s7 (l:List Int) (d:Nat):Nat→List Rat→Rat→Nat→List Rat × Rat × Nat
 | 0,k,t,j=>(k,t,j)
 | n+1,k,t,j=>if vw l d k t j then s7 l d n (k++[t+mh l (fT l d k j)]) (t+mh l (fT l d k j)) (eu l (eu l (fT l d k j))) else s7 l d n (k++[t]) t (fT l d k j)
theorem nS (l:List Int) (j:Nat):0<mh l j∧rl (mh l j)≤2:=by
 have h1:=ep (l:=l) (k:=j) (n:=3) (by decide)
 have h2:=ep (l:=l) (k:=eu l j) (n:=2) (by decide)
 have r1:rl ((1+ga l j 3:Int):Rat)≤1:=gl (by omega)
 have r2:rl ((1+ga l (eu l j) 2:Int):Rat)≤1:=gl (by omega)
 have r3:=ji ((1+ga l j 3:Int):Rat) ((1+ga l (eu l j) 2:Int):Rat)
 refine⟨?_,by unfold mh;omega⟩
 unfold mh
 rw [Rat.div_def]
 exact Rat.mul_pos (Rat.intCast_pos.2 (by omega)) (Rat.inv_pos.2 (Rat.intCast_pos.2 (by omega)))
theorem EA (l:List Int) {d n:Nat} {T:Rat} (hd:1≤d) (hn:n≤2) (hT:rl T≤1) (j:Nat) :
  ∃ inn t j',s7 l d n (List.replicate (d+1) T) T j=(List.replicate (d+1) T++inn,t,j')∧inn.length=n∧inOK d T inn (t+1)∧rl t≤7∧T<t+1:=by
 have hr1:rl 1=1:=rfl
 match n,hn with
 | 0,_ =>
  refine⟨[],T,j,by rw [List.append_nil];rfl,rfl,⟨fun x hx=>(by cases hx),fun i hi=>(by simp at hi),fun x hx=>(by cases hx),by decide,fun x hx=>(by cases hx)⟩,by omega,by grind⟩
 | 1,_ =>
  have hF:=nS l (fT l d (List.replicate (d+1) T) j)
  have hb:vw l d (List.replicate (d+1) T) T j:=.inl (by simp)
  refine⟨[T+mh l (fT l d (List.replicate (d+1) T) j)],T+mh l (fT l d (List.replicate (d+1) T) j),eu l (eu l (fT l d (List.replicate (d+1) T) j)),by rw [s7,if_pos hb,s7],rfl,?_,?_,?_⟩
  ·generalize mh l _=f at hF
   have:=dF T f
   refine⟨fun x hx=>?_,fun i hi=>(by simp at hi),fun x hx=>?_,by simp,fun x hx=>?_⟩
   ·rw [List.mem_singleton.1 hx];constructor<;>grind
   ·show gu _ x 1≤d
    have:=ov [T+f] x 1
    omega
   ·rw [List.mem_singleton.1 hx];omega
  ·have:=dF T (mh l (fT l d (List.replicate (d+1) T) j));omega
  ·grind
 | 2,_ =>
  have hb:vw l d (List.replicate (d+1) T) T j:=.inl (by simp)
  have hF:=nS l (fT l d (List.replicate (d+1) T) j)
  rw [s7,if_pos hb]
  generalize eu l (eu l (fT l d (List.replicate (d+1) T) j))=j1
  generalize mh l (fT l d (List.replicate (d+1) T) j)=f at *
  have a1:=dF T f
  rw [s7]
  by_cases hb2:vw l d (List.replicate (d+1) T++[T+f]) (T+f) j1
  ·rw [if_pos hb2,s7]
   have hG:=nS l (fT l d (List.replicate (d+1) T++[T+f]) j1)
   generalize eu l (eu l (fT l d (List.replicate (d+1) T++[T+f]) j1))=j2
   generalize mh l (fT l d (List.replicate (d+1) T++[T+f]) j1)=g at *
   have a2:=dF (T+f) g
   refine⟨[T+f,T+f+g],T+f+g,j2,by rw [List.append_assoc];rfl,rfl,⟨fun x hx=>?_,fun i hi=>?_,fun x hx=>?_,by simp,fun x hx=>?_⟩,by omega,by grind⟩
   ·simp only [List.mem_cons,List.not_mem_nil,or_false] at hx
    rcases hx with rfl | rfl<;>constructor<;>grind
   ·obtain rfl:i=0:=by simp at hi;omega
    show T+f≤T+f+g
    grind
   ·show gu _ x 2≤d
    have hne:T+f≠T+f+g:=by grind
    have e:gu [T+f,T+f+g] x 2=0+(if T+f=x then 1 else 0)+(if T+f+g=x then 1 else 0):=rfl
    rw [e]
    by_cases c:T+f=x
    ·rw [if_pos c,if_neg (fun e=>hne (c.trans e.symm))];omega
    ·rw [if_neg c];split<;>omega
   ·simp only [List.mem_cons,List.not_mem_nil,or_false] at hx
    rcases hx with rfl | rfl<;>omega
  ·rw [if_neg hb2,s7]
   have hd2:2≤d:=by
    rcases Nat.lt_or_ge d 2 with c | c
    ·exfalso
     obtain rfl:d=1:=by omega
     refine hb2 (.inr (.inr ?_))
     rw [show (List.replicate (1+1) T++[T+f]).length-1=2 by simp,B1 (by simp)];simp
    ·exact c
   refine⟨[T+f,T+f],T+f,fT l d (List.replicate (d+1) T++[T+f]) j1,by rw [List.append_assoc];rfl,rfl,⟨fun x hx=>?_,fun i hi=>?_,fun x hx=>?_,by simp,fun x hx=>?_⟩,by omega,by grind⟩
   ·simp only [List.mem_cons,List.not_mem_nil,or_false,or_self] at hx
    subst hx;constructor<;>grind
   ·obtain rfl:i=0:=by simp at hi;omega
    exact Rat.le_refl
   ·show gu _ x 2≤d
    have:=ov [T+f,T+f] x 2
    omega
   ·simp only [List.mem_cons,List.not_mem_nil,or_false,or_self] at hx
    subst hx;omega
def yi (l:List Int) (k n:Nat):Nat:=(ga l (eu l k) ((n+1:Nat):Int)).toNat
def Ae (l:List Int) (d k n:Nat):List Rat × Rat × Nat:=s7 l d (yi l k n) (List.replicate (d+1) (o7 l k)) (o7 l k) (eu l (eu l k))
def yT (l:List Int) (d k n:Nat):List Rat:=(Ae l d k n).1++List.replicate (d+1) ((Ae l d k n).2.1+1)
theorem lJ (l:List Int) (k n:Nat):(yi l k n:Int)=ga l (eu l k) ((n+1:Nat):Int)∧yi l k n≤n:=by
 have h:=ep (l:=l) (k:=eu l k) (n:=((n+1:Nat):Int)) (by omega)
 unfold yi
 omega
structure kiI (l:List Int) (d N c:Nat) (K:List Rat) (t:Rat) (j:Nat) (R:List Rat × Rat × Nat):Prop where
 hj:j≤500
 hl:K.length+c=d+1+N
 ht:rl t+3*c≤1+3*N
 hK:∀ x∈K,rl x≤7
 hR:s7 l d c K t j=R
theorem sY {K:List Rat} {t:Rat} {R:Nat} (h:∀ x∈K,rl x≤R) (ht:rl t≤R):∀ x∈K++[t],rl x≤R:=fun x hx=>by
 rcases List.mem_append.1 hx with h1 | h1
 ·exact h x h1
 ·rw [List.mem_singleton.1 h1];exact ht
theorem nm {l:List Int} {d j:Nat} {K:List Rat} (hl:l.length≤500) (hj:j≤500):fT l d K j≤500:=by
 unfold fT;split
 ·exact hj
 ·exact ea hl hj
theorem kiI.yes {l:List Int} {d N c:Nat} {K:List Rat} {t:Rat} {j:Nat} {R:List Rat × Rat × Nat} (hl:l.length≤500) (hN:N≤2) (h:kiI l d N (c+1) K t j R) (hb:vw l d K t j) :
  kiI l d N c (K++[t+mh l (fT l d K j)]) (t+mh l (fT l d K j)) (eu l (eu l (fT l d K j))) R:=by
 have hF:=(nS l (fT l d K j)).2
 have h1:=dF t (mh l (fT l d K j))
 have h2:=h.ht
 have h3:=h.hl
 have h4:=h.hR
 rw [s7,if_pos hb] at h4
 exact⟨ea hl (ea hl (nm hl h.hj)),by simp;omega,by omega,sY h.hK (by omega),h4⟩
theorem kiI.no {l:List Int} {d N c:Nat} {K:List Rat} {t:Rat} {j:Nat} {R:List Rat × Rat × Nat} (hl:l.length≤500) (hN:N≤2) (h:kiI l d N (c+1) K t j R) (hb:¬vw l d K t j) :
  kiI l d N c (K++[t]) t (fT l d K j) R:=by
 have h2:=h.ht
 have h3:=h.hl
 have h4:=h.hR
 rw [s7,if_neg hb] at h4
 exact⟨nm hl h.hj,by simp;omega,by omega,sY h.hK (by omega),h4⟩
namespace J5
theorem bQ {p q:Prop} (k:q) (e:p=q:=by simp only [e1,e2,e3,e4,p1,p2,p3,q1,q2,q3,l1,t0,t1,r1,r2,r3,r4,Nat.zero_add,Nat.reduceMul,Nat.reduceAdd,b1,b2,b3,b4,b5,b6,i1,i2,i3,i4,i5,i6,Nat.reduceBEq,l1,etkA,etkB,etkC,ers,ers2,ekb,ekj,eix,dU,List.length_map,List.append_nil,List.replicate_zero,Nat.add_zero,aQ,bo,aW,List.length_cons,List.length_nil,List.nil_append,List.length_append,List.length_replicate,List.set_cons_zero,List.set_cons_succ,Nat.reduceEqDiff,reduceIte,if_true,if_false,aN,aM,ae cA,ae ah,ax,aC,LV.kill,aH,fU];exact rfl):p:=e.mpr k
end J5
open J5 in
theorem dN (l:List Int) (k:Nat) (hl:l.length≤500) (d:Nat) (hd1:1≤d) (hd:d≤6) (n:Nat) (hn:n≤2) (hk:k≤500):dK Tryz.prog 57 ⟨2,[cW l k],true⟩ [.eptr 0 2 0 0,ai d,ai n] (.list 3 ((yT l d k n).map ratL)) ⟨2,[cW l (Ae l d k n).2.2],true⟩:=by
 have k1:=ea (l:=l) hl hk
 have k2:=ea (l:=l) hl k1
 have hb:=ep (l:=l) (k:=k) (n:=4) (by decide)
 obtain⟨hn1,hn2⟩:=lJ l k n
 obtain⟨ht1,ht2⟩:=BO l k
 have h1r:rl 1=1:=rfl
 refine BC Tryz.func57 ?_
 have etkA:True:=trivial
 have etkB:True:=trivial
 have etkC:True:=trivial
 have ers:True:=trivial
 have ers2:True:=trivial
 have ekb:True:=trivial
 have ekj:True:=trivial
 have eix:True:=trivial
 refine cx ?_
 refine bm 0 rfl rfl rfl (aw l _) (.cons .ptr (.cons (.imm (.pure rfl)) .nil)) .ptr (eh l k 4 (by omega) (by omega) (by omega) (by omega)) rfl (aw l _) rfl ?_
 refine ab rfl (.bin rfl rfl (eo (by omega) (by omega))) ?_
 refine cp bK (eO (ga l k 4-2) (by omega) (by omega)) ?_
 refine ie ?_
 refine cN (aP.own (t:=8) 24 3 rfl rfl) ?_
 refine gE (fun(i:Nat) L=>(((((((St.mk L.slot (hp [(0,⟨2,[cW l (eu l k)],true⟩),(7,⟨3,[ratL (o7 l k)],true⟩),(24,⟨3,(List.replicate i (o7 l k)).map ratL,true⟩)])).put (some 0) (.eptr 0 2 0 0)).put (some 1) (ai d)).put (some 7) (.eptr 7 3 0 0)).put (some 2) (ai n)).put (some 8) (.ref 24 3 0 i)).put (some 9) (ai i))) (fun i=>i≤d+1) (fun i=>d+1-i) 0 (Nat.zero_le _) ?_
 rintro i L1 hi
 refine cx ?_
 refine an rfl (fun h18r h18=>?_) (fun h18r h18=>?_)
 ·have hi2:i≤d:=by omega
  have ers:=rX i (o7 l k)
  have etkA:((List.replicate i (o7 l k)).map ratL).take i=(List.replicate i (o7 l k)).map ratL:=List.take_of_length_le (by simp)
  refine cx ?_
  refine aK rfl (.appX (d:=24) (news:=[ratL ((o7 l k))]) rfl rfl rfl rfl (by simp) (.inl rfl) (by decide) Tryz.underlying36 Tryz.underlying36 cz bF rfl f3 (.inl ⟨23,0,_,rfl,by decide,rfl,rfl,by simp,rfl,by simp [aD,ah.pure]⟩) (by simp;omega) (by simp;omega) (by decide)) ?_
  refine bw ?_
  refine aY (aP.kill _ 23) ?_
  refine aL ?_
  refine ab rfl (.bin rfl rfl (a9 (by omega))) ?_
  refine bx ?_
  exact fA (i+1) (by omega)
 ·obtain rfl:i=d+1:=by omega
  refine bv ?_
  refine ab rfl (.bin rfl rfl (a9 (by omega))) ?_
  refine bm 0 rfl rfl rfl (aw l _) (.cons .ptr (.cons (.imm (.pure rfl)) .nil)) .ptr (eh l (eu l k) ((n+1:Nat):Int) (by omega) (by omega) (by omega) (by omega)) rfl (aw l _) rfl ?_
  rw [←hn1]
  refine bw ?_
  refine EY (fun(c:Nat) (K:List Rat) (t:Rat) (j:Nat) L=>((((((St.mk L.slot (hp [(0,⟨2,[cW l j],true⟩),(7,⟨3,[ratL t],true⟩),(24,⟨3,K.map ratL,true⟩)])).put (some 0) (.eptr 0 2 0 0)).put (some 1) (ai d)).put (some 7) (.eptr 7 3 0 0)).put (some 8) (.ref 24 3 0 K.length)).put (some 10) (ai c))) (fun c K t j=>kiI l d (yi l k n) c K t j (Ae l d k n)) (fun c K t j=>c) (yi l k n) (List.replicate (d+1) (o7 l k)) (o7 l k) (eu l (eu l k)) ⟨k2,by simp,by omega,fun x hx=>by rw [(List.mem_replicate.1 hx).2];omega,rfl⟩ ?_
  rintro c K t j L2 hI
  refine bV ?_
  refine an rfl (fun h30r h30=>?_) (fun h30r h30=>?_)
  ·obtain⟨e,rfl⟩:∃ e,c=e+1:=⟨c-1,by omega⟩
   have hj5:=hI.hj
   have hjl:=ea (l:=l) hl hj5
   have hKl:=hI.hl
   have hrt:=hI.ht
   have hrK:=hI.hK _ (bi (p:=K) (i:=K.length-d) (by omega))
   have etkC:(K.map ratL).take K.length=K.map ratL:=List.take_of_length_le (by simp)
   have hb3:=ep (l:=l) (k:=j) (n:=3) (by decide)
   refine bJ ?_
   refine cr (fun L=>∃  (L1:St),(True)∧L=(((((((St.mk L1.slot (hp [(0,⟨2,[cW l (fT l d K j)],true⟩),(7,⟨3,[ratL t],true⟩),(24,⟨3,K.map ratL,true⟩)])).put (some 0) (.eptr 0 2 0 0)).put (some 1) (ai d)).put (some 7) (.eptr 7 3 0 0)).put (some 8) (.ref 24 3 0 K.length)).put (some 10) (ai (e+1))).put (some 53) (bL (decide (vw l d K t j))))) ?_ ?_
   ·refine jO ?_
    refine oA 0 6 15 rfl (by decide +kernel) (by decide +kernel) ?_
    simp only [List.drop_zero,List.drop_succ_cons,List.take_succ_cons,List.take_zero]
    refine bx ?_
    refine ab rfl (.bin rfl rfl (a9 (by omega))) ?_
    refine bG ?_
    refine aj ?_
    refine aq 6 _ (by decide +kernel) rfl ?_
    refine bT 38 rfl (fun h38r h38=>?_) (fun h38r h38=>?_)
    ·have hL:K.length=d+1:=by omega
     have ekb:decide (vw l d K t j)=true:=decide_eq_true (.inl hL)
     have ekj:(fT l d K j)=j:=if_pos hL
     refine aL ?_
     refine aj ?_
     refine aq 7 _ (by decide +kernel) rfl ?_
     refine aL ?_
     refine aj ?_
     refine aq 8 _ (by decide +kernel) rfl ?_
     refine aL ?_
     refine aj ?_
     refine aq 9 _ (by decide +kernel) rfl ?_
     refine aL ?_
     refine aj ?_
     refine aq 10 _ (by decide +kernel) rfl ?_
     refine aL ?_
     refine aj ?_
     refine oA 11 19 2 rfl (by decide +kernel) (by decide +kernel) ?_
     simp only [List.drop_zero,List.drop_succ_cons,List.take_succ_cons,List.take_zero]
     refine cx ?_
     refine aj ?_
     refine aq 19 _ (by decide +kernel) rfl ?_
     try simp only [t1,dU,Int.toNat_natCast,Nat.zero_add]
     refine aL ?_
     refine aj ?_
     refine aq 20 _ (by decide +kernel) rfl ?_
     refine aL ?_
     refine aj ?_
     refine bq (by decide +kernel) ?_
     refine aL ?_
     exact⟨_,trivial,((aa (aa (aa (aa (aa (aa (aJ cl) cl) cl) cl) cl) cl) cl)).symm⟩
    ·have hL:¬K.length=d+1:=by omega
     have ekj:(fT l d K j)=eu l j:=if_neg hL
     refine aL ?_
     refine aj ?_
     refine aq 7 _ (by decide +kernel) rfl ?_
     refine bm 0 (ao (v:=false) rfl rfl (h38r) rfl) rfl rfl (aw l _) (.cons .ptr (.cons (.imm (.pure rfl)) .nil)) .ptr (eh l j 3 (by omega) (by omega) (by omega) (by omega)) rfl (aw l _) rfl ?_
     refine aj ?_
     refine aq 8 _ (by decide +kernel) rfl ?_
     refine aL ?_
     refine aj ?_
     refine aq 9 _ (by decide +kernel) rfl ?_
     refine aL ?_
     refine aj ?_
     refine aq 10 _ (by decide +kernel) rfl ?_
     refine aL ?_
     refine aj ?_
     refine oA 11 19 2 rfl (by decide +kernel) (by decide +kernel) ?_
     simp only [List.drop_zero,List.drop_succ_cons,List.take_succ_cons,List.take_zero]
     refine bT 43 rfl (fun h43r h43=>?_) (fun h43r h43=>?_)
     ·have ekb:decide (vw l d K t j)=true:=decide_eq_true (.inr (.inl (by omega)))
      refine cx ?_
      refine aj ?_
      refine aq 19 _ (by decide +kernel) rfl ?_
      try simp only [t1,dU,Int.toNat_natCast,Nat.zero_add]
      refine aL ?_
      refine aj ?_
      refine aq 20 _ (by decide +kernel) rfl ?_
      refine aL ?_
      refine aj ?_
      refine bq (by decide +kernel) ?_
      refine aL ?_
      exact⟨_,trivial,((aa (aa (aa (aa (aa (aa (aJ cl) cl) cl) cl) cl) cl) cl)).symm⟩
     ·refine ca ?_
      refine ab (ao (v:=false) rfl rfl (h43r) rfl) (.bin rfl rfl (yY (c:=K.length-d) (by omega) (by omega))) ?_
      refine bG ?_
      refine aj ?_
      refine aq 19 _ (by decide +kernel) rfl ?_
      try simp only [t1,dU,Int.toNat_natCast,Nat.zero_add]
      refine cp bf (fc t (K.getD (K.length-d) 0) (by omega)) ?_
      refine aj ?_
      refine aq 20 _ (by decide +kernel) rfl ?_
      have ekb:decide (vw l d K t j)=decide (t=K.getD (K.length-d) 0):=decide_eq_decide.2 ⟨fun h=>by rcases h with h | h | h<;>first | exact h | (exfalso;omega),fun h=>.inr (.inr h)⟩
      refine aL ?_
      refine aj ?_
      refine bq (by decide +kernel) ?_
      refine aL ?_
      exact⟨_,trivial,((aa (aa (aa (aa (aa (aa (aJ cl) cl) cl) cl) cl) cl) cl)).symm⟩
   ·rintro _ ⟨LR10,-,rfl⟩
    refine aL ?_
    refine an rfl (fun h53r h53=>?_) (fun h53r h53=>?_)
    ·have hB:vw l d K t j:=by simpa using h53
     have hJ:=nm (l:=l) (d:=d) (j:=j) (K:=K) hl hj5
     have hJ2:=ea (l:=l) hl hJ
     have hF:=nS l (fT l d K j)
     have hbA:=ep (l:=l) (k:=(fT l d K j)) (n:=3) (by decide)
     have hbB:=ep (l:=l) (k:=eu l (fT l d K j)) (n:=2) (by decide)
     have haF:=dF t (mh l (fT l d K j))
     refine cr (fun L=>∃  (L1:St),(True)∧L=((((((St.mk L1.slot (hp [(0,⟨2,[cW l (eu l (eu l (fT l d K j)))],true⟩),(7,⟨3,[ratL (t+mh l (fT l d K j))],true⟩),(24,⟨3,K.map ratL,true⟩)])).put (some 0) (.eptr 0 2 0 0)).put (some 1) (ai d)).put (some 7) (.eptr 7 3 0 0)).put (some 8) (.ref 24 3 0 K.length)).put (some 10) (ai (e+1)))) ?_ ?_
     ·refine jO ?_
      refine cd 1 rfl rfl (by decide +kernel) (.move _) ?_
      refine cd 4 rfl rfl (by decide +kernel) (.move _) ?_
      refine bY 0 2 _ _ (by decide +kernel) rfl rfl ?_ ?_
      ·refine aL ?_
       refine aj ?_
       refine aq 2 _ (by decide +kernel) rfl ?_
       refine bm 0 rfl rfl rfl (aw l _) (.cons .ptr (.cons (.imm (.pure rfl)) .nil)) .ptr (eh l (fT l d K j) 3 (by omega) (by omega) (by omega) (by omega)) rfl (aw l _) rfl ?_
       refine aj ?_
       refine cd 3 rfl rfl (by decide +kernel) (.bin rfl rfl (ez (by omega) (by omega))) ?_
       refine aq 5 _ (by decide +kernel) rfl ?_
       refine bm 0 rfl rfl rfl (aw l _) (.cons .ptr (.cons (.imm (.pure rfl)) .nil)) .ptr (eh l (eu l (fT l d K j)) 2 (by omega) (by omega) (by omega) (by omega)) rfl (aw l _) rfl ?_
       refine aj ?_
       refine aq 6 _ (by decide +kernel) rfl ?_
       refine ab rfl (.bin rfl rfl (ez (by omega) (by omega))) ?_
       refine aj ?_
       refine aq 7 _ (by decide +kernel) rfl ?_
       refine cp bf (fJ (1+ga l (fT l d K j) 3) (1+ga l (eu l (fT l d K j)) 2) (by omega) (by omega) (by omega) (by omega) (by omega)) ?_
       refine aj ?_
       refine aq 8 _ (by decide +kernel) rfl ?_
       refine cp bf (eX t (mh l (fT l d K j)) (by omega)) ?_
       refine aj ?_
       refine aq 9 _ (by decide +kernel) rfl ?_
       refine aL ?_
       refine aj ?_
       refine bq (by decide +kernel) ?_
       refine aL ?_
       exact⟨_,trivial,((aa (aa (aa (aa (aa (aJ cl) cl) cl) cl) cl) cl)).symm⟩
      ·refine bm 0 rfl rfl rfl (aw l _) (.cons .ptr (.cons (.imm (.pure rfl)) .nil)) .ptr (eh l (fT l d K j) 3 (by omega) (by omega) (by omega) (by omega)) rfl (aw l _) rfl ?_
       refine aj ?_
       refine cd 3 rfl rfl (by decide +kernel) (.bin rfl rfl (ez (by omega) (by omega))) ?_
       refine bY 0 5 _ _ (by decide +kernel) rfl rfl ?_ ?_
       ·refine aL ?_
        refine aj ?_
        refine aq 5 _ (by decide +kernel) rfl ?_
        refine bm 0 rfl rfl rfl (aw l _) (.cons .ptr (.cons (.imm (.pure rfl)) .nil)) .ptr (eh l (eu l (fT l d K j)) 2 (by omega) (by omega) (by omega) (by omega)) rfl (aw l _) rfl ?_
        refine aj ?_
        refine aq 6 _ (by decide +kernel) rfl ?_
        refine ab rfl (.bin rfl rfl (ez (by omega) (by omega))) ?_
        refine aj ?_
        refine aq 7 _ (by decide +kernel) rfl ?_
        refine cp bf (fJ (1+ga l (fT l d K j) 3) (1+ga l (eu l (fT l d K j)) 2) (by omega) (by omega) (by omega) (by omega) (by omega)) ?_
        refine aj ?_
        refine aq 8 _ (by decide +kernel) rfl ?_
        refine cp bf (eX t (mh l (fT l d K j)) (by omega)) ?_
        refine aj ?_
        refine aq 9 _ (by decide +kernel) rfl ?_
        refine aL ?_
        refine aj ?_
        refine bq (by decide +kernel) ?_
        refine aL ?_
        exact⟨_,trivial,((aa (aa (aa (aa (aa (aJ cl) cl) cl) cl) cl) cl)).symm⟩
       ·refine bm 0 rfl rfl rfl (aw l _) (.cons .ptr (.cons (.imm (.pure rfl)) .nil)) .ptr (eh l (eu l (fT l d K j)) 2 (by omega) (by omega) (by omega) (by omega)) rfl (aw l _) rfl ?_
        refine aj ?_
        refine cd 6 rfl rfl (by decide +kernel) (.bin rfl rfl (ez (by omega) (by omega))) ?_
        refine bY 0 7 _ _ (by decide +kernel) rfl rfl ?_ ?_
        ·refine aL ?_
         refine aj ?_
         refine aq 7 _ (by decide +kernel) rfl ?_
         refine cp bf (fJ (1+ga l (fT l d K j) 3) (1+ga l (eu l (fT l d K j)) 2) (by omega) (by omega) (by omega) (by omega) (by omega)) ?_
         refine aj ?_
         refine aq 8 _ (by decide +kernel) rfl ?_
         refine cp bf (eX t (mh l (fT l d K j)) (by omega)) ?_
         refine aj ?_
         refine aq 9 _ (by decide +kernel) rfl ?_
         refine aL ?_
         refine aj ?_
         refine bq (by decide +kernel) ?_
         refine aL ?_
         exact⟨_,trivial,((aa (aa (aa (aa (aa (aJ cl) cl) cl) cl) cl) cl)).symm⟩
        ·refine cp bf (fJ (1+ga l (fT l d K j) 3) (1+ga l (eu l (fT l d K j)) 2) (by omega) (by omega) (by omega) (by omega) (by omega)) ?_
         refine aj ?_
         refine aq 0 _ (by decide +kernel) rfl ?_
         refine aL ?_
         refine aj ?_
         refine aq 8 _ (by decide +kernel) rfl ?_
         refine cp bf (eX t (mh l (fT l d K j)) (by omega)) ?_
         refine aj ?_
         refine aq 9 _ (by decide +kernel) rfl ?_
         refine aL ?_
         refine aj ?_
         refine bq (by decide +kernel) ?_
         refine aL ?_
         exact⟨_,trivial,((aa (aa (aa (aa (aa (aJ cl) cl) cl) cl) cl) cl)).symm⟩
     ·rintro _ ⟨LR11,-,rfl⟩
      refine ca ?_
      first | refine aK rfl (.appX (d:=24) (news:=[ratL ((t+mh l (fT l d K j)))]) rfl rfl rfl rfl (by simp) (.inl rfl) (by decide) Tryz.underlying36 Tryz.underlying36 cz bF rfl f3 (.inl ⟨65,0,_,rfl,by decide,rfl,rfl,by simp,rfl,by simp [aD,ah.pure]⟩) (by simp;omega) (by simp;omega) (by decide)) ?_ | refine aK rfl (.appX (d:=24) (news:=[ratL (t)]) rfl rfl rfl rfl (by simp) (.inl rfl) (by decide) Tryz.underlying36 Tryz.underlying36 cz bF rfl f3 (.inl ⟨65,0,_,rfl,by decide,rfl,rfl,by simp,rfl,by simp [aD,ah.pure]⟩) (by simp;omega) (by simp;omega) (by decide)) ?_
      refine bw ?_
      refine aY (aP.kill _ 65) ?_
      refine aL ?_
      refine ab rfl (.bin rfl rfl (ee (by omega) (by omega))) ?_
      refine bx ?_
      exact Ev e (K++[(t+mh l (fT l d K j))]) (t+mh l (fT l d K j)) (eu l (eu l (fT l d K j))) (hI.yes hl (by omega) hB)
    ·have hB:¬vw l d K t j:=by simpa using h53
     refine bJ ?_
     first | refine aK rfl (.appX (d:=24) (news:=[ratL ((t+mh l (fT l d K j)))]) rfl rfl rfl rfl (by simp) (.inl rfl) (by decide) Tryz.underlying36 Tryz.underlying36 cz bF rfl f3 (.inl ⟨65,0,_,rfl,by decide,rfl,rfl,by simp,rfl,by simp [aD,ah.pure]⟩) (by simp;omega) (by simp;omega) (by decide)) ?_ | refine aK rfl (.appX (d:=24) (news:=[ratL (t)]) rfl rfl rfl rfl (by simp) (.inl rfl) (by decide) Tryz.underlying36 Tryz.underlying36 cz bF rfl f3 (.inl ⟨65,0,_,rfl,by decide,rfl,rfl,by simp,rfl,by simp [aD,ah.pure]⟩) (by simp;omega) (by simp;omega) (by decide)) ?_
     refine bw ?_
     refine aY (aP.kill _ 65) ?_
     refine aL ?_
     refine ab rfl (.bin rfl rfl (ee (by omega) (by omega))) ?_
     refine bx ?_
     exact Ev e (K++[t]) t (fT l d K j) (hI.no hl (by omega) hB)
  ·obtain rfl:c=0:=by omega
   have hV:=hI.hR
   rw [s7] at hV
   have hj5:=hI.hj
   have hKl:=hI.hl
   have hrt:=hI.ht
   have hrt1:=dF t 1
   refine bJ ?_
   refine au 3 (by decide +kernel) ?_
   refine aL ?_
   refine cp bK (eO 1 (by decide) (by decide)) ?_
   refine cp bf (eX t 1 (by omega)) ?_
   refine bv ?_
   refine gE (fun(i:Nat) L=>(((((St.mk L.slot (hp [(0,⟨2,[cW l j],true⟩),(7,⟨3,[ratL (t+1)],true⟩),(24,⟨3,(K++List.replicate i (t+1)).map ratL,true⟩)])).put (some 1) (ai d)).put (some 7) (.eptr 7 3 0 0)).put (some 8) (.ref 24 3 0 (K.length+i))).put (some 11) (ai i))) (fun i=>i≤d+1) (fun i=>d+1-i) 0 (Nat.zero_le _) ?_
   rintro i L3 hi
   refine cx ?_
   refine an rfl (fun h72r h72=>?_) (fun h72r h72=>?_)
   ·have hi2:i≤d:=by omega
    have ers2:K++List.replicate i (t+1)++[t+1]=K++List.replicate (i+1) (t+1):=by rw [List.append_assoc,rX]
    have etkB:((K++List.replicate i (t+1)).map ratL).take (K.length+i)=(K++List.replicate i (t+1)).map ratL:=List.take_of_length_le (by simp)
    refine cx ?_
    refine aK rfl (.appX (d:=24) (news:=[ratL (t+1)]) rfl rfl rfl rfl (by simp) (.inl rfl) (by decide) Tryz.underlying36 Tryz.underlying36 cz bF rfl f3 (.inl ⟨77,0,_,rfl,by decide,rfl,rfl,by simp,rfl,by simp [aD,ah.pure]⟩) (by simp;omega) (by simp;omega) (by decide)) ?_
    refine bw ?_
    refine aY (aP.kill _ 77) ?_
    refine aL ?_
    refine ab rfl (.bin rfl rfl (a9 (by omega))) ?_
    refine bx ?_
    exact fA (i+1) (by omega)
   ·obtain rfl:i=d+1:=by omega
    refine bE ?_
    have hE:K++List.replicate (d+1) (t+1)=yT l d k n:=by unfold yT;rw [←hV]
    have hE2:j=(Ae l d k n).2.2:=by rw [←hV]
    rw [←hE,←hE2]
    exact E8 [24] rfl rfl (bg ah rfl rfl (by simp)) rfl rfl (aw l _)
end Go.Proofs.YtfpdccbgngdhkaaGreat
end
section
set_option linter.unusedVariables false
set_option linter.unusedSimpArgs false
namespace Go.Lg
theorem aP.frz {L:St} {t:Nat} {x y:LV} (bs:List Nat) (h0:bs.contains 0=false) (h:L.slot t=x) (hi:Imm (L.frz bs).heap x y):aP L ((L.frz bs).put (some t) y):=by
 rintro n W X Z0 a w ⟨hdf,hsz,μ,Z,hc,hr⟩
 obtain⟨Z',hc',hz⟩:=hc.widen (fF bs h0)
 refine⟨hdf,hsz,μ,Z',by rw [cw];exact hc',fun s=>?_⟩
 have hm:=be.mono hz (fun _ _ h=>h) (Frame.refl Z μ w) (hr s)
 rw [bz]
 split
 ·rename_i hst
  subst hst
  rw [h] at hm
  exact be.of1 (LV.pure_ne_tup hi.lay.2.2) (Imm.soundV (μ':=μ) hc' hi hm)
 ·exact hm
theorem aP.hand {L:St} {t:Nat} {α:Type} {e:α→LV} {ag:Bool} {b sz len:Nat} {l:List α} {m:Bool} (he:EncOK e sz ag) (h:L.slot t=.ref b sz 0 len) (hb:L.heap b=some ⟨sz,l.map e,m⟩) (hl:len=l.length) (h0:b≠0:=by decide) :
  aP L ((L.put (some t) (.list sz (l.map e))).kill b):=by
 have h0':([b]:List Nat).contains 0=false:=by simp;omega
 have e1:=(aP.frz [b] h0' h (bg (bs:=[b]) he hb (by simp) hl)).trans (aP.kill _ b h0)
 have e2:((L.frz [b]).put (some t) (.list sz (l.map e))).kill b=(L.put (some t) (.list sz (l.map e))).kill b:=by
  unfold St.kill
  congr 1
  funext c
  rw [cw,cw]
  by_cases hcb:c=b
  ·simp [hcb]
  ·simp only [St.frz,if_neg hcb]
   cases L.heap c with
   | none=>rfl
   | some blk=>simp [hcb]
 rw [←e2]
 exact e1
end Go.Lg
end
section
set_option linter.unusedVariables false
set_option linter.unusedSimpArgs false
set_option maxHeartbeats 8000000
set_option maxRecDepth 100000
attribute [local irreducible] Go.Lg.opsL Go.Lg.wpL Go.Lg.thenL Go.Lg.blockL
namespace Go.Proofs.YtfpdccbgngdhkaaGreat
open Go.Lg
def bu (r:List PoR):LV:=.list 12 (r.map dX)
theorem dW:EncOK bu 1 false:=⟨fun _=>rfl,fun _=>rfl,fun p=>ak cA 12 p⟩
theorem En:aT Tryz.prog 60 (bu []):=⟨Tryz.t60,_,by kernel_rfl,rfl,rfl,fun _ _ _=>jX 12⟩
theorem cb (r:List PoR) (b:Nat):(bu r).kill b=bu r:=LV.kill_pure b _ (dW.pure r)
instance:EC Tryz.prog 60 bu 1 false []:=⟨dW,En,rf⟩
theorem qk (d sz:Nat) (x y z u:LV) (Z:Nat→Prop) (μ:Nat→Option Nat) (w:World) (cs:List Value) (h:bt Z μ w (.agg [x,y,z,u,.v (.slice none 0 0)]) cs):bt Z μ w (.agg [x,y,z,u,.ref d sz 0 0]) cs:=by
 simp only [bt,bn] at h ⊢
 obtain⟨c1,c2,e1,e2,e3,c3,c4,e4,e5,e6,c5,c6,e7,e8,e9,c7,c8,g1,g2,g3,c9,c10,g4,g5,g6,g7⟩:=h
 exact⟨c1,c2,e1,e2,e3,c3,c4,e4,e5,e6,c5,c6,e7,e8,e9,c7,c8,g1,g2,g3,c9,c10,g4,g5,.inl ⟨g6.1,trivial⟩,g7⟩
def ra (w:Bool) (i j:Nat) (q:PoR):PoR :=
 bif w then q else⟨⟨((2*(i:Int):Int):Rat)+q.p.x*(((1:Int):Rat)/((8:Int):Rat)),((2*(j:Int):Int):Rat)+q.p.y*(((1:Int):Rat)/((8:Int):Rat)),q.p.z*(((1:Int):Rat)/((4:Int):Rat))⟩,q.w⟩
theorem ED {w:Bool} {i j:Nat} {q:PoR} (h:jN 1 q) (hi:i≤100) (hj:j≤100):jN 4 (ra w i j q):=by
 obtain⟨⟨h1,h2,h3⟩,h4,h5⟩:=h
 cases w with
 | true=>exact⟨⟨by show rl q.p.x≤4;omega,by show rl q.p.y≤4;omega,by show rl q.p.z≤4;omega⟩,by show rl q.w≤4;omega,h5⟩
 | false =>
  have e8:rl (((1:Int):Rat)/((8:Int):Rat))=1:=by decide +kernel
  have e4:rl (((1:Int):Rat)/((4:Int):Rat))=1:=by decide +kernel
  have a1:rl ((2*(i:Int):Int):Rat)≤1:=gl (by omega)
  have a2:rl ((2*(j:Int):Int):Rat)≤1:=gl (by omega)
  have m1:=bA q.p.x (((1:Int):Rat)/((8:Int):Rat))
  have m2:=bA q.p.y (((1:Int):Rat)/((8:Int):Rat))
  have m3:=bA q.p.z (((1:Int):Rat)/((4:Int):Rat))
  have s1:=dF ((2*(i:Int):Int):Rat) (q.p.x*(((1:Int):Rat)/((8:Int):Rat)))
  have s2:=dF ((2*(j:Int):Int):Rat) (q.p.y*(((1:Int):Rat)/((8:Int):Rat)))
  exact⟨⟨by show rl (_+_)≤4;omega,by show rl (_+_)≤4;omega,by show rl (_*_)≤4;omega⟩,by show rl q.w≤4;omega,h5⟩
def t7 (l:List Int) (w:Bool) (i:Nat):Nat→Nat→Nat→List PoR
 | _,0,_=>[]
 | j,c+1,k=>ra w i j (js l k) :: t7 l w i (j+1) c (Cw l k)
theorem u0 (l:List Int) (w:Bool) (i:Nat):∀ c j k,(t7 l w i j c k).length=c
 | 0,_,_=>rfl
 | c+1,j,k=>by simp [t7,u0 l w i c]
theorem zb (l:List Int) (w:Bool) {i:Nat} (hi:i≤100):∀ c j k,j+c≤100→∀ q∈t7 l w i j c k,jN 4 q
 | 0,_,_,_,q,h=>by simp [t7] at h
 | c+1,j,k,hj,q,h=>by
  simp only [t7,List.mem_cons] at h
  rcases h with rfl | h
  ·exact ED ⟨Cl l k,CD _ _,xp _ _⟩ hi (by omega)
  ·exact zb l w hi c (j+1) _ (by omega) q h
def yD (l:List Int) (w:Bool) (b:Nat):Nat→Nat→Nat→List (List PoR)
 | _,0,_=>[]
 | i,c+1,k=>t7 l w i 0 b k :: yD l w b (i+1) c (wY l k b)
def Er (l:List Int) (b:Nat):Nat→Nat→Nat
 | 0,k=>k
 | c+1,k=>Er l b c (wY l k b)
theorem vH (l:List Int) (w:Bool) (b:Nat):∀ c i k,(yD l w b i c k).length=c
 | 0,_,_=>rfl
 | c+1,i,k=>by simp [yD,vH l w b c]
theorem zN (l:List Int) (w:Bool) {b:Nat} (hb:b≤100):∀ c i k,i+c≤100→∀ r∈yD l w b i c k,r.length=b∧∀ q∈r,jN 4 q
 | 0,_,_,_,r,h=>by simp [yD] at h
 | c+1,i,k,hi,r,h=>by
  simp only [yD,List.mem_cons] at h
  rcases h with rfl | h
  ·exact⟨u0 ..,zb l w (by omega) b 0 k (by omega)⟩
  ·exact zN l w hb c (i+1) _ (by omega) r h
theorem zh (l:List Int) {k d m:Nat} (hl:l.length≤500) (hk:k≤500) (hd1:1≤d) (hd:d≤6) (hm:m≤2):kOK (yT l d k m) d∧(yT l d k m).length=2*(d+1)+yi l k m∧(Ae l d k m).2.2≤500:=by
 obtain⟨hN1,hN2⟩:=lJ l k m
 obtain⟨hT,hT1⟩:=BO l k
 have hr1:rl 1=1:=rfl
 obtain⟨inn,t,j',e,hil,hin,hrt,hlt⟩:=EA l (d:=d) (n:=yi l k m) (T:=o7 l k) hd1 (by omega) hT (eu l (eu l k))
 have ht1:=dF t 1
 have eK:yT l d k m=kx d (o7 l k) inn (t+1):=by
  unfold yT Ae kx
  rw [e,List.append_assoc]
 refine⟨by rw [eK];exact FG hd1 hd (by omega) (by omega) hlt hin,?_,?_⟩
 ·rw [eK,uu,hil]
 ·have k1:=ea (l:=l) hl hk
  have k2:=ea (l:=l) hl k1
  have gen:∀ (c:Nat) (K:List Rat) (t:Rat) (j:Nat),j≤500→(s7 l d c K t j).2.2≤500:=by
   intro c
   induction c with
   | zero=>intro K t j hj;exact hj
   | succ c ih =>
    intro K t j hj
    rw [s7]
    split
    ·exact ih _ _ _ (ea hl (ea hl (nm hl hj)))
    ·exact ih _ _ _ (nm hl hj)
  exact gen _ _ _ _ k2
def sU (l:List Int) (k n:Nat):Nat:=cD l k n
def sV (l:List Int) (k n:Nat):Nat:=cD l (eu l k) n
def uK (l:List Int) (k:Nat):Nat:=eu l (eu l k)
def uX (l:List Int) (k n m:Nat):Nat:=(Ae l (sU l k n) (uK l k) m).2.2
def xz (l:List Int) (k n m:Nat):Nat:=(Ae l (sV l k n) (uX l k n m) m).2.2
def s6 (l:List Int) (k n m:Nat):List Rat:=yT l (sU l k n) (uK l k) m
def s8 (l:List Int) (k n m:Nat):List Rat:=yT l (sV l k n) (uX l k n m) m
def kM (l:List Int) (k n m:Nat):Bool:=decide (ga l (xz l k n m) 3=2)
def sA (l:List Int) (k n m:Nat):Nat:=sU l k n+1+yi l (uK l k) m
def sB (l:List Int) (k n m:Nat):Nat:=sV l k n+1+yi l (uX l k n m) m
def sR (l:List Int) (k n m:Nat):List (List PoR):=yD l (kM l k n m) (sB l k n m) 0 (sA l k n m) (eu l (xz l k n m))
def sE (l:List Int) (k n m:Nat):Nat:=Er l (sB l k n m) (sA l k n m) (eu l (xz l k n m))
structure sIn (l:List Int) (k n m:Nat):Prop where
 u1:1≤sU l k n
 un:sU l k n≤n
 ue:(sU l k n:Int)=1+ga l k (n:Int)
 v1:1≤sV l k n
 vn:sV l k n≤n
 ve:(sV l k n:Int)=1+ga l (eu l k) (n:Int)
 j1:eu l k≤500
 j2:uK l k≤500
 j3:uX l k n m≤500
 j4:xz l k n m≤500
 j5:eu l (xz l k n m)≤500
 ku:kOK (s6 l k n m) (sU l k n)
 kv:kOK (s8 l k n m) (sV l k n)
 lu:(s6 l k n m).length=sU l k n+1+sA l k n m
 lv:(s8 l k n m).length=sV l k n+1+sB l k n m
 a8:sA l k n m≤9
 b8:sB l k n m≤9
 rl:(sR l k n m).length=sA l k n m
 rk:∀ r∈sR l k n m,r.length=sB l k n m∧∀ q∈r,jN 4 q
theorem wz (l:List Int) {k n m:Nat} (hl:l.length≤500) (hk:k≤500) (hn:0<n) (hn6:n≤6) (hm:m≤2):sIn l k n m:=by
 obtain⟨u1,un,ue⟩:=BR l k hn
 obtain⟨v1,vn,ve⟩:=BR l (eu l k) hn
 have j1:=ea (l:=l) hl hk
 have j2:uK l k≤500:=ea (l:=l) hl j1
 obtain⟨ku,lu,j3⟩:=zh l (d:=sU l k n) (m:=m) hl j2 u1 (Nat.le_trans un hn6) hm
 have j3:uX l k n m≤500:=j3
 obtain⟨kv,lv,j4⟩:=zh l (k:=uX l k n m) (d:=sV l k n) (m:=m) hl j3 v1 (Nat.le_trans vn hn6) hm
 have n1:=(lJ l (uK l k) m).2
 have n2:=(lJ l (uX l k n m) m).2
 have ha:sA l k n m≤9:=by unfold sA;have:sU l k n≤n:=un;omega
 have hb:sB l k n m≤9:=by unfold sB;have:sV l k n≤n:=vn;omega
 exact⟨u1,un,ue,v1,vn,ve,j1,j2,j3,j4,ea hl j4,ku,kv,by unfold s6 sA;omega,by unfold s8 sB;omega,ha,hb,vH ..,zN l _ (by omega) _ _ _ (by omega)⟩
theorem Ch (l:List Int) (q:Nat):jN 1 (js l q):=⟨Cl l q,CD _ _,xp _ _⟩
theorem BQ {x y z:Rat} {i j:Nat} (h1:rl x≤1) (h2:rl y≤1) (h3:rl z≤1) (hi:i≤100) (hj:j≤100) :
  rl (((1:Int):Rat)/((8:Int):Rat))=1∧rl (((1:Int):Rat)/((4:Int):Rat))=1∧rl ((2*(i:Int):Int):Rat)+rl (x*(((1:Int):Rat)/((8:Int):Rat)))≤4∧rl ((2*(j:Int):Int):Rat)+rl (y*(((1:Int):Rat)/((8:Int):Rat)))≤4∧rl (z*(((1:Int):Rat)/((4:Int):Rat)))≤4:=by
 have e8:rl (((1:Int):Rat)/((8:Int):Rat))=1:=by decide +kernel
 have e4:rl (((1:Int):Rat)/((4:Int):Rat))=1:=by decide +kernel
 have a1:rl ((2*(i:Int):Int):Rat)≤1:=gl (by omega)
 have a2:rl ((2*(j:Int):Int):Rat)≤1:=gl (by omega)
 have m1:=bA x (((1:Int):Rat)/((8:Int):Rat))
 have m2:=bA y (((1:Int):Rat)/((8:Int):Rat))
 have m3:=bA z (((1:Int):Rat)/((4:Int):Rat))
 exact⟨e8,e4,by omega,by omega,by omega⟩
namespace J7
theorem bQ {p q:Prop} (k:q) (e:p=q:=by simp only [e1,e2,e3,e4,p1,p2,p3,q1,q2,q3,l1,t0,t1,r1,r2,r3,r4,Nat.zero_add,Nat.reduceMul,Nat.reduceAdd,b1,b2,b3,b4,b5,b6,i1,i2,i3,i4,i5,i6,Nat.reduceBEq,l1,etk,egp,egq,dq,hlu,hlv,cb,ae dW,List.length_map,aQ,bo,aW,List.length_cons,List.length_nil,List.length_map,List.set_cons_zero,List.set_cons_succ,Nat.reduceEqDiff,reduceIte,if_true,if_false,aN,aM,ae cA,ae ah,ax,aC,LV.kill,aH,fU];exact rfl):p:=e.mpr k
end J7
open J7 in
theorem tt (l:List Int) (k:Nat) (hl:l.length≤500) (n:Nat) (hn:0<n) (hn6:n≤6) (m:Nat) (hm:m≤2) (hk:k≤500):dK Tryz.prog 11 ⟨2,[cW l k],true⟩ [.eptr 0 2 0 0,ai n,ai m] (.agg [ai (sU l k n),ai (sV l k n),.list 3 ((s6 l k n m).map ratL),.list 3 ((s8 l k n m).map ratL),.list 1 ((sR l k n m).map bu)]) ⟨2,[cW l (sE l k n m)],true⟩:=by
 have hS:=wz l hl hk hn hn6 hm
 have hu1:=hS.u1
 have hun:=hS.un
 have hv1:=hS.v1
 have hvn:=hS.vn
 have hj1:=hS.j1
 have hj2:=hS.j2
 have hj3:=hS.j3
 have hj4:=hS.j4
 have hj5:=hS.j5
 have hlu:=hS.lu
 have hlv:=hS.lv
 have ha8:=hS.a8
 have hb8:=hS.b8
 have hb:=ep (l:=l) (k:=k) (n:=(n:Int)) (by omega)
 have hb1:=ep (l:=l) (k:=eu l k) (n:=(n:Int)) (by omega)
 have hA:cj .add .i64 1 (ga l k (n:Int))=some (.int .i64 (((sU l k n):Nat):Int)):=by rw [hS.ue];exact ez (by omega) (by omega)
 have hA2:cj .add .i64 1 (ga l (eu l k) (n:Int))=some (.int .i64 (((sV l k n):Nat):Int)):=by rw [hS.ve];exact ez (by omega) (by omega)
 have hku:=ak ah 3 (s6 l k n m)
 have hkv:=ak ah 3 (s8 l k n m)
 refine BC Tryz.func11 ?_
 have etk:True:=trivial
 have egp:True:=trivial
 have egq:True:=trivial
 refine cg ?_
 refine bm 0 rfl rfl rfl (aw l _) (.cons .ptr (.cons (.imm (.pure rfl)) .nil)) .ptr (eh l k n (by omega) (by omega) (by omega) (by omega)) rfl (aw l _) rfl ?_
 refine ab rfl (.bin rfl rfl (hA)) ?_
 refine bG ?_
 refine bm 0 rfl rfl rfl (aw l _) (.cons .ptr (.cons (.imm (.pure rfl)) .nil)) .ptr (eh l (eu l k) n (by omega) (by omega) (by omega) (by omega)) rfl (aw l _) rfl ?_
 refine ab rfl (.bin rfl rfl (hA2)) ?_
 refine bJ ?_
 refine cr (fun L=>∃  (L1:St),(True)∧L=((((St.mk L1.slot (hp [(0,⟨2,[cW l (xz l k n m)],true⟩),(6,⟨5,[.agg [.v (.int .i64 0),.v (.int .i64 0),.v (.slice none 0 0),.v (.slice none 0 0),.v (.slice none 0 0)]],true⟩),(7,⟨5,[.agg [ai (sU l k n),ai (sV l k n),.list 3 ((s6 l k n m).map ratL),.list 3 ((s8 l k n m).map ratL),.v (.slice none 0 0)]],true⟩)])).put (some 0) (.eptr 0 2 0 0)).put (some 6) (.eptr 6 5 0 0)).put (some 7) (.eptr 7 5 0 0))) ?_ ?_
 ·refine jO ?_
  refine cd 0 rfl rfl (by decide +kernel) (.move _) ?_
  refine cd 1 rfl rfl (by decide +kernel) gI ?_
  refine cd 3 rfl rfl (by decide +kernel) (.move _) ?_
  refine cd 5 rfl rfl (by decide +kernel) (.move _) ?_
  refine cd 6 rfl rfl (by decide +kernel) gI ?_
  refine cd 8 rfl rfl (by decide +kernel) (.move _) ?_
  refine bY 2 7 _ _ (by decide +kernel) rfl rfl ?_ ?_
  ·refine aL ?_
   refine aj ?_
   refine bY 4 7 _ _ (by decide +kernel) rfl rfl ?_ ?_
   ·refine bm 0 rfl rfl rfl (aw l _) (.cons .ptr (.cons (.imm (.pure rfl)) (.cons (.imm (.pure rfl)) .nil))) .ptr (dN l (uK l k) (by omega) (sU l k n) (by omega) (by omega) m hm (by omega)) rfl (aw l _) (ak ah 3 _) ?_
    refine aj ?_
    refine aq 7 _ (by decide +kernel) rfl ?_
    refine aL ?_
    refine aj ?_
    refine cd 10 rfl rfl (by decide +kernel) gI ?_
    refine aq 9 _ (by decide +kernel) rfl ?_
    refine bm 0 rfl rfl rfl (aw l _) (.cons .ptr (.cons (.imm (.pure rfl)) (.cons (.imm (.pure rfl)) .nil))) .ptr (dN l (uX l k n m) (by omega) (sV l k n) (by omega) (by omega) m hm (by omega)) rfl (aw l _) (ak ah 3 _) ?_
    refine aj ?_
    refine aq 11 _ (by decide +kernel) rfl ?_
    refine aL ?_
    refine aj ?_
    refine aq 12 _ (by decide +kernel) rfl ?_
    refine aL ?_
    refine aj ?_
    refine aq 13 _ (by decide +kernel) rfl ?_
    refine aL ?_
    refine aj ?_
    refine bq (by decide +kernel) ?_
    refine aL ?_
    exact⟨_,trivial,((aa (aa (aa (aJ cl) cl) cl) cl)).symm⟩
   ·refine aL ?_
    refine aj ?_
    refine aq 4 _ (by decide +kernel) rfl ?_
    refine bm 0 rfl rfl rfl (aw l _) (.cons .ptr (.cons (.imm (.pure rfl)) (.cons (.imm (.pure rfl)) .nil))) .ptr (dN l (uK l k) (by omega) (sU l k n) (by omega) (by omega) m hm (by omega)) rfl (aw l _) (ak ah 3 _) ?_
    refine aj ?_
    refine cd 10 rfl rfl (by decide +kernel) gI ?_
    refine aq 9 _ (by decide +kernel) rfl ?_
    refine bm 0 rfl rfl rfl (aw l _) (.cons .ptr (.cons (.imm (.pure rfl)) (.cons (.imm (.pure rfl)) .nil))) .ptr (dN l (uX l k n m) (by omega) (sV l k n) (by omega) (by omega) m hm (by omega)) rfl (aw l _) (ak ah 3 _) ?_
    refine aj ?_
    refine aq 11 _ (by decide +kernel) rfl ?_
    refine aL ?_
    refine aj ?_
    refine aq 12 _ (by decide +kernel) rfl ?_
    refine aL ?_
    refine aj ?_
    refine aq 13 _ (by decide +kernel) rfl ?_
    refine aL ?_
    refine aj ?_
    refine bq (by decide +kernel) ?_
    refine aL ?_
    exact⟨_,trivial,((aa (aa (aa (aJ cl) cl) cl) cl)).symm⟩
  ·refine aL ?_
   refine aj ?_
   refine aq 2 _ (by decide +kernel) rfl ?_
   refine aL ?_
   refine aj ?_
   refine aq 4 _ (by decide +kernel) rfl ?_
   refine bm 0 rfl rfl rfl (aw l _) (.cons .ptr (.cons (.imm (.pure rfl)) (.cons (.imm (.pure rfl)) .nil))) .ptr (dN l (uK l k) (by omega) (sU l k n) (by omega) (by omega) m hm (by omega)) rfl (aw l _) (ak ah 3 _) ?_
   refine aj ?_
   refine cd 10 rfl rfl (by decide +kernel) gI ?_
   refine aq 9 _ (by decide +kernel) rfl ?_
   refine bm 0 rfl rfl rfl (aw l _) (.cons .ptr (.cons (.imm (.pure rfl)) (.cons (.imm (.pure rfl)) .nil))) .ptr (dN l (uX l k n m) (by omega) (sV l k n) (by omega) (by omega) m hm (by omega)) rfl (aw l _) (ak ah 3 _) ?_
   refine aj ?_
   refine aq 11 _ (by decide +kernel) rfl ?_
   refine aL ?_
   refine aj ?_
   refine aq 12 _ (by decide +kernel) rfl ?_
   refine aL ?_
   refine aj ?_
   refine aq 13 _ (by decide +kernel) rfl ?_
   refine aL ?_
   refine aj ?_
   refine bq (by decide +kernel) ?_
   refine aL ?_
   exact⟨_,trivial,((aa (aa (aa (aJ cl) cl) cl) cl)).symm⟩
 ·rintro _ ⟨LR2,-,rfl⟩
  refine bw ?_
  refine bm 0 rfl rfl rfl (aw l _) (.cons .ptr (.cons (.imm (.pure rfl)) .nil)) .ptr (eh l (xz l k n m) 3 (by omega) (by omega) (by omega) (by omega)) rfl (aw l _) rfl ?_
  refine bD ?_
  refine cN ((aP.cell 7 rfl (fun Z μ w cs h=>qk 100 1 _ _ _ _ Z μ w cs h)).trans (aP.newB _ 100 1 rfl)) ?_
  refine EY (fun(i p c:Nat) (o:List (List PoR)) L=>((((((St.mk L.slot (hp [(0,⟨2,[cW l p],true⟩),(6,⟨5,[.agg [.v (.int .i64 0),.v (.int .i64 0),.v (.slice none 0 0),.v (.slice none 0 0),.v (.slice none 0 0)]],true⟩),(7,⟨5,[.agg [ai (sU l k n),ai (sV l k n),.list 3 ((s6 l k n m).map ratL),.list 3 ((s8 l k n m).map ratL),.ref 100 1 0 i]],true⟩),(100,⟨1,o.map bu,true⟩)])).put (some 0) (.eptr 0 2 0 0)).put (some 6) (.eptr 6 5 0 0)).put (some 7) (.eptr 7 5 0 0)).put (some 8) (bL (kM l k n m))).put (some 9) (ai i))) (fun i p c o=>p≤500∧o.length=i∧i+c=(sA l k n m)∧o++yD l (kM l k n m) (sB l k n m) i c p=sR l k n m∧Er l (sB l k n m) c p=sE l k n m) (fun i p c o=>c) 0 (eu l (xz l k n m)) (sA l k n m) ([]) ⟨hj5,rfl,by simp,rfl,rfl⟩ ?_
  rintro i p c o L1 ⟨hp5,hol,hic,hR,hE⟩
  refine cg ?_
  refine ab rfl (.bin rfl rfl (eo (by omega) (by omega))) ?_
  refine ab rfl (.bin rfl rfl (eo (by omega) (by omega))) ?_
  refine bx ?_
  refine an rfl (fun h45r h45=>?_) (fun h45r h45=>?_)
  ·have etk:(o.map bu).take i=o.map bu:=List.take_of_length_le (by simp;omega)
   obtain⟨e,rfl⟩:∃ e,c=e+1:=⟨c-1,by omega⟩
   refine ie ?_
   refine cN (aP.own (t:=10) 95 12 rfl rfl) ?_
   refine tp (fun(d q:Nat) (r:List PoR) L=>((((((((St.mk L.slot (hp [(0,⟨2,[cW l q],true⟩),(6,⟨5,[.agg [.v (.int .i64 0),.v (.int .i64 0),.v (.slice none 0 0),.v (.slice none 0 0),.v (.slice none 0 0)]],true⟩),(7,⟨5,[.agg [ai (sU l k n),ai (sV l k n),.list 3 ((s6 l k n m).map ratL),.list 3 ((s8 l k n m).map ratL),.ref 100 1 0 i]],true⟩),(100,⟨1,o.map bu,true⟩),(95,⟨12,r.map dX,true⟩)])).put (some 0) (.eptr 0 2 0 0)).put (some 6) (.eptr 6 5 0 0)).put (some 7) (.eptr 7 5 0 0)).put (some 8) (bL (kM l k n m))).put (some 9) (ai i)).put (some 10) (.ref 95 12 0 r.length)).put (some 11) (ai r.length))) (fun d q r=>q≤500∧r.length+d=(sB l k n m)∧r++t7 l (kM l k n m) i r.length d q=t7 l (kM l k n m) i 0 (sB l k n m) p∧wY l q d=wY l p (sB l k n m)) (fun d q r=>d) (sB l k n m) p ([]) ⟨hp5,by simp,rfl,rfl⟩ ?_
   rintro d q r L2 ⟨hq5,hrl,hV,hK⟩
   refine cg ?_
   refine ab rfl (.bin rfl rfl (eo (by omega) (by omega))) ?_
   refine ab rfl (.bin rfl rfl (eo (by omega) (by omega))) ?_
   refine bx ?_
   refine an rfl (fun h56r h56=>?_) (fun h56r h56=>?_)
   ·obtain⟨f,rfl⟩:∃ f,d=f+1:=⟨d-1,by omega⟩
    obtain⟨⟨hx1,hx2,hx3⟩,hx4,_⟩:=Ch l q
    obtain⟨hz1,hz2,hz3,hz4,hz5⟩:=BQ (i:=i) (j:=r.length) hx1 hx2 hx3 (by omega) (by omega)
    skip
    refine bV ?_
    refine bm 0 rfl rfl rfl (aw l _) (.cons .ptr (.cons (.imm (.pure rfl)) .nil)) .ptr (vi l q (by omega) (by omega)) rfl (aw l _) (cA.pure _) ?_
    refine bD ?_
    refine an rfl (fun h62r h62=>?_) (fun h62r h62=>?_)
    ·have hwd:(kM l k n m)=false:=by simpa using h62
     have egp:LV.agg [.agg [ratL (((2*(i:Int):Int):Rat)+(js l q).p.x*(((1:Int):Rat)/((8:Int):Rat))),ratL (((2*(r.length:Int):Int):Rat)+(js l q).p.y*(((1:Int):Rat)/((8:Int):Rat))),ratL ((js l q).p.z*(((1:Int):Rat)/((4:Int):Rat)))],ratL (js l q).w]=dX (ra (kM l k n m) i r.length (js l q)):=by unfold ra;rw [hwd];rfl
     refine aL ?_
     refine au 11 (by decide +kernel) ?_
     refine aL ?_
     refine ab rfl (.bin rfl rfl (l9 (by omega) (by omega))) ?_
     refine cp bK (eO (2*(i:Int)) (by omega) (by omega)) ?_
     refine bx ?_
     refine cp bf (fJ 1 8 (by decide) (by decide) (by decide) (by decide) (by decide)) ?_
     refine cp bf (dA (js l q).p.x _ (by omega)) ?_
     refine cp bf (eX _ _ (by omega)) ?_
     refine bJ ?_
     refine au 11 (by decide +kernel) ?_
     refine aL ?_
     refine ab rfl (.bin rfl rfl (l9 (by omega) (by omega))) ?_
     refine cp bK (eO (2*(r.length:Int)) (by omega) (by omega)) ?_
     refine bx ?_
     refine cp bf (fJ 1 8 (by decide) (by decide) (by decide) (by decide) (by decide)) ?_
     refine cp bf (dA (js l q).p.y _ (by omega)) ?_
     refine cp bf (eX _ _ (by omega)) ?_
     refine ca ?_
     refine au 7 (by decide +kernel) ?_
     refine bx ?_
     refine cp bf (fJ 1 4 (by decide) (by decide) (by decide) (by decide) (by decide)) ?_
     refine cp bf (dA (js l q).p.z _ (by omega)) ?_
     refine cg ?_
     first | refine aK rfl (.appX (d:=95) (news:=[dX (ra (kM l k n m) i r.length (js l q))]) rfl rfl rfl rfl (by simp) (.inl rfl) (by decide) Tryz.underlying60 Tryz.underlying60 ta me cs wS (.inl ⟨94,0,_,rfl,by decide,rfl,rfl,by simp,rfl,by simp [aD,cA.pure]⟩) (by simp;omega) (by simp;omega) (by decide)) ?_ | refine aK rfl (.appX (d:=95) (news:=[dX (js l q)]) rfl rfl rfl rfl (by simp) (.inl rfl) (by decide) Tryz.underlying60 Tryz.underlying60 ta me cs wS (.inl ⟨94,0,_,rfl,by decide,rfl,rfl,by simp,rfl,by simp [aD,cA.pure]⟩) (by simp;omega) (by simp;omega) (by decide)) ?_
     refine bw ?_
     refine aY ((aP.kill _ 94).trans (aP.kill _ 12)) ?_
     refine aL ?_
     refine ab rfl (.bin rfl rfl (a9 (by omega))) ?_
     refine bx ?_
     exact rb f (Cw l q) (r++[ra (kM l k n m) i r.length (js l q)]) ⟨nU hl hq5,by simp;omega,by rw [List.append_assoc,aW];exact hV,hK⟩
    ·have hwd:(kM l k n m)=true:=by simpa using h62
     have egq:r++[(js l q)]=r++[(ra (kM l k n m) i r.length (js l q))]:=by unfold ra;rw [hwd];rfl
     refine bJ ?_
     first | refine aK rfl (.appX (d:=95) (news:=[dX (ra (kM l k n m) i r.length (js l q))]) rfl rfl rfl rfl (by simp) (.inl rfl) (by decide) Tryz.underlying60 Tryz.underlying60 ta me cs wS (.inl ⟨94,0,_,rfl,by decide,rfl,rfl,by simp,rfl,by simp [aD,cA.pure]⟩) (by simp;omega) (by simp;omega) (by decide)) ?_ | refine aK rfl (.appX (d:=95) (news:=[dX (js l q)]) rfl rfl rfl rfl (by simp) (.inl rfl) (by decide) Tryz.underlying60 Tryz.underlying60 ta me cs wS (.inl ⟨94,0,_,rfl,by decide,rfl,rfl,by simp,rfl,by simp [aD,cA.pure]⟩) (by simp;omega) (by simp;omega) (by decide)) ?_
     refine bw ?_
     refine aY ((aP.kill _ 94).trans (aP.kill _ 12)) ?_
     refine aL ?_
     refine ab rfl (.bin rfl rfl (a9 (by omega))) ?_
     refine bx ?_
     exact rb f (Cw l q) (r++[ra (kM l k n m) i r.length (js l q)]) ⟨nU hl hq5,by simp;omega,by rw [List.append_assoc,aW];exact hV,hK⟩
   ·obtain rfl:d=0:=by omega
    rw [t7,List.append_nil] at hV
    rw [wY] at hK
    subst hV hK
    refine ca ?_
    refine aY (aP.hand (t:=10) (b:=95) cA rfl rfl rfl) ?_
    refine bw ?_
    refine aK rfl (.appX (d:=100) (news:=[bu (t7 l (kM l k n m) i 0 (sB l k n m) p)]) rfl rfl rfl rfl (by simp [ae dW];omega) (.inl rfl) (by decide) Tryz.underlying37 Tryz.underlying37 En rf cs Gd (.inl ⟨99,0,_,rfl,by decide,rfl,rfl,by simp,rfl,by simp [aD,dW.pure]⟩) (by simp [ae dW];omega) (by simp [ae dW];omega) (by decide)) ?_
    refine ca ?_
    refine aY (aP.kill _ 99) ?_
    refine aL ?_
    refine ab rfl (.bin rfl rfl (a9 (by omega))) ?_
    refine bx ?_
    exact Ev (i+1) (wY l p (sB l k n m)) e (o++[t7 l (kM l k n m) i 0 (sB l k n m) p]) ⟨tK hl _ _ hp5,by simp;omega,by omega,by rw [List.append_assoc];exact hR,hE⟩
  ·obtain rfl:c=0:=by omega
   rw [yD,List.append_nil] at hR
   rw [Er] at hE
   subst hol
   refine bE ?_
   rw [←hR,←hE]
   exact CT [100] rfl rfl rfl rfl rfl Ew (.agg (.cons (.pure rfl) (.cons (.pure rfl) (.cons (.pure hku) (.cons (.pure hkv) (.cons (bg dW rfl rfl rfl) .nil)))))) rfl rfl (aw l _)
theorem zu (u v:Int) (c:List Rat):LV.pure (.agg [iL u,iL v,.list 3 (c.map ratL)])=true:=by simp [LV.pure,aD,al ah]
theorem aO (u v:Nat) (c:List Rat):LV.pure (.agg [ai u,ai v,.list 3 (c.map ratL)])=true:=zu u v c
theorem oQ {a b n:Nat} (h:a*b=n) (hn:n≤9223372036854775807):cj .mul .i64 (a:Nat) (b:Nat)=some (.int .i64 (n:Nat)):=by
 rw [l9 (by rw [←Int.natCast_mul,h];omega) (by rw [←Int.natCast_mul,h];omega),←Int.natCast_mul,h]
def gL (n:Nat) (W:Nat→Rat):List Rat:=(List.range n).map W
theorem d8 (n:Nat) (W:Nat→Rat):(gL n W).length=n:=by simp [gL]
theorem mO (n:Nat) (W:Nat→Rat):gL (n+1) W=gL n W++[W n]:=by simp [gL,List.range_succ]
theorem tR {n:Nat} {W:Nat→Rat} {x:Nat} (h:x<n):(gL n W).getD x 0=W x:=by
 rw [List.getD_eq_getElem?_getD,List.getElem?_eq_getElem (by rw [d8];exact h)];simp [gL]
theorem p5 (n:Nat) (W:Nat→Rat) (f:Rat→LV):((gL n W).map f).take n=(gL n W).map f:=by rw [List.take_of_length_le (by simp [d8])]
theorem jp {V i j:Nat} (h:j≤V):(i*(V+1)+j)/(V+1)=i:=by
 rw [Nat.add_comm,Nat.add_mul_div_right _ _ (Nat.succ_pos V),Nat.div_eq_of_lt (by omega),Nat.zero_add]
theorem jA {V i j:Nat} (h:j≤V):(i*(V+1)+j) % (V+1)=j:=by
 rw [Nat.add_comm,Nat.add_mul_mod_self_right,Nat.mod_eq_of_lt (by omega)]
theorem iZ {U V i j:Nat} (hi:i≤U) (hj:j≤V):i*(V+1)+j<(U+1)*(V+1):=by
 have:=Nat.mul_le_mul_right (V+1) (show i+1≤U+1 by omega)
 rw [Nat.succ_mul] at this
 omega
theorem jH {n:Nat} (k:Nat) (hn:n≤40):rl (((fX n k:Nat):Int):Rat)≤2:=by
 rcases Nat.lt_or_ge n k with h | h
 ·rw [ni h];decide
 ·have h1:=oe hn _ (bi (i:=k) (by rw [qL];omega))
  rw [uH h] at h1;exact h1
def yj (U V:Nat) (c:List Rat) (x:Nat):Rat:=((fX U (x/(V+1)):Nat):Int)*((fX V (x % (V+1)):Nat):Int)*c.getD x 0
def BB (U V:Nat) (c:List Rat) (x:Nat):Rat:=c.getD (x % (U+1)*(V+1)+x/(U+1)) 0
def jb (U V:Nat) (c:List Rat):List Rat:=gL ((U+1)*(V+1)) (yj U V c)
def iX (U V:Nat) (c:List Rat):List Rat:=gL ((V+1)*(U+1)) (BB U V c)
theorem Cy {U V:Nat} {c:List Rat} {R:Nat} (hU:U≤40) (hV:V≤40) (hR:1≤R) (h:∀ x∈c,rl x≤R):∀ x∈jb U V c,rl x≤R+6:=by
 intro x hx
 obtain⟨i,_,rfl⟩:=List.mem_map.1 hx
 have h1:=jH (n:=U) (i/(V+1)) hU
 have h2:=jH (n:=V) (i % (V+1)) hV
 have h3:=cY hR h i
 have h4:=bA (((fX U (i/(V+1)):Nat):Int):Rat) (((fX V (i % (V+1)):Nat):Int):Rat)
 have h5:=bA ((((fX U (i/(V+1)):Nat):Int):Rat)*(((fX V (i % (V+1)):Nat):Int):Rat)) (c.getD i 0)
 show rl (yj U V c i)≤_
 unfold yj
 omega
theorem D7 {W:Nat→Rat} {o:List Rat} {m:Nat} {v:Rat} (h:m<o.length) (hv:v=W m):(gL m W++o.drop m).set m v=gL (m+1) W++o.drop (m+1):=by
 subst hv
 rw [List.drop_eq_getElem_cons h,vB _ _ _ _ (d8 m W).symm,mO,List.append_assoc];rfl
theorem DB {W:Nat→Rat} {o:List Rat} {m:Nat}:(gL m W++o.drop m).getD m 0=o.getD m 0:=by
 rw [jU _ _ _ (by rw [d8];exact Nat.le_refl _),d8,Nat.sub_self,iY,Nat.add_zero]
section
variable (V1 V2 W U2:Nat) (x y:List Rat) (i j k:Nat)
def mL:Nat→List Rat→List Rat
 | 0,o=>o
 | l+1,o=>(mL l o).set ((i+k)*(W+1)+j+l) ((mL l o).getD ((i+k)*(W+1)+j+l) 0+x.getD (i*(V1+1)+j) 0*y.getD (k*(V2+1)+l) 0)
def mK:Nat→List Rat→List Rat
 | 0,o=>o
 | k+1,o=>mL V1 V2 W x y i j k (V2+1) (mK k o)
def mJ:Nat→List Rat→List Rat
 | 0,o=>o
 | j+1,o=>mK V1 V2 W x y i j (U2+1) (mJ j o)
def mI:Nat→List Rat→List Rat
 | 0,o=>o
 | i+1,o=>mJ V1 V2 W U2 x y i (V1+1) (mI i o)
end
def iG (U1 V1 U2 V2:Nat) (a b:List Rat):List Rat:=mI V1 V2 (V1+V2) U2 (jb U1 V1 a) (jb U2 V2 b) (U1+1) (List.replicate ((U1+U2+1)*(V1+V2+1)) 0)
def Ac (U V:Nat) (o:List Rat) (x:Nat):Rat:=o.getD x 0/((((fX U (x/(V+1)):Nat):Int):Rat)*(((fX V (x % (V+1)):Nat):Int):Rat))
def lp (U1 V1 U2 V2:Nat) (a b:List Rat):List Rat:=gL ((U1+U2+1)*(V1+V2+1)) (Ac (U1+U2) (V1+V2) (iG U1 V1 U2 V2 a b))
namespace Md
theorem bQ {p q:Prop} (k:q) (e:p=q:=by simp only [e1,e2,e3,e4,p1,p2,p3,q1,q2,q3,l1,t0,t1,r1,r2,r3,r4,Nat.zero_add,Nat.reduceMul,Nat.reduceAdd,b1,b2,b3,b4,b5,b6,i1,i2,i3,i4,i5,i6,Nat.reduceBEq,Dn,EL,List.append_nil,ef,ek1,ek2,egr,aQ,bo,aW,List.length_cons,List.length_nil,ae kB,ae ah,LV.kill,aH];exact rfl):p:=e.mpr k
end Md
open Md in
theorem jZ (n:Nat) (hn:n≤40):ap Tryz.prog 266 [ai n] (.list 1 ((iy n).map gi)):=by
 refine bS Tryz.func266 (ht:=(fun g=>LV.ren_pure g _ (ak kB _ _))) ?_
 have ek1:True:=trivial
 have ek2:True:=trivial
 have egr:True:=trivial
 refine ia ?_
 refine cN (aP.mv (t:=3) (b:=5) 11 (by decide) (by decide) (by decide) rfl rfl rfl) ?_
 refine gE (fun(k:Nat) L=>((((St.mk L.slot (hp [(11,⟨1,(iy k).map gi,true⟩)])).put (some 3) (.ref 11 1 0 (k+1))).put (some 6) (ai n)).put (some 7) (ai k))) (fun k=>k≤n) (fun k=>n-k) 0 (Nat.zero_le _) ?_
 rintro k L1 hk
 refine bJ ?_
 refine an rfl (fun h8r h8=>?_) (fun h8r h8=>?_)
 ·have hkn:k<n:=by omega
  have ek2:((((k+1+1:Nat)):Int)-2)=(k:Int):=by omega
  refine cx ?_
  refine aK rfl (.app (news:=[gi 1]) rfl rfl rfl rfl rfl (by simp [ef]) (.inl rfl) (by decide) Tryz.underlying239 Tryz.underlying239 Z2 T2 rfl B2 (.inl ⟨10,0,_,rfl,by decide,rfl,rfl,by simp,rfl,rfl⟩) (by simp;omega) (by simp;omega) (by decide)) ?_
  refine bw ?_
  refine aY (aP.kill _ 10) ?_
  refine bV ?_
  refine ik (fun(i:Nat) (o:List Int) L=>(((((St.mk L.slot (hp [(11,⟨1,o.map gi,true⟩)])).put (some 3) (.ref 11 1 0 (k+1+1))).put (some 4) (ai i)).put (some 6) (ai n)).put (some 7) (ai k))) (fun i o=>i≤k∧wN k i o) (fun i o=>i) k (iy k++[1]) ⟨Nat.le_refl _,yM k⟩ ?_
  rintro i o L2 ⟨hi,hP⟩
  refine bV ?_
  refine an rfl (fun h16r h16=>?_) (fun h16r h16=>?_)
  ·obtain⟨j,rfl⟩:∃ j,i=j+1:=⟨i-1,by omega⟩
   have ek1:(((j+1:Nat):Int)-1)=(j:Int):=by omega
   have hol:=hP.1
   have hb1:=zo hP (by omega) (x:=j+1) (by omega)
   have hb2:=zo hP (by omega) (x:=j) (by omega)
   refine bw ?_
   refine au 11 (by decide +kernel) ?_
   refine tz ?_
   exact gk j (o.set (j+1) (o.getD (j+1) 0+o.getD j 0)) ⟨by omega,yE hP hi⟩
  ·obtain rfl:i=0:=by omega
   have hE:=Bx hP
   subst hE
   refine bD ?_
   exact fA (k+1) (by omega)
 ·obtain rfl:n=k:=by omega
  refine bE ?_
  exact fM [11] rfl rfl (bg kB rfl rfl (by rw [ef]))
open H0 in
theorem kL (U V:Nat) (c:List Rat) (hc:c.length=(U+1)*(V+1)) (hl:c.length≤1048576):ap Tryz.prog 212 [.agg [ai U,ai V,.list 3 (c.map ratL)]] (bL true):=by
 have hU:U+1≤c.length:=by rw [hc];exact Nat.le_mul_of_pos_right _ (Nat.succ_pos V)
 have hV:V+1≤c.length:=by rw [hc];exact Nat.le_mul_of_pos_left _ (Nat.succ_pos U)
 have hnp:=aO U V c
 refine bS Tryz.func212 ?_
 refine bE ?_
 refine ab (ao (v:=true) rfl rfl ((decide_eq_true (by omega))) rfl) gI ?_
 refine ab (ao (v:=true) rfl rfl ((decide_eq_true (by omega))) rfl) fS ?_
 refine ab (ao (v:=true) rfl rfl ((decide_eq_true (by omega))) rfl) (.bin rfl rfl rfl) ?_
 refine ab rfl (.pickT rfl ((decide_eq_true (by omega)))) ?_
 refine aL ?_
 refine ab (ao (v:=true) rfl rfl ((decide_eq_true (by omega))) rfl) gI ?_
 refine ab (ao (v:=true) rfl rfl ((decide_eq_true (by omega))) rfl) fS ?_
 refine ab (ao (v:=true) rfl rfl ((decide_eq_true (by omega))) rfl) gI ?_
 refine ab (ao (v:=true) rfl rfl ((decide_eq_true (by omega))) rfl) fS ?_
 refine ab (ao (v:=true) rfl rfl ((decide_eq_true (by omega))) rfl) vp ?_
 refine ab (ao (v:=true) rfl rfl ((decide_eq_true (by omega))) rfl) (.bin rfl rfl rfl) ?_
 refine ab rfl (.pickT rfl ((decide_eq_true (by omega)))) ?_
 refine aL ?_
 refine ab (ao (v:=true) rfl rfl ((decide_eq_true (by omega))) rfl) gI ?_
 refine ab (ao (v:=true) rfl rfl ((decide_eq_true (by omega))) rfl) fS ?_
 refine ab (ao (v:=true) rfl rfl ((decide_eq_true (by omega))) rfl) gI ?_
 refine ab (ao (v:=true) rfl rfl ((decide_eq_true (by omega))) rfl) fS ?_
 refine ab (ao (v:=true) rfl rfl ((decide_eq_true (by omega))) rfl) vp ?_
 refine ab (ao (v:=true) rfl rfl ((decide_eq_true (by omega))) rfl) (.bin rfl rfl rfl) ?_
 refine ab rfl (.pickT rfl ((decide_eq_true (by omega)))) ?_
 refine aL ?_
 refine ab (ao (v:=true) rfl rfl ((decide_eq_true (by omega))) rfl) gI ?_
 refine ab (ao (v:=true) rfl rfl ((decide_eq_true (by omega))) rfl) fS ?_
 refine ab (ao (v:=true) rfl rfl ((decide_eq_true (by omega))) rfl) vp ?_
 refine ab (ao (v:=true) rfl rfl ((decide_eq_true (by omega))) rfl) gI ?_
 refine ab (ao (v:=true) rfl rfl ((decide_eq_true (by omega))) rfl) fS ?_
 refine ab (ao (v:=true) rfl rfl ((decide_eq_true (by omega))) rfl) (.bin rfl rfl (a9 (by omega))) ?_
 refine ab (ao (v:=true) rfl rfl ((decide_eq_true (by omega))) rfl) gI ?_
 refine ab (ao (v:=true) rfl rfl ((decide_eq_true (by omega))) rfl) fS ?_
 refine ab (ao (v:=true) rfl rfl ((decide_eq_true (by omega))) rfl) (.bin rfl rfl (a9 (by omega))) ?_
 refine ab (ao (v:=true) rfl rfl ((decide_eq_true (by omega))) rfl) (.bin rfl rfl (oQ hc.symm (by omega))) ?_
 refine ab (ao (v:=true) rfl rfl ((decide_eq_true (by omega))) rfl) (.bin rfl rfl rfl) ?_
 refine ab rfl (.pickT rfl ((decide_eq_true (by omega)))) ?_
 refine bw ?_
 refine aS (x:=.v (.bool (((c.length:Nat):Int)==((c.length:Nat):Int)))) rfl ?_
 rw [beq_self_eq_true]
 exact .pure rfl
namespace MD
theorem bQ {p q:Prop} (k:q) (e:p=q:=by simp only [e1,e2,e3,e4,p1,p2,p3,q1,q2,q3,l1,t0,t1,r1,r2,r3,r4,Nat.zero_add,Nat.reduceMul,Nat.reduceAdd,b1,b2,b3,b4,b5,b6,i1,i2,i3,i4,i5,i6,Nat.reduceBEq,dU,Dn,ef,egu,egv,ewn,Nat.add_zero,p5,aQ,bo,aW,List.length_cons,List.length_nil,ae kB,ae ah,ax,aC,LV.kill,aH];exact rfl):p:=e.mpr k
end MD
open MD in
theorem oc (U V:Nat) (c:List Rat) (hc:c.length=(U+1)*(V+1)) (hl:c.length≤1048576) (hU4:U≤40) (hV4:V≤40) (R:Nat) (hR1:1≤R) (hR:R≤1073741824) (hcR:∀ x∈c,rl x≤R):ap Tryz.prog 265 [.agg [ai U,ai V,.list 3 (c.map ratL)]] (.list 3 ((jb U V c).map ratL)):=by
 have hU:U+1≤c.length:=by rw [hc];exact Nat.le_mul_of_pos_right _ (Nat.succ_pos V)
 have hV:V+1≤c.length:=by rw [hc];exact Nat.le_mul_of_pos_left _ (Nat.succ_pos U)
 have hnp:=aO U V c
 refine bS Tryz.func265 ?_
 have egu:True:=trivial
 have egv:True:=trivial
 have ewn:True:=trivial
 refine en ?_
 refine cp bK (jZ V hV4) ?_
 refine cx ?_
 refine cp bK (jZ U hU4) ?_
 refine ca ?_
 refine cN (aP.own (t:=3) 47 3 rfl rfl) ?_
 refine ik (fun(i m:Nat) L=>(((((((St.mk L.slot (hp [(1,⟨3,[.agg [ai U,ai V,.list 3 (c.map ratL)]],true⟩),(47,⟨3,(gL m (yj U V c)).map ratL,true⟩)])).put (some 1) (.eptr 1 3 0 0)).put (some 4) (.list 1 ((iy V).map gi))).put (some 14) (.list 1 ((iy U).map gi))).put (some 15) (ai (U+1))).put (some 16) (ai i)).put (some 3) (.ref 47 3 0 m))) (fun i m=>i≤U+1∧i*(V+1)=m) (fun i m=>U+1-i) 0 0 ⟨Nat.zero_le _,Nat.zero_mul _⟩ ?_
 rintro i m L1 ⟨hi,hm⟩
 refine bJ ?_
 refine an rfl (fun h17r h17=>?_) (fun h17r h17=>?_)
 ·have hi2:i≤U:=by omega
  have egu:=iA hi2
  have hcu:=ky i hU4
  refine tz ?_
  refine gE (fun(j:Nat) L=>((((((((((((St.mk L.slot (hp [(1,⟨3,[.agg [ai U,ai V,.list 3 (c.map ratL)]],true⟩),(47,⟨3,(gL (m+j) (yj U V c)).map ratL,true⟩)])).put (some 1) (.eptr 1 3 0 0)).put (some 4) (.list 1 ((iy V).map gi))).put (some 14) (.list 1 ((iy U).map gi))).put (some 15) (ai (U+1))).put (some 16) (ai i)).put (some 3) (.ref 47 3 0 (m+j))).put (some 5) (ai i)).put (some 6) (ai (fX U i))).put (some 21) (.list 1 ((iy V).map gi))).put (some 22) (ai (V+1))).put (some 23) (ai j))) (fun j=>j≤V+1) (fun j=>V+1-j) 0 (Nat.zero_le _) ?_
  rintro j L2 hj
  refine bJ ?_
  refine an rfl (fun h24r h24=>?_) (fun h24r h24=>?_)
  ·have hj2:j≤V:=by omega
   have egv:=iA hj2
   have hcv:=ky j hV4
   have hix:=iZ hi2 hj2
   rw [hm,←hc] at hix
   have hgl:=d8 (m+j) (yj U V c)
   have ewn:gL (m+(j+1)) (yj U V c)=gL (m+j) (yj U V c)++[(((fX U i:Nat):Int):Rat)*(((fX V j:Nat):Int):Rat)*c.getD (m+j) 0]:=by rw [←Nat.add_assoc,mO,yj,←hm,jp hj2,jA hj2]
   have hr1:=jH i hU4
   have hr2:=jH j hV4
   have hr3:=cY hR1 hcR (m+j)
   have hr4:=bA (((fX U i:Nat):Int):Rat) (((fX V j:Nat):Int):Rat)
   refine ct ?_
   refine au 19 (by decide +kernel) ?_
   refine bG ?_
   refine cp bK (kr ((fX U i:Nat):Int) (by omega) (by omega)) ?_
   refine aL ?_
   refine cp bK (kr ((fX V j:Nat):Int) (by omega) (by omega)) ?_
   refine cp bf (dc (((fX U i:Nat):Int):Rat) (((fX V j:Nat):Int):Rat) (by omega)) ?_
   refine ca ?_
   refine ab rfl (.bin rfl rfl (a9 (by omega))) ?_
   refine ab rfl (.bin rfl rfl (oQ hm (by omega))) ?_
   refine aL ?_
   refine ab rfl (.bin rfl rfl (gf (by omega))) ?_
   refine bG ?_
   refine cp bf (dc ((((fX U i:Nat):Int):Rat)*(((fX V j:Nat):Int):Rat)) (c.getD (m+j) 0) (by omega)) ?_
   refine aL ?_
   refine aK rfl (.app (news:=[ratL ((((fX U i:Nat):Int):Rat)*(((fX V j:Nat):Int):Rat)*c.getD (m+j) 0)]) rfl rfl rfl rfl rfl (by simp [d8]) (.inl rfl) (by decide) Tryz.underlying36 Tryz.underlying36 cz bF rfl f3 (.inl ⟨46,0,_,rfl,by decide,rfl,rfl,by simp,rfl,by simp [aD,ah.pure]⟩) (by simp;omega) (by simp;omega) (by decide)) ?_
   refine bw ?_
   refine aY (aP.kill _ 46) ?_
   refine bw ?_
   exact fA (j+1) (by omega)
  ·obtain rfl:j=V+1:=by omega
   refine bD ?_
   exact gk (i+1) (m+(V+1)) ⟨by omega,by rw [Nat.succ_mul];omega⟩
 ·obtain rfl:i=U+1:=by omega
  have hE:gL m (yj U V c)=jb U V c:=by rw [←hm];rfl
  refine bE ?_
  rw [←hE]
  exact fM [47] rfl rfl (bg ah rfl rfl (by rw [d8]))
namespace LR
theorem bQ {p q:Prop} (k:q) (e:p=q:=by simp only [e1,e2,e3,e4,p1,p2,p3,q1,q2,q3,l1,t0,t1,r1,r2,r3,r4,Nat.zero_add,Nat.reduceMul,Nat.reduceAdd,b1,b2,b3,b4,b5,b6,i1,i2,i3,i4,i5,i6,Nat.reduceBEq,dU,esw,Rat.add_zero,Nat.add_zero,p5,aQ,bo,aW,List.length_cons,List.length_nil,ae kB,ae ah,ax,aC,LV.kill,aH];exact rfl):p:=e.mpr k
end LR
open LR in
theorem tW (U V:Nat) (c:List Rat) (hc:c.length=(U+1)*(V+1)) (hl:c.length≤1048576) (hcR:∀ x∈c,rl x≤274877906944):ap Tryz.prog 200 [.agg [ai U,ai V,.list 3 (c.map ratL)]] (.agg [ai V,ai U,.list 3 ((iX U V c).map ratL)]):=by
 have hU:U+1≤c.length:=by rw [hc];exact Nat.le_mul_of_pos_right _ (Nat.succ_pos V)
 have hV:V+1≤c.length:=by rw [hc];exact Nat.le_mul_of_pos_left _ (Nat.succ_pos U)
 have hnp:=aO U V c
 refine bS Tryz.func200 (ht:=(fun g=>LV.ren_pure g _ (aO _ _ _))) ?_
 have esw:True:=trivial
 refine tz ?_
 refine cp bK (kL U V c hc hl) ?_
 refine bD ?_
 refine ab rfl (.bin rfl rfl (a9 (by omega))) ?_
 refine bw ?_
 refine cN ((aP.cell 3 rfl (fun Z μ w cs h=>iQ 43 3 _ _ Z μ w cs h)).trans (aP.newB _ 43 3 rfl)) ?_
 refine ik (fun(j m:Nat) L=>((((((St.mk L.slot (hp [(1,⟨3,[.agg [ai U,ai V,.list 3 (c.map ratL)]],true⟩),(2,⟨3,[.agg [.v (.int .i64 0),.v (.int .i64 0),.v (.slice none 0 0)]],true⟩),(3,⟨3,[.agg [ai V,ai U,.ref 43 3 0 m]],true⟩),(43,⟨3,(gL m (BB U V c)).map ratL,true⟩)])).put (some 1) (.eptr 1 3 0 0)).put (some 2) (.eptr 2 3 0 0)).put (some 3) (.eptr 3 3 0 0)).put (some 17) (ai (V+1))).put (some 18) (ai j))) (fun j m=>j≤V+1∧j*(U+1)=m) (fun j m=>V+1-j) 0 0 ⟨Nat.zero_le _,Nat.zero_mul _⟩ ?_
 rintro j m L1 ⟨hj,hm⟩
 refine bJ ?_
 refine an rfl (fun h19r h19=>?_) (fun h19r h19=>?_)
 ·have hj2:j≤V:=by omega
  refine dI ?_
  refine ab rfl (.bin rfl rfl (a9 (by omega))) ?_
  refine bw ?_
  refine gE (fun(i:Nat) L=>(((((((((St.mk L.slot (hp [(1,⟨3,[.agg [ai U,ai V,.list 3 (c.map ratL)]],true⟩),(2,⟨3,[.agg [.v (.int .i64 0),.v (.int .i64 0),.v (.slice none 0 0)]],true⟩),(3,⟨3,[.agg [ai V,ai U,.ref 43 3 0 (m+i)]],true⟩),(43,⟨3,(gL (m+i) (BB U V c)).map ratL,true⟩)])).put (some 1) (.eptr 1 3 0 0)).put (some 2) (.eptr 2 3 0 0)).put (some 3) (.eptr 3 3 0 0)).put (some 17) (ai (V+1))).put (some 18) (ai j)).put (some 4) (ai j)).put (some 23) (ai (U+1))).put (some 24) (ai i))) (fun i=>i≤U+1) (fun i=>U+1-i) 0 (Nat.zero_le _) ?_
  rintro i L2 hi
  refine bJ ?_
  refine an rfl (fun h25r h25=>?_) (fun h25r h25=>?_)
  ·have hi2:i≤U:=by omega
   have hmi:=iZ (U:=V) (V:=U) hj2 hi2
   rw [hm,Nat.mul_comm,←hc] at hmi
   have hix:=iZ hi2 hj2
   rw [←hc] at hix
   have hgl:=d8 (m+i) (BB U V c)
   have esw:gL (m+(i+1)) (BB U V c)=gL (m+i) (BB U V c)++[c.getD (i*(V+1)+j) 0]:=by rw [←Nat.add_assoc,mO,BB,←hm,jp hi2,jA hi2]
   have hr1:=hcR _ (bi (i:=i*(V+1)+j) hix)
   refine bv ?_
   refine au 16 (by decide +kernel) ?_
   refine bV ?_
   refine ab rfl (.bin rfl rfl (a9 (by omega))) ?_
   refine ab rfl (.bin rfl rfl (oQ rfl (by omega))) ?_
   refine aL ?_
   refine ab rfl (.bin rfl rfl (gf (by omega))) ?_
   refine bG ?_
   refine ab rfl (.build0 lU cz) ?_
   refine cp bf (gh (c.getD (i*(V+1)+j) 0) 0 (by rw [show rl 0=1 from rfl];omega)) ?_
   refine aL ?_
   refine aK rfl (.app (news:=[ratL (c.getD (i*(V+1)+j) 0+0)]) rfl rfl rfl rfl rfl (by simp [d8]) (.inl rfl) (by decide) Tryz.underlying36 Tryz.underlying36 cz bF rfl f3 (.inl ⟨42,0,_,rfl,by decide,rfl,rfl,by simp,rfl,by simp [aD,ah.pure]⟩) (by simp;omega) (by simp;omega) (by decide)) ?_
   refine ca ?_
   refine aY (aP.kill _ 42) ?_
   refine bw ?_
   exact fA (i+1) (by omega)
  ·obtain rfl:i=U+1:=by omega
   refine bD ?_
   exact gk (j+1) (m+(U+1)) ⟨by omega,by rw [Nat.succ_mul];omega⟩
 ·obtain rfl:j=V+1:=by omega
  have hE:gL m (BB U V c)=iX U V c:=by rw [←hm];rfl
  refine bE ?_
  rw [←hE]
  exact b9 [43] rfl rfl rfl rfl rfl zT (.agg (.cons (.pure rfl) (.cons (.pure rfl) (.cons (bg ah rfl rfl (by rw [d8])) .nil))))
theorem AQ (W:Nat→Rat):gL 0 W=[]:=rfl
namespace LS
theorem bQ {p q:Prop} (k:q) (e:p=q:=by simp only [e1,e2,e3,e4,p1,p2,p3,q1,q2,q3,l1,t0,t1,r1,r2,r3,r4,Nat.zero_add,Nat.reduceMul,Nat.reduceAdd,b1,b2,b3,b4,b5,b6,i1,i2,i3,i4,i5,i6,Nat.reduceBEq,dq,dU,Dn,ef,egu,egv,Nat.add_zero,egd,esd,List.length_set,ae kB,ae ah,ax,aC,LV.kill,aH];exact rfl):p:=e.mpr k
theorem kC {p q:Prop} (k:q) (e:p=q:=by simp only [e1,e2,e3,e4,p1,p2,p3,q1,q2,q3,l1,t0,t1,r1,r2,r3,r4,Nat.zero_add,Nat.reduceMul,Nat.reduceAdd,b1,b2,b3,b4,b5,b6,i1,i2,i3,i4,i5,i6,Nat.reduceBEq,dq,dU,Dn,ef,egu,egv,Nat.add_zero,egd,esd,List.length_set,ae kB,ae ah,ax,aC,LV.kill,aH,AQ,List.nil_append,List.drop_zero];exact rfl):p:=e.mpr k
theorem re {p:Prop} (h:p:=by first | rfl | (refine kC ?_;first | exact trivial | rfl | (congr 3<;>omega) | (congr 2<;>omega))):p:=h
end LS
open LS in
theorem Al (U1 V1 U2 V2:Nat) (a b:List Rat) (ha:a.length=(U1+1)*(V1+1)) (hb:b.length=(U2+1)*(V2+1)) (hal:a.length≤1048576) (hbl:b.length≤1048576) (hu:U1+U2≤40) (hv:V1+V2≤40) (R:Nat) (hR1:1≤R) (hR:R≤1000000) (hK:(U1+1)*((V1+1)*((U2+1)*((V2+1)*(2*R+14))))≤10000000000) (haR:∀ x∈a,rl x≤R) (hbR:∀ x∈b,rl x≤R):ap Tryz.prog 211 [.agg [ai U1,ai V1,.list 3 (a.map ratL)],.agg [ai U2,ai V2,.list 3 (b.map ratL)]] (.tup [.agg [ai (U1+U2),ai (V1+V2),.list 3 ((lp U1 V1 U2 V2 a b).map ratL)],iL 0]):=by
 have hA1:U1+1≤a.length:=by rw [ha];exact Nat.le_mul_of_pos_right _ (Nat.succ_pos V1)
 have hA2:V1+1≤a.length:=by rw [ha];exact Nat.le_mul_of_pos_left _ (Nat.succ_pos U1)
 have hB1:U2+1≤b.length:=by rw [hb];exact Nat.le_mul_of_pos_right _ (Nat.succ_pos V2)
 have hB2:V2+1≤b.length:=by rw [hb];exact Nat.le_mul_of_pos_left _ (Nat.succ_pos U2)
 have hnp1:=aO U1 V1 a
 have hnp2:=aO U2 V2 b
 have hT:((U1+U2+1)*(V1+V2+1))≤1681:=Nat.le_trans (Nat.mul_le_mul (show U1+U2+1≤41 by omega) (show V1+V2+1≤41 by omega)) (by decide)
 have hwa:=Cy (U:=U1) (V:=V1) (c:=a) (by omega) (by omega) hR1 haR
 have hwb:=Cy (U:=U2) (V:=V2) (c:=b) (by omega) (by omega) hR1 hbR
 have hwal:(jb U1 V1 a).length=a.length:=by rw [jb,d8,ha]
 have hwbl:(jb U2 V2 b).length=b.length:=by rw [jb,d8,hb]
 obtain⟨z1,hz1⟩:∃ z1,(V2+1)*(2*R+14)=z1:=⟨_,rfl⟩
 obtain⟨z2,hz2⟩:∃ z2,(U2+1)*z1=z2:=⟨_,rfl⟩
 obtain⟨z3,hz3⟩:∃ z3,(V1+1)*z2=z3:=⟨_,rfl⟩
 have hq1:z1≤z2:=by rw [←hz2];exact Nat.le_mul_of_pos_left _ (Nat.succ_pos _)
 have hq2:z2≤z3:=by rw [←hz3];exact Nat.le_mul_of_pos_left _ (Nat.succ_pos _)
 have hq3:z3≤(U1+1)*z3:=Nat.le_mul_of_pos_left _ (Nat.succ_pos _)
 have hq5:(U1+1)*z3≤10000000000:=by rw [←hz3,←hz2,←hz1];exact hK
 refine bS Tryz.func211 (ht:=(fv (aO _ _ _) rfl)) ?_
 have egu:True:=trivial
 have egv:True:=trivial
 have egd:True:=trivial
 have esd:True:=trivial
 refine dI ?_
 refine ab rfl (.bin rfl rfl (gf (by omega))) ?_
 refine bw ?_
 refine ab rfl (.bin rfl rfl (gf (by omega))) ?_
 refine bE ?_
 refine ab (ao (v:=false) rfl rfl ((decide_eq_false (by omega))) rfl) gI ?_
 refine ab (ao (v:=false) rfl rfl ((decide_eq_false (by omega))) rfl) fS ?_
 refine ab (ao (v:=false) rfl rfl ((decide_eq_false (by omega))) rfl) (.bin rfl rfl rfl) ?_
 refine ab rfl (.pickF rfl ((decide_eq_false (by omega)))) ?_
 refine bG ?_
 refine bb (b:=_) rfl (decide_eq_false (by omega)) ?_
 refine bJ ?_
 refine cp bK (kL U1 V1 a ha hal) ?_
 refine bx ?_
 refine cp bK (kL U2 V2 b hb hbl) ?_
 refine bD ?_
 refine ab rfl (.bin rfl rfl (a9 (by omega))) ?_
 refine bG ?_
 refine ab rfl (.bin rfl rfl (a9 (by omega))) ?_
 refine ab rfl (.bin rfl rfl (oQ rfl (by omega))) ?_
 refine bM rfl rfl (.mkE (n:=((U1+U2+1)*(V1+V2+1))) (m:=((U1+U2+1)*(V1+V2+1))) ml ml om om om) ?_
 refine ca ?_
 refine au 6 (by decide +kernel) ?_
 refine aL ?_
 refine cp bK (oc U1 V1 a ha hal (by omega) (by omega) R hR1 (by omega) haR) ?_
 refine aL ?_
 refine cp bK (oc U2 V2 b hb hbl (by omega) (by omega) R hR1 (by omega) hbR) ?_
 refine cg ?_
 refine ab rfl (.bin rfl rfl (a9 (by omega))) ?_
 refine bw ?_
 refine ik (fun(i:Nat) (oI:List Rat) L=>(((((((((St.mk L.slot (hp [(2,⟨3,[.agg [ai U1,ai V1,.list 3 (a.map ratL)]],true⟩),(3,⟨3,[.agg [ai U2,ai V2,.list 3 (b.map ratL)]],true⟩),(4,⟨3,[.agg [.v (.int .i64 0),.v (.int .i64 0),.v (.slice none 0 0)]],true⟩),(6,⟨3,[.agg [ai (U1+U2),ai (V1+V2),.ref 55 3 0 ((U1+U2+1)*(V1+V2+1))]],true⟩),(55,⟨3,oI.map ratL,true⟩)])).put (some 2) (.eptr 2 3 0 0)).put (some 3) (.eptr 3 3 0 0)).put (some 4) (.eptr 4 3 0 0)).put (some 6) (.eptr 6 3 0 0)).put (some 7) (.list 3 ((jb U1 V1 a).map ratL))).put (some 8) (.list 3 ((jb U2 V2 b).map ratL))).put (some 63) (ai (U1+1))).put (some 64) (ai i))) (fun i oI=>i≤U1+1∧oI=mI V1 V2 (V1+V2) U2 (jb U1 V1 a) (jb U2 V2 b) i (List.replicate ((U1+U2+1)*(V1+V2+1)) 0)∧oI.length=((U1+U2+1)*(V1+V2+1))∧∀ x∈oI,rl x≤1+i*z3) (fun i oI=>U1+1-i) 0 (List.replicate ((U1+U2+1)*(V1+V2+1)) 0) ⟨Nat.zero_le _,rfl,by simp,fun x hx=>by rw [(List.mem_replicate.1 hx).2];exact Nat.le_add_right 1 _⟩ ?_
 rintro i oI L1 ⟨hi,hoI,hlI,hrI⟩
 refine bJ ?_
 refine an rfl (fun h65r h65=>?_) (fun h65r h65=>?_)
 ·have hi2:i≤U1:=by omega
  have hi3:i*z3+z3≤(U1+1)*z3:=by rw [←Nat.succ_mul];exact Nat.mul_le_mul_right _ (by omega)
  refine dI ?_
  refine ab rfl (.bin rfl rfl (a9 (by omega))) ?_
  refine bw ?_
  refine ik (fun(j:Nat) (oJ:List Rat) L=>((((((((((((St.mk L.slot (hp [(2,⟨3,[.agg [ai U1,ai V1,.list 3 (a.map ratL)]],true⟩),(3,⟨3,[.agg [ai U2,ai V2,.list 3 (b.map ratL)]],true⟩),(4,⟨3,[.agg [.v (.int .i64 0),.v (.int .i64 0),.v (.slice none 0 0)]],true⟩),(6,⟨3,[.agg [ai (U1+U2),ai (V1+V2),.ref 55 3 0 ((U1+U2+1)*(V1+V2+1))]],true⟩),(55,⟨3,oJ.map ratL,true⟩)])).put (some 2) (.eptr 2 3 0 0)).put (some 3) (.eptr 3 3 0 0)).put (some 4) (.eptr 4 3 0 0)).put (some 6) (.eptr 6 3 0 0)).put (some 7) (.list 3 ((jb U1 V1 a).map ratL))).put (some 8) (.list 3 ((jb U2 V2 b).map ratL))).put (some 63) (ai (U1+1))).put (some 64) (ai i)).put (some 9) (ai i)).put (some 69) (ai (V1+1))).put (some 70) (ai j))) (fun j oJ=>j≤V1+1∧oJ=mJ V1 V2 (V1+V2) U2 (jb U1 V1 a) (jb U2 V2 b) i j oI∧oJ.length=((U1+U2+1)*(V1+V2+1))∧∀ x∈oJ,rl x≤1+i*z3+j*z2) (fun j oJ=>V1+1-j) 0 oI ⟨Nat.zero_le _,rfl,hlI,fun x hx=>by rw [Nat.zero_mul];exact hrI x hx⟩ ?_
  rintro j oJ L2 ⟨hj,hoJ,hlJ,hrJ⟩
  refine bJ ?_
  refine an rfl (fun h71r h71=>?_) (fun h71r h71=>?_)
  ·have hj2:j≤V1:=by omega
   have hj3:j*z2+z2≤z3:=by rw [←Nat.succ_mul,←hz3];exact Nat.mul_le_mul_right _ (by omega)
   refine dI ?_
   refine ab rfl (.bin rfl rfl (a9 (by omega))) ?_
   refine bw ?_
   refine ik (fun(k:Nat) (oK:List Rat) L=>(((((((((((((((St.mk L.slot (hp [(2,⟨3,[.agg [ai U1,ai V1,.list 3 (a.map ratL)]],true⟩),(3,⟨3,[.agg [ai U2,ai V2,.list 3 (b.map ratL)]],true⟩),(4,⟨3,[.agg [.v (.int .i64 0),.v (.int .i64 0),.v (.slice none 0 0)]],true⟩),(6,⟨3,[.agg [ai (U1+U2),ai (V1+V2),.ref 55 3 0 ((U1+U2+1)*(V1+V2+1))]],true⟩),(55,⟨3,oK.map ratL,true⟩)])).put (some 2) (.eptr 2 3 0 0)).put (some 3) (.eptr 3 3 0 0)).put (some 4) (.eptr 4 3 0 0)).put (some 6) (.eptr 6 3 0 0)).put (some 7) (.list 3 ((jb U1 V1 a).map ratL))).put (some 8) (.list 3 ((jb U2 V2 b).map ratL))).put (some 63) (ai (U1+1))).put (some 64) (ai i)).put (some 9) (ai i)).put (some 69) (ai (V1+1))).put (some 70) (ai j)).put (some 10) (ai j)).put (some 75) (ai (U2+1))).put (some 76) (ai k))) (fun k oK=>k≤U2+1∧oK=mK V1 V2 (V1+V2) (jb U1 V1 a) (jb U2 V2 b) i j k oJ∧oK.length=((U1+U2+1)*(V1+V2+1))∧∀ x∈oK,rl x≤1+i*z3+j*z2+k*z1) (fun k oK=>U2+1-k) 0 oJ ⟨Nat.zero_le _,rfl,hlJ,fun x hx=>by rw [Nat.zero_mul];exact hrJ x hx⟩ ?_
   rintro k oK L3 ⟨hk,hoK,hlK,hrK⟩
   refine bJ ?_
   refine an rfl (fun h77r h77=>?_) (fun h77r h77=>?_)
   ·have hk2:k≤U2:=by omega
    have hk3:k*z1+z1≤z2:=by rw [←Nat.succ_mul,←hz2];exact Nat.mul_le_mul_right _ (by omega)
    refine dI ?_
    refine ab rfl (.bin rfl rfl (a9 (by omega))) ?_
    refine bw ?_
    refine ik (fun(l:Nat) (o:List Rat) L=>((((((((((((((((((St.mk L.slot (hp [(2,⟨3,[.agg [ai U1,ai V1,.list 3 (a.map ratL)]],true⟩),(3,⟨3,[.agg [ai U2,ai V2,.list 3 (b.map ratL)]],true⟩),(4,⟨3,[.agg [.v (.int .i64 0),.v (.int .i64 0),.v (.slice none 0 0)]],true⟩),(6,⟨3,[.agg [ai (U1+U2),ai (V1+V2),.ref 55 3 0 ((U1+U2+1)*(V1+V2+1))]],true⟩),(55,⟨3,o.map ratL,true⟩)])).put (some 2) (.eptr 2 3 0 0)).put (some 3) (.eptr 3 3 0 0)).put (some 4) (.eptr 4 3 0 0)).put (some 6) (.eptr 6 3 0 0)).put (some 7) (.list 3 ((jb U1 V1 a).map ratL))).put (some 8) (.list 3 ((jb U2 V2 b).map ratL))).put (some 63) (ai (U1+1))).put (some 64) (ai i)).put (some 9) (ai i)).put (some 69) (ai (V1+1))).put (some 70) (ai j)).put (some 10) (ai j)).put (some 75) (ai (U2+1))).put (some 76) (ai k)).put (some 11) (ai k)).put (some 81) (ai (V2+1))).put (some 82) (ai l))) (fun l o=>l≤V2+1∧o=mL V1 V2 (V1+V2) (jb U1 V1 a) (jb U2 V2 b) i j k l oK∧o.length=((U1+U2+1)*(V1+V2+1))∧∀ x∈o,rl x≤1+i*z3+j*z2+k*z1+l*(2*R+14)) (fun l o=>V2+1-l) 0 oK ⟨Nat.zero_le _,rfl,hlK,fun x hx=>by rw [Nat.zero_mul];exact hrK x hx⟩ ?_
    rintro l o L4 ⟨hl,ho,hlL,hrL⟩
    refine bJ ?_
    refine an rfl (fun h83r h83=>?_) (fun h83r h83=>?_)
    ·have hl2:l≤V2:=by omega
     have hl3:l*(2*R+14)+(2*R+14)≤z1:=by rw [←Nat.succ_mul,←hz1];exact Nat.mul_le_mul_right _ (by omega)
     have hx1:=iZ (U:=U1+U2) (V:=V1+V2) (i:=i+k) (j:=j+l) (by omega) (by omega)
     have hx2:=iZ hi2 hj2
     have hx3:=iZ hk2 hl2
     rw [←ha] at hx2
     rw [←hb] at hx3
     have hr1:=cY (S:=R+6) (by omega) hwa (i*(V1+1)+j)
     have hr2:=cY (S:=R+6) (by omega) hwb (k*(V2+1)+l)
     have hr3:=cY (by omega) hrL ((i+k)*(V1+V2+1)+j+l)
     have hr4:=bA ((jb U1 V1 a).getD (i*(V1+1)+j) 0) ((jb U2 V2 b).getD (k*(V2+1)+l) 0)
     have hr5:=dF (o.getD ((i+k)*(V1+V2+1)+j+l) 0) ((jb U1 V1 a).getD (i*(V1+1)+j) 0*(jb U2 V2 b).getD (k*(V2+1)+l) 0)
     refine dI ?_
     refine ab rfl (.bin rfl rfl (gf (by omega))) ?_
     refine bG ?_
     refine ab rfl (.bin rfl rfl (a9 (by omega))) ?_
     refine ab rfl (.bin rfl rfl (oQ rfl (by omega))) ?_
     refine aL ?_
     refine ab rfl (.bin rfl rfl (gf (by omega))) ?_
     refine aL ?_
     refine ab rfl (.bin rfl rfl (gf (by omega))) ?_
     refine bx ?_
     refine au 31 (by decide +kernel) ?_
     refine cx ?_
     try simp only [t1,dU,Nat.zero_add]
     refine bw ?_
     refine ab rfl (.bin rfl rfl (a9 (by omega))) ?_
     refine ab rfl (.bin rfl rfl (oQ rfl (by omega))) ?_
     refine aL ?_
     refine ab rfl (.bin rfl rfl (gf (by omega))) ?_
     refine bJ ?_
     refine ab rfl (.bin rfl rfl (a9 (by omega))) ?_
     refine ab rfl (.bin rfl rfl (oQ rfl (by omega))) ?_
     refine aL ?_
     refine ab rfl (.bin rfl rfl (gf (by omega))) ?_
     refine bG ?_
     refine cp bf (dc ((jb U1 V1 a).getD (i*(V1+1)+j) 0) ((jb U2 V2 b).getD (k*(V2+1)+l) 0) (by omega)) ?_
     refine cp bf (gh (o.getD ((i+k)*(V1+V2+1)+j+l) 0) ((jb U1 V1 a).getD (i*(V1+1)+j) 0*(jb U2 V2 b).getD (k*(V2+1)+l) 0) (by omega)) ?_
     refine bv ?_
     exact gk (l+1) (o.set ((i+k)*(V1+V2+1)+j+l) (o.getD ((i+k)*(V1+V2+1)+j+l) 0+(jb U1 V1 a).getD (i*(V1+1)+j) 0*(jb U2 V2 b).getD (k*(V2+1)+l) 0)) ⟨by omega,by rw [ho];rfl,by rw [List.length_set];exact hlL,xG (fun x hx=>by have:=hrL x hx;rw [Nat.succ_mul];omega) (by rw [Nat.succ_mul];omega)⟩
    ·obtain rfl:l=V2+1:=by omega
     refine bD ?_
     exact gk (k+1) o ⟨by omega,by rw [ho,hoK];rfl,hlL,fun x hx=>by have:=hrL x hx;rw [hz1] at this;rw [Nat.succ_mul];omega⟩
   ·obtain rfl:k=U2+1:=by omega
    rw [hz2] at hrK
    refine bD ?_
    exact gk (j+1) oK ⟨by omega,by rw [hoK,hoJ];rfl,hlK,fun x hx=>by have:=hrK x hx;rw [Nat.succ_mul];omega⟩
  ·obtain rfl:j=V1+1:=by omega
   rw [hz3] at hrJ
   refine bD ?_
   exact gk (i+1) oJ ⟨by omega,by rw [hoJ,hoI];rfl,hlJ,fun x hx=>by have:=hrJ x hx;rw [Nat.succ_mul];omega⟩
 ·obtain rfl:i=U1+1:=by omega
  have hOF:oI=(iG U1 V1 U2 V2 a b):=hoI
  clear hoI
  subst hOF
  refine bJ ?_
  refine au 8 (by decide +kernel) ?_
  refine bG ?_
  refine cp bK (jZ (U1+U2) hu) ?_
  refine bG ?_
  refine cp bK (jZ (V1+V2) hv) ?_
  refine ct ?_
  refine ik (fun(i m:Nat) L=>(((((((((St.mk L.slot (hp [(2,⟨3,[.agg [ai U1,ai V1,.list 3 (a.map ratL)]],true⟩),(3,⟨3,[.agg [ai U2,ai V2,.list 3 (b.map ratL)]],true⟩),(4,⟨3,[.agg [.v (.int .i64 0),.v (.int .i64 0),.v (.slice none 0 0)]],true⟩),(6,⟨3,[.agg [ai (U1+U2),ai (V1+V2),.ref 55 3 0 ((U1+U2+1)*(V1+V2+1))]],true⟩),(55,⟨3,(gL m (Ac (U1+U2) (V1+V2) (iG U1 V1 U2 V2 a b))++(iG U1 V1 U2 V2 a b).drop m).map ratL,true⟩)])).put (some 2) (.eptr 2 3 0 0)).put (some 3) (.eptr 3 3 0 0)).put (some 4) (.eptr 4 3 0 0)).put (some 6) (.eptr 6 3 0 0)).put (some 14) (.list 1 ((iy (U1+U2)).map gi))).put (some 15) (.list 1 ((iy (V1+V2)).map gi))).put (some 138) (ai (U1+U2+1))).put (some 139) (ai i))) (fun i m=>i≤U1+U2+1∧i*(V1+V2+1)=m) (fun i m=>U1+U2+1-i) 0 0 ⟨Nat.zero_le _,Nat.zero_mul _⟩ (h0:=⟨_,aP.of_eq (aa (aa (aa (aa (aa (aa (aa (aa (aJ re) re) re) re) re) re) re) re) re)⟩) ?_
  rintro i m L5 ⟨hi,hm⟩
  refine bJ ?_
  refine an rfl (fun h140r h140=>?_) (fun h140r h140=>?_)
  ·have hi2:i≤U1+U2:=by omega
   have egu:=iA hi2
   have hcu:=ky i hu
   refine je ?_
   refine gE (fun(j:Nat) L=>((((((((((((St.mk L.slot (hp [(2,⟨3,[.agg [ai U1,ai V1,.list 3 (a.map ratL)]],true⟩),(3,⟨3,[.agg [ai U2,ai V2,.list 3 (b.map ratL)]],true⟩),(4,⟨3,[.agg [.v (.int .i64 0),.v (.int .i64 0),.v (.slice none 0 0)]],true⟩),(6,⟨3,[.agg [ai (U1+U2),ai (V1+V2),.ref 55 3 0 ((U1+U2+1)*(V1+V2+1))]],true⟩),(55,⟨3,(gL (m+j) (Ac (U1+U2) (V1+V2) (iG U1 V1 U2 V2 a b))++(iG U1 V1 U2 V2 a b).drop (m+j)).map ratL,true⟩)])).put (some 2) (.eptr 2 3 0 0)).put (some 3) (.eptr 3 3 0 0)).put (some 4) (.eptr 4 3 0 0)).put (some 6) (.eptr 6 3 0 0)).put (some 14) (.list 1 ((iy (U1+U2)).map gi))).put (some 15) (.list 1 ((iy (V1+V2)).map gi))).put (some 138) (ai (U1+U2+1))).put (some 139) (ai i)).put (some 16) (ai i)).put (some 143) (ai (V1+V2+1))).put (some 144) (ai j))) (fun j=>j≤V1+V2+1) (fun j=>V1+V2+1-j) 0 (Nat.zero_le _) ?_
   rintro j L6 hj
   refine bJ ?_
   refine an rfl (fun h145r h145=>?_) (fun h145r h145=>?_)
   ·have hj2:j≤V1+V2:=by omega
    have egv:=iA hj2
    have hcv:=ky j hv
    have hix:=iZ hi2 hj2
    rw [hm] at hix
    have egd:=DB (W:=(Ac (U1+U2) (V1+V2) (iG U1 V1 U2 V2 a b))) (o:=(iG U1 V1 U2 V2 a b)) (m:=m+j)
    have hdv:(Ac (U1+U2) (V1+V2) (iG U1 V1 U2 V2 a b)) (m+j)=(iG U1 V1 U2 V2 a b).getD (m+j) 0/((((fX (U1+U2) i:Nat):Int):Rat)*(((fX (V1+V2) j:Nat):Int):Rat)):=by rw [Ac,←hm,jp hj2,jA hj2]
    have esd:=D7 (W:=(Ac (U1+U2) (V1+V2) (iG U1 V1 U2 V2 a b))) (o:=(iG U1 V1 U2 V2 a b)) (m:=m+j) (by omega) hdv.symm
    have hgl:(gL (m+j) (Ac (U1+U2) (V1+V2) (iG U1 V1 U2 V2 a b))++(iG U1 V1 U2 V2 a b).drop (m+j)).length=((U1+U2+1)*(V1+V2+1)):=by rw [List.length_append,d8,List.length_drop];omega
    have hr1:=jH i hu
    have hr2:=jH j hv
    have hr3:=cY (by omega) hrI (m+j)
    have hr4:=bA ((((fX (U1+U2) i:Nat):Int):Rat)) ((((fX (V1+V2) j:Nat):Int):Rat))
    refine en ?_
    refine ab rfl (.bin rfl rfl (a9 (by omega))) ?_
    refine ab rfl (.bin rfl rfl (oQ hm (by omega))) ?_
    refine aL ?_
    refine ab rfl (.bin rfl rfl (gf (by omega))) ?_
    refine bx ?_
    refine d7 24 [22] (by decide +kernel) ?_
    refine cx ?_
    try simp only [t1,dU,Nat.zero_add,egd]
    refine bw ?_
    try simp only [t1,Dn,Nat.zero_add,egu]
    refine cp bK (kr ((fX (U1+U2) i:Nat):Int) (by omega) (by omega)) ?_
    refine bw ?_
    try simp only [t1,Dn,Nat.zero_add,egv]
    refine cp bK (kr ((fX (V1+V2) j:Nat):Int) (by omega) (by omega)) ?_
    refine cp bf (dc ((((fX (U1+U2) i:Nat):Int):Rat)) ((((fX (V1+V2) j:Nat):Int):Rat)) (by omega)) ?_
    refine cp bf (qC ((iG U1 V1 U2 V2 a b).getD (m+j) 0) ((((fX (U1+U2) i:Nat):Int):Rat)*(((fX (V1+V2) j:Nat):Int):Rat)) (by omega)) ?_
    refine ct ?_
    exact fA (j+1) (by omega)
   ·obtain rfl:j=V1+V2+1:=by omega
    refine bD ?_
    exact gk (i+1) (m+(V1+V2+1)) ⟨by omega,by rw [Nat.succ_mul];omega⟩ (he:=aP.of_eq (aa (aa (aa (aa (aa (aa (aa (aa (aJ re) re) re) re) re) re) re) re) re))
  ·obtain rfl:i=U1+U2+1:=by omega
   have hE:(gL m (Ac (U1+U2) (V1+V2) (iG U1 V1 U2 V2 a b))++(iG U1 V1 U2 V2 a b).drop m)=lp U1 V1 U2 V2 a b:=by rw [←hm,List.drop_of_length_le (by omega),List.append_nil];rfl
   refine ct ?_
   rw [←hE]
   exact fG [55] rfl rfl rfl rfl rfl zT (.agg (.cons (.pure rfl) (.cons (.pure rfl) (.cons (bg ah rfl rfl (by rw [List.length_append,d8,List.length_drop];omega)) .nil)))) rfl (.pure rfl)
end Go.Proofs.YtfpdccbgngdhkaaGreat
namespace Go.Lg
theorem ru (b:Nat) (f:FuncId) (caps:List LV) (h:aD caps=true):(LV.clo f caps).kill b=.clo f caps:=LV.kill_pure b _ (by simpa [LV.pure] using h)
end Go.Lg
namespace Go.Proofs.YtfpdccbgngdhkaaGreat
open Go.Lg
def io (V:Nat) (c:List Rat) (i:Nat):List Rat:=(c.take ((i+1)*(V+1))).drop (i*(V+1))
theorem ym {U V i:Nat} {c:List Rat} (hc:c.length=(U+1)*(V+1)) (hi:i≤U):i*(V+1)+(V+1)≤c.length:=by
 rw [hc,←Nat.succ_mul];exact Nat.mul_le_mul_right _ (by omega)
theorem cq {U V i:Nat} {c:List Rat} (hc:c.length=(U+1)*(V+1)) (hi:i≤U):(io V c i).length=V+1:=by
 have:=ym hc hi
 unfold io
 rw [List.length_drop,List.length_take,Nat.succ_mul];omega
theorem fZ {V i:Nat} {c:List Rat} {x:Rat} (h:x∈io V c i):x∈c:=List.mem_of_mem_take (List.mem_of_mem_drop h)
theorem Bn {U V i j:Nat} {c:List Rat} (hc:c.length=(U+1)*(V+1)) (hi:i≤U) (hj:j≤V):(io V c i).getD j 0=c.getD (i*(V+1)+j) 0:=by
 have:=ym hc hi
 unfold io
 rw [iY,List.getD_eq_getElem?_getD,List.getElem?_take_of_lt (by rw [Nat.succ_mul];omega),←List.getD_eq_getElem?_getD]
def kt (g:List Rat→List Rat) (V:Nat) (c:List Rat):Nat→List Rat
 | 0=>[]
 | i+1=>kt g V c i++g (io V c i)
theorem gW {g:List Rat→List Rat} {V W U:Nat} {c:List Rat} (hg:∀ i,i≤U→(g (io V c i)).length=W+1):∀ n,n≤U+1→(kt g V c n).length=n*(W+1)
 | 0,_=>by rw [Nat.zero_mul];rfl
 | n+1,h=>by rw [kt,List.length_append,gW hg n (by omega),hg n (by omega),Nat.succ_mul]
theorem eE (U V:Nat) (c:List Rat):(iX U V c).length=(V+1)*(U+1):=d8 _ _
theorem xh {U V R:Nat} {c:List Rat} (hR:1≤R) (h:∀ x∈c,rl x≤R):∀ x∈iX U V c,rl x≤R:=by
 intro x hx
 obtain⟨i,_,rfl⟩:=List.mem_map.1 hx
 exact cY hR h _
def xY (U V:Nat) (c:List Rat) (v:Rat):List Rat:=kt (fun p=>[uI p v]) V c (U+1)
def qI (U V:Nat) (c:List Rat) (u:Rat):List Rat:=kt (fun p=>[uI p u]) U (iX U V c) (V+1)
theorem zK (U V:Nat) (c:List Rat) (v:Rat):(xY U V c v).length=U+1:=by
 have:=gW (g:=fun p=>[uI p v]) (V:=V) (W:=0) (U:=U) (c:=c) (fun i _=>rfl) (U+1) (Nat.le_refl _)
 rw [xY,this];omega
theorem kS (U V:Nat) (c:List Rat) (u:Rat):(qI U V c u).length=V+1:=by
 have:=gW (g:=fun p=>[uI p u]) (V:=U) (W:=0) (U:=V) (c:=iX U V c) (fun i _=>rfl) (V+1) (Nat.le_refl _)
 rw [qI,this];omega
def ja (U V:Nat) (c:List Rat) (u v:Rat):Rat:=uI (qI U V c u) v
def oH (U V:Nat) (c:List Rat):List Rat:=iX V (U-1) (kt fQ U (iX U V c) (V+1))
def oL (U V:Nat) (c:List Rat):List Rat:=kt fQ V c (U+1)
theorem xi {p:List Rat} {U:Nat} (h:p.length=U+1):(fQ p).length=U-1+1:=by rw [jf];split<;>omega
theorem CB {g:List Rat→List Rat} {V U R:Nat} {c:List Rat} (h:∀ i,i≤U→∀ x∈g (io V c i),rl x≤R):∀ {n:Nat},n≤U+1→∀ x∈kt g V c n,rl x≤R
 | 0,_,x,hx=>by cases hx
 | n+1,hn,x,hx=>by
  rcases List.mem_append.1 (show x∈kt g V c n++g (io V c n) from hx) with h1 | h1
  ·exact CB h (by omega) x h1
  ·exact h n (by omega) x h1
open H0 in
theorem DF (U V:Nat) (c:List Rat) (hc:c.length=(U+1)*(V+1)) (hl:c.length≤1048576) (i:Nat) (hi:i≤U):ap Tryz.prog 213 [.agg [ai U,ai V,.list 3 (c.map ratL)],ai i] (.list 3 ((io V c i).map ratL)):=by
 have hU:U+1≤c.length:=by rw [hc];exact Nat.le_mul_of_pos_right _ (Nat.succ_pos V)
 have hV:V+1≤c.length:=by rw [hc];exact Nat.le_mul_of_pos_left _ (Nat.succ_pos U)
 have hnp:=aO U V c
 have hri:=ym hc hi
 have hrs:(i+1)*(V+1)=i*(V+1)+(V+1):=Nat.succ_mul i (V+1)
 refine bS Tryz.func213 ?_
 refine ct ?_
 refine ab rfl (.bin rfl rfl (a9 (by omega))) ?_
 refine ab rfl (.bin rfl rfl (oQ rfl (by omega))) ?_
 refine aL ?_
 refine ab rfl (.bin rfl rfl (a9 (by omega))) ?_
 refine bG ?_
 refine ab rfl (.bin rfl rfl (a9 (by omega))) ?_
 refine ab rfl (.bin rfl rfl (oQ rfl (by omega))) ?_
 refine ab rfl (.sliceLb (a:=_) (h:=_) ah rfl Tryz.underlying36 bF rfl rfl (by omega) (by omega)) ?_
 refine bw ?_
 exact aS rfl (by first | exact .pure rfl | exact .pure (aG _) | exact .pure (ar _) | exact .pure (ah.pure _) | exact .pure (ak bB _ _) | exact .pure (ak ah _ _))
namespace Mt
theorem bQ {p q:Prop} (k:q) (e:p=q:=by simp only [e1,e2,e3,e4,p1,p2,p3,q1,q2,q3,l1,t0,t1,r1,r2,r3,r4,Nat.zero_add,Nat.reduceMul,Nat.reduceAdd,b1,b2,b3,b4,b5,b6,i1,i2,i3,i4,i5,i6,Nat.reduceBEq,dq,dU,ru _ _ _ hcp,ers,etk,elen,Nat.add_sub_cancel,List.length_map,ae ah,ax,aC,LV.kill,aH];exact rfl):p:=e.mpr k
theorem kC {p q:Prop} (k:q) (e:p=q:=by simp only [e1,e2,e3,e4,p1,p2,p3,q1,q2,q3,l1,t0,t1,r1,r2,r3,r4,Nat.zero_add,Nat.reduceMul,Nat.reduceAdd,b1,b2,b3,b4,b5,b6,i1,i2,i3,i4,i5,i6,Nat.reduceBEq,dq,dU,ru _ _ _ hcp,ers,etk,elen,Nat.add_sub_cancel,List.length_map,ae ah,ax,aC,LV.kill,aH,elen];exact rfl):p:=e.mpr k
theorem tL {p:Prop} (h:p:=by first | (refine kC ?_;exact rfl) | exact rfl):p:=h
end Mt
open Mt in
theorem qp (U V:Nat) (c:List Rat) (hc:c.length=(U+1)*(V+1)) (hl:c.length≤1048576) (f:Nat) (caps:List LV) (hcp:aD caps=true) (hcs:∀ x∈caps,x.csize=1∧x.isAgg=false) (g:List Rat→List Rat) (W:Nat) (hf:∀ i,i≤U→ap Tryz.prog f ([.list 3 ((io V c i).map ratL)]++caps) (.list 3 ((g (io V c i)).map ratL))) (hg:∀ i,i≤U→(g (io V c i)).length=W+1) (hW:(U+1)*(W+1)≤1048576):ap Tryz.prog 145 [.agg [ai U,ai V,.list 3 (c.map ratL)],.clo f caps] (.agg [ai U,ai W,.list 3 ((kt g V c (U+1)).map ratL)]):=by
 have hU:U+1≤c.length:=by rw [hc];exact Nat.le_mul_of_pos_right _ (Nat.succ_pos V)
 have hV:V+1≤c.length:=by rw [hc];exact Nat.le_mul_of_pos_left _ (Nat.succ_pos U)
 have hnp:=aO U V c
 have hW2:W+1≤(U+1)*(W+1):=Nat.le_mul_of_pos_left _ (Nat.succ_pos U)
 refine bS Tryz.func145 (ht:=(fun g=>LV.ren_pure g _ (aO _ _ _))) ?_
 have ers:True:=trivial
 have etk:True:=trivial
 have elen:True:=trivial
 refine ia ?_
 refine cp bK (kL U V c hc hl) ?_
 refine bD ?_
 refine ab rfl (.bin rfl rfl (a9 (by omega))) ?_
 refine bw ?_
 refine cN ((aP.cell 5 rfl (fun Z μ w cs h=>iQ 35 3 _ _ Z μ w cs h)).trans (aP.newB _ 35 3 rfl)) ?_
 refine tp (fun(i m v:Nat) L=>(((((((St.mk L.slot (hp [(2,⟨3,[.agg [ai U,ai V,.list 3 (c.map ratL)]],true⟩),(4,⟨3,[.agg [.v (.int .i64 0),.v (.int .i64 0),.v (.slice none 0 0)]],true⟩),(5,⟨3,[.agg [ai U,ai v,.ref 35 3 0 m]],true⟩),(35,⟨3,(kt g V c i).map ratL,true⟩)])).put (some 1) (.clo f caps)).put (some 2) (.eptr 2 3 0 0)).put (some 4) (.eptr 4 3 0 0)).put (some 5) (.eptr 5 3 0 0)).put (some 19) (ai (U+1))).put (some 20) (ai i))) (fun i m v=>i≤U+1∧i*(W+1)=m∧(i=0∨v=W)) (fun i m v=>U+1-i) 0 0 0 ⟨Nat.zero_le _,Nat.zero_mul _,.inl rfl⟩ ?_
 rintro i m v L1 ⟨hi,hm,hv⟩
 refine bJ ?_
 refine an rfl (fun h21r h21=>?_) (fun h21r h21=>?_)
 ·have hi2:i≤U:=by omega
  have hfi:=hf i hi2
  have elen:=hg i hi2
  have hrl:=gW hg i hi
  rw [hm] at hrl
  have hmu:m+(W+1)≤(U+1)*(W+1):=by rw [←hm,←Nat.succ_mul];exact Nat.mul_le_mul_right _ (by omega)
  have ers:(kt g V c i).map ratL++(g (io V c i)).map ratL=(kt g V c (i+1)).map ratL:=by rw [kt,List.map_append]
  have etk:((kt g V c i).map ratL).take m=(kt g V c i).map ratL:=List.take_of_length_le (by rw [List.length_map];omega)
  refine en ?_
  refine cp bf (DF U V c hc hl i hi2) ?_
  refine cI [] rfl rfl (.clo (f:=f) (cap:=caps) (args:=[.list 3 ((io V c i).map ratL)]) rfl (.cons fR .nil) ⟨hcp,hcs⟩ hfi.1 (by decide) (fun _ h=>by cases h)) (hfi.2 _) ?_
  refine bV ?_
  refine ab rfl (.bin rfl rfl (ee (by omega) (by omega))) ?_
  refine aL ?_
  refine aK rfl (.store rfl rfl rfl rfl rfl rfl rfl T3 mT) ?_
  refine fk tL ?_
  refine ca ?_
  refine aK rfl (.app (news:=(g (io V c i)).map ratL) rfl rfl rfl rfl rfl (by rw [List.length_map];omega) (.inl rfl) (by decide) Tryz.underlying36 Tryz.underlying159 cz bF rfl f3 (.inr (.inl rfl)) (by rw [List.length_map,elen];omega) (by rw [List.length_map,elen];omega) (by decide)) ?_
  refine bv ?_
  exact rb (i+1) (m+(W+1)) W ⟨by omega,by rw [Nat.succ_mul];omega,.inr rfl⟩
 ·obtain rfl:i=U+1:=by omega
  obtain rfl:v=W:=by omega
  have hrl:=gW hg (U+1) (Nat.le_refl _)
  refine bE ?_
  exact b9 [35] rfl rfl rfl rfl rfl zT (.agg (.cons (.pure rfl) (.cons (.pure rfl) (.cons (bg ah rfl rfl (by omega)) .nil))))
open H0 in
theorem Dq (p:List Rat) (v:Rat) (h:HS p v) (hp0:0<p.length):ap Tryz.prog 258 [.list 3 (p.map ratL),.boxp (ratL v)] (.list 3 ([uI p v].map ratL)):=by
 refine bS Tryz.func258 ?_
 refine cg ?_
 refine cp bf (vM p v h hp0) ?_
 refine ca ?_
 exact fM [7] rfl rfl (bg ah rfl rfl rfl)
open H0 in
theorem yV (U V:Nat) (c:List Rat) (hc:c.length=(U+1)*(V+1)) (hl:c.length≤1048576) (v:Rat) (hS:∀ i,i≤U→HS (io V c i) v):ap Tryz.prog 199 [.agg [ai U,ai V,.list 3 (c.map ratL)],ratL v] (.list 3 ((xY U V c v).map ratL)):=by
 have hU:U+1≤c.length:=by rw [hc];exact Nat.le_mul_of_pos_right _ (Nat.succ_pos V)
 have hV:V+1≤c.length:=by rw [hc];exact Nat.le_mul_of_pos_left _ (Nat.succ_pos U)
 have hnp:=aO U V c
 have hbp:aD [LV.boxp (ratL v)]=true:=by simp [aD,LV.pure,ah.pure]
 refine bS Tryz.func199 ?_
 refine bv ?_
 refine cI [3] rfl rfl (.mk (caps:=[.boxp (ratL v)]) (.cons (.eptr rfl rfl rfl (ah.csize _) (am _) (ah.pure _) rfl) .nil) (fun x hx=>by rw [List.mem_singleton.1 hx];exact⟨rfl,rfl⟩)) rfl ?_
 refine ci rfl (.cons (.pure hnp) (.cons (.pure (show LV.pure (.clo 258 [.boxp (ratL v)])=true by simpa [LV.pure] using hbp)) .nil)) (qp U V c hc hl 258 [.boxp (ratL v)] hbp (fun x hx=>by rw [List.mem_singleton.1 hx];exact⟨rfl,rfl⟩) (fun p=>[uI p v]) 0 (fun i hi=>Dq _ v (hS i hi) (by rw [cq hc hi];exact Nat.succ_pos V)) (fun i hi=>rfl) (by omega)) ?_
 refine ab rfl (.field rfl Fq rfl (ak ah _ _)) ?_
 refine bw ?_
 exact aS rfl (by first | exact .pure rfl | exact .pure (aG _) | exact .pure (ar _) | exact .pure (ah.pure _) | exact .pure (ak bB _ _) | exact .pure (ak ah _ _))
open H0 in
theorem DU (U V:Nat) (c:List Rat) (hc:c.length=(U+1)*(V+1)) (hl:c.length≤1048576) (hcR:∀ x∈c,rl x≤274877906944) (u:Rat) (hS:∀ j,j≤V→HS (io U (iX U V c) j) u):ap Tryz.prog 132 [.agg [ai U,ai V,.list 3 (c.map ratL)],ratL u] (.list 3 ((qI U V c u).map ratL)):=by
 have hU:U+1≤c.length:=by rw [hc];exact Nat.le_mul_of_pos_right _ (Nat.succ_pos V)
 have hV:V+1≤c.length:=by rw [hc];exact Nat.le_mul_of_pos_left _ (Nat.succ_pos U)
 have hnp:=aO U V c
 have hsl:=eE U V c
 have hsw:(iX U V c).length≤1048576:=by rw [hsl,Nat.mul_comm,←hc];exact hl
 have hnp2:=aO V U (iX U V c)
 refine bS Tryz.func132 ?_
 refine cx ?_
 refine au 5 (by decide +kernel) ?_
 refine aL ?_
 refine cp bK (tW U V c hc hl hcR) ?_
 refine aL ?_
 refine cp bf (yV V U (iX U V c) hsl hsw u hS) ?_
 refine bw ?_
 exact aS rfl (by first | exact .pure rfl | exact .pure (aG _) | exact .pure (ar _) | exact .pure (ah.pure _) | exact .pure (ak bB _ _) | exact .pure (ak ah _ _))
open H0 in
theorem Be (U V:Nat) (c:List Rat) (hc:c.length=(U+1)*(V+1)) (hl:c.length≤1048576) (hcR:∀ x∈c,rl x≤274877906944) (u v:Rat) (hS:∀ j,j≤V→HS (io U (iX U V c) j) u) (hS2:HS (qI U V c u) v):ap Tryz.prog 66 [.agg [ai U,ai V,.list 3 (c.map ratL)],ratL u,ratL v] (ratL (ja U V c u v)):=by
 have hU:U+1≤c.length:=by rw [hc];exact Nat.le_mul_of_pos_right _ (Nat.succ_pos V)
 have hV:V+1≤c.length:=by rw [hc];exact Nat.le_mul_of_pos_left _ (Nat.succ_pos U)
 have hnp:=aO U V c
 refine bS Tryz.func66 ?_
 refine cg ?_
 refine au 5 (by decide +kernel) ?_
 refine bG ?_
 refine cp bf (DU U V c hc hl hcR u hS) ?_
 refine aL ?_
 refine cp bf (vM (qI U V c u) v hS2 (by rw [kS];exact Nat.succ_pos V)) ?_
 refine bw ?_
 exact b9 [] rfl rfl rfl (ah.csize _) (am _) bF (.pure (ah.pure _))
open H0 in
theorem pm (U V:Nat) (c:List Rat) (hc:c.length=(U+1)*(V+1)) (hl:c.length≤1048576) (hcR:∀ x∈c,rl x≤274877906944) (f:Nat) (caps:List LV) (hcp:aD caps=true) (hcs:∀ x∈caps,x.csize=1∧x.isAgg=false) (g:List Rat→List Rat) (W:Nat) (hf:∀ j,j≤V→ap Tryz.prog f ([.list 3 ((io U (iX U V c) j).map ratL)]++caps) (.list 3 ((g (io U (iX U V c) j)).map ratL))) (hg:∀ j,j≤V→(g (io U (iX U V c) j)).length=W+1) (hW:(V+1)*(W+1)≤1048576) (hgR:∀ x∈(kt g U (iX U V c) (V+1)),rl x≤274877906944):ap Tryz.prog 143 [.agg [ai U,ai V,.list 3 (c.map ratL)],.clo f caps] (.agg [ai W,ai V,.list 3 ((iX V W (kt g U (iX U V c) (V+1))).map ratL)]):=by
 have hU:U+1≤c.length:=by rw [hc];exact Nat.le_mul_of_pos_right _ (Nat.succ_pos V)
 have hV:V+1≤c.length:=by rw [hc];exact Nat.le_mul_of_pos_left _ (Nat.succ_pos U)
 have hnp:=aO U V c
 have hsl:=eE U V c
 have hsw:(iX U V c).length≤1048576:=by rw [hsl,Nat.mul_comm,←hc];exact hl
 have hnp2:=aO V U (iX U V c)
 have hrl:=gW hg (V+1) (Nat.le_refl _)
 have hnp3:=aO V W (kt g U (iX U V c) (V+1))
 have hcl:LV.pure (.clo f caps)=true:=by simpa [LV.pure] using hcp
 refine bS Tryz.func143 (ht:=(fun g=>LV.ren_pure g _ (aO _ _ _))) ?_
 refine cg ?_
 refine cp bK (tW U V c hc hl hcR) ?_
 refine aL ?_
 refine cp bf (qp V U (iX U V c) hsl hsw f caps hcp hcs g W hf hg hW) ?_
 refine cp bK (tW V W (kt g U (iX U V c) (V+1)) hrl (by omega) hgR) ?_
 refine bw ?_
 exact b9 [] rfl rfl rfl rfl rfl zT (.pure (aO _ _ _))
open H0 in
theorem Bt (U V:Nat) (c:List Rat) (hc:c.length=(U+1)*(V+1)) (hl:c.length≤1048576) (hcR:∀ x∈c,rl x≤1073741824) (hU1:U≤900):ap Tryz.prog 72 [.agg [ai U,ai V,.list 3 (c.map ratL)]] (.agg [ai (U-1),ai V,.list 3 ((oH U V c).map ratL)]):=by
 have hU:U+1≤c.length:=by rw [hc];exact Nat.le_mul_of_pos_right _ (Nat.succ_pos V)
 have hV:V+1≤c.length:=by rw [hc];exact Nat.le_mul_of_pos_left _ (Nat.succ_pos U)
 have hnp:=aO U V c
 have hsl:=eE U V c
 have hsw:(iX U V c).length≤1048576:=by rw [hsl,Nat.mul_comm,←hc];exact hl
 have hnp2:=aO (U-1) V (oH U V c)
 have hsR:=xh (U:=U) (V:=V) (R:=1073741824) (by decide) hcR
 refine bS Tryz.func72 (ht:=(fun g=>LV.ren_pure g _ (aO _ _ _))) ?_
 refine cg ?_
 refine cp bf (pm U V c hc hl (fun x hx=>Nat.le_trans (hcR x hx) (by decide)) 144 [] rfl (fun x hx=>by cases hx) fQ (U-1) (fun j hj=>y0 _ (by rw [cq hsl hj];omega) (fun x hx=>hsR x (fZ hx))) (fun j hj=>xi (cq hsl hj)) (by have:=Nat.mul_le_mul_left (V+1) (show U-1+1≤U+1 by omega);omega) (CB (U:=V) (fun j hj x hx=>Nat.le_trans (lb (R:=1073741824) (by decide) (by rw [cq hsl hj];omega) (fun x hx=>hsR x (fZ hx)) x hx) (by decide)) (Nat.le_refl _))) ?_
 refine bw ?_
 exact b9 [] rfl rfl rfl rfl rfl zT (.pure (aO _ _ _))
theorem uq {U V:Nat} {c:List Rat} (hc:c.length=(U+1)*(V+1)) {x:Rat} (hx:x∈iX U V c):x∈c:=by
 obtain⟨i,hi,rfl⟩:=List.mem_map.1 hx
 have hi:=List.mem_range.1 hi
 have h1:i/(U+1)<V+1:=Nat.div_lt_of_lt_mul (by rw [Nat.mul_comm];exact hi)
 have h2:=Nat.mod_lt i (show U+1 > 0 by omega)
 exact bi (by rw [hc];exact iZ (by omega) (by omega))
theorem jr {g:List Rat→List Rat} {V U:Nat} {c:List Rat} {Q:Rat→Prop} (h:∀ i,i≤U→∀ x∈g (io V c i),Q x):∀ {n:Nat},n≤U+1→∀ x∈kt g V c n,Q x
 | 0,_,x,hx=>by cases hx
 | n+1,hn,x,hx=>by
  rcases List.mem_append.1 (show x∈kt g V c n++g (io V c n) from hx) with h1 | h1
  ·exact jr h (by omega) x h1
  ·exact h n (by omega) x h1
theorem xC {U V:Nat} {c:List Rat} {i j:Nat} (hi:i≤U) (hj:j≤V):(iX U V c).getD (j*(U+1)+i) 0=c.getD (i*(V+1)+j) 0:=by
 rw [iX,tR (iZ hj hi),BB,jp hi,jA hi]
section
variable {m M a b:Rat} {U V:Nat} {c:List Rat} (hc:c.length=(U+1)*(V+1)) (h0:0≤a) (hab:a≤b) (hb:b≤1) (h:∀ x∈c,m≤x∧x≤M)
end
def CM (p:List Rat):LV:=.list 3 (p.map ratL)
theorem FZ:EncOK CM 1 false:=⟨fun _=>rfl,fun _=>rfl,fun p=>ak ah 3 p⟩
theorem I0:aT Tryz.prog 159 (CM []):=⟨Tryz.t159,_,by kernel_rfl,rfl,rfl,fun _ _ _=>jX 3⟩
instance:EC Tryz.prog 159 CM 1 false []:=⟨FZ,I0,CO⟩
open H0 in
theorem kY (u v:Nat) (c d:List Rat) (hl:c.length≤1048576) (hl2:d.length≤1048576) (hcR:∀ x∈c,rl x≤137438953472) (hdR:∀ x∈d,rl x≤137438953472):ap Tryz.prog 26 [.agg [ai u,ai v,.list 3 (c.map ratL)],.agg [ai u,ai v,.list 3 (d.map ratL)]] (bL (decide (c=d))):=by
 have hn1:=aO u v c
 have hn2:=aO u v d
 refine bS Tryz.func26 ?_
 refine en ?_
 refine ab (ao (v:=true) rfl rfl ((beq_self_eq_true _)) rfl) gI ?_
 refine ab (ao (v:=true) rfl rfl ((beq_self_eq_true _)) rfl) fS ?_
 refine ab (ao (v:=true) rfl rfl ((beq_self_eq_true _)) rfl) gI ?_
 refine ab (ao (v:=true) rfl rfl ((beq_self_eq_true _)) rfl) fS ?_
 refine ab (ao (v:=true) rfl rfl ((beq_self_eq_true _)) rfl) (.bin rfl rfl rfl) ?_
 refine ab rfl (.pickT rfl ((beq_self_eq_true _))) ?_
 refine aL ?_
 refine ab (ao (v:=true) rfl rfl ((beq_self_eq_true _)) rfl) gI ?_
 refine ab (ao (v:=true) rfl rfl ((beq_self_eq_true _)) rfl) fS ?_
 refine ab (ao (v:=true) rfl rfl ((beq_self_eq_true _)) rfl) gI ?_
 refine ab (ao (v:=true) rfl rfl ((beq_self_eq_true _)) rfl) fS ?_
 refine ci (ao (v:=true) rfl rfl ((beq_self_eq_true _)) rfl) (.cons fR (.cons fR .nil)) (xS c d hl hl2 hcR hdR) ?_
 refine ab rfl (.pickT rfl ((beq_self_eq_true _))) ?_
 refine bw ?_
 exact aS rfl (by first | exact .pure rfl | exact .pure (aG _) | exact .pure (ar _) | exact .pure (ah.pure _) | exact .pure (ak bB _ _) | exact .pure (ak ah _ _))
def vu (V:Nat) (c:List Rat) (v U:Nat):List Rat:=kt (fun p=>uk p v) V c (U+1)
def i7 (U V:Nat) (c:List Rat) (u v:Nat):List Rat:=iX v u (kt (fun p=>uk p u) U (iX U v (vu V c v U)) (v+1))
theorem AP {U V v:Nat} {c:List Rat} (hc:c.length=(U+1)*(V+1)) (hV:V≤v):(vu V c v U).length=(U+1)*(v+1) :=
 gW (W:=v) (U:=U) (fun i hi=>qP (by rw [cq hc hi];omega)) _ (Nat.le_refl _)
theorem qo (U V:Nat) (c:List Rat) (u v:Nat):(i7 U V c u v).length=(u+1)*(v+1):=eE v u _
theorem qf {p:List Rat} {n:Nat} (hl:p.length≤n+1) (h:we p n):∀ x∈uk p n,rl x≤1073741824:=h.2 _ (by omega)
theorem p9 (V:Nat) (c:List Rat):∀ n,kt (fun p=>p) V c n=c.take (n*(V+1))
 | 0=>by simp [kt]
 | n+1=>by
  rw [kt,p9 V c n,io,Nat.succ_mul]
  have h:=List.take_append_drop (n*(V+1)) (c.take (n*(V+1)+(V+1)))
  rw [List.take_take,Nat.min_eq_left (by omega)] at h
  exact h
theorem Fu {U V:Nat} {c:List Rat} (hc:c.length=(U+1)*(V+1)):iX V U (iX U V c)=c:=by
 refine EV (by rw [eE,hc]) fun k hk=>?_
 rw [eE] at hk
 have h1:k/(V+1)<U+1:=Nat.div_lt_of_lt_mul (by rw [Nat.mul_comm];exact hk)
 have h2:=Nat.mod_lt k (show V+1 > 0 by omega)
 have e:k=k/(V+1)*(V+1)+k % (V+1):=by rw [Nat.mul_comm];exact(Nat.div_add_mod k (V+1)).symm
 rw [e,xC (U:=V) (V:=U) (i:=k % (V+1)) (j:=k/(V+1)) (by omega) (by omega),xC (U:=U) (V:=V) (i:=k/(V+1)) (j:=k % (V+1)) (by omega) (by omega)]
theorem kQ {g h:List Rat→List Rat} {V U:Nat} {c:List Rat} (e:∀ i,i≤U→g (io V c i)=h (io V c i)):∀ {n},n≤U+1→kt g V c n=kt h V c n
 | 0,_=>rfl
 | n+1,hn=>by rw [kt,kt,kQ e (by omega),e n (by omega)]
theorem rx {U V:Nat} {c:List Rat} (hc:c.length=(U+1)*(V+1)):i7 U V c U V=c:=by
 have h1:vu V c V U=c:=by
  rw [vu,kQ (h:=fun p=>p) (fun i hi=>na (by rw [cq hc hi];omega)) (Nat.le_refl _),p9,List.take_of_length_le (by omega)]
 rw [i7,h1,kQ (h:=fun p=>p) (fun i hi=>na (by rw [cq (eE U V c) hi];omega)) (Nat.le_refl _),p9,List.take_of_length_le (by rw [eE];omega),Fu hc]
open H0 in
theorem AN (U V:Nat) (c:List Rat) (hc:c.length=(U+1)*(V+1)) (hl:c.length≤1048576) (hcR:∀ x∈c,rl x≤1073741824) (hV1:V≤900):ap Tryz.prog 73 [.agg [ai U,ai V,.list 3 (c.map ratL)]] (.agg [ai U,ai (V-1),.list 3 ((oL U V c).map ratL)]):=by
 have hU:U+1≤c.length:=by rw [hc];exact Nat.le_mul_of_pos_right _ (Nat.succ_pos V)
 have hV:V+1≤c.length:=by rw [hc];exact Nat.le_mul_of_pos_left _ (Nat.succ_pos U)
 have hnp:=aO U V c
 have hnp2:=aO U (V-1) (oL U V c)
 refine bS Tryz.func73 (ht:=(fun g=>LV.ren_pure g _ (aO _ _ _))) ?_
 refine cg ?_
 refine cp bf (qp U V c hc hl 144 [] rfl (fun x hx=>by cases hx) fQ (V-1) (fun i hi=>y0 _ (by rw [cq hc hi];omega) (fun x hx=>hcR x (fZ hx))) (fun i hi=>xi (cq hc hi)) (by have:=Nat.mul_le_mul_left (U+1) (show V-1+1≤V+1 by omega);omega)) ?_
 refine bw ?_
 exact b9 [] rfl rfl rfl rfl rfl zT (.pure (aO _ _ _))
open H0 in
theorem yO (p:List Rat) (d:Nat) (hp0:0<p.length) (hd:d≤40) (hpn:p.length≤d+1) (hps:we p d):ap Tryz.prog 276 [.list 3 (p.map ratL),.boxp (ai d)] (.list 3 ((uk p d).map ratL)):=by
 refine bS Tryz.func276 ?_
 refine cg ?_
 refine cp bf (DH p d hp0 hd hpn hps) ?_
 refine dI ?_
 exact aS rfl (by first | exact .pure rfl | exact .pure (aG _) | exact .pure (ar _) | exact .pure (ah.pure _) | exact .pure (ak bB _ _) | exact .pure (ak ah _ _))
open H0 in
theorem vC (d:Nat):ap Tryz.prog 275 [ai d] (.clo 276 [.boxp (ai d)]):=by
 refine bS Tryz.func275 (ht:=(fun g=>by simp [LV.ren,cB])) ?_
 refine cx ?_
 refine cI [1] rfl rfl (.mk (caps:=[.boxp (ai d)]) (.cons (.eptr rfl rfl rfl rfl (mN (ai d) rfl) rfl rfl) .nil) (fun x hx=>by rw [List.mem_singleton.1 hx];exact⟨rfl,rfl⟩)) rfl ?_
 refine bw ?_
 exact aS rfl (.pure rfl)
namespace MC
theorem bQ {p q:Prop} (k:q) (e:p=q:=by simp only [e1,e2,e3,e4,p1,p2,p3,q1,q2,q3,l1,t0,t1,r1,r2,r3,r4,Nat.zero_add,Nat.reduceMul,Nat.reduceAdd,b1,b2,b3,b4,b5,b6,i1,i2,i3,i4,i5,i6,Nat.reduceBEq,dq,dU,ae ah,ax,aC,LV.kill,aH];exact rfl):p:=e.mpr k
end MC
open MC in
theorem Ct (U V:Nat) (c:List Rat) (hc:c.length=(U+1)*(V+1)) (hl:c.length≤1048576) (hcR:∀ x∈c,rl x≤274877906944) (u v:Nat) (hUu:U≤u) (hVv:V≤v) (hu:u≤40) (hv:v≤40) (h1:∀ i,i≤U→we (io V c i) v) (h2:∀ j,j≤v→we (io U (iX U v (vu V c v U)) j) u):ap Tryz.prog 264 [.agg [ai U,ai V,.list 3 (c.map ratL)],ai u,ai v] (.agg [ai u,ai v,.list 3 ((i7 U V c u v).map ratL)]):=by
 have hU:U+1≤c.length:=by rw [hc];exact Nat.le_mul_of_pos_right _ (Nat.succ_pos V)
 have hV:V+1≤c.length:=by rw [hc];exact Nat.le_mul_of_pos_left _ (Nat.succ_pos U)
 have hnp:=aO U V c
 have hl1:=AP hc hVv
 have hl1s:(vu V c v U).length≤1048576:=by rw [hl1];exact Nat.le_trans (Nat.mul_le_mul (show U+1≤41 by omega) (show v+1≤41 by omega)) (by decide)
 have hn1:=aO U v (vu V c v U)
 have hR1:=qp U V c hc hl 276 [.boxp (ai v)] rfl (fun x hx=>by rw [List.mem_singleton.1 hx];exact⟨rfl,rfl⟩) (fun p=>uk p v) v (fun i hi=>yO _ v (by rw [cq hc hi];omega) hv (by rw [cq hc hi];omega) (h1 i hi)) (fun i hi=>qP (by rw [cq hc hi];omega)) (by rw [←hl1];exact hl1s)
 have hm1:∀ x∈(vu V c v U),rl x≤1073741824:=jr (U:=U) (fun i hi=>qf (by rw [cq hc hi];omega) (h1 i hi)) (Nat.le_refl _)
 have hsl:=eE U v (vu V c v U)
 have hR2:=pm U v (vu V c v U) hl1 hl1s (fun x hx=>Nat.le_trans (hm1 x hx) (by decide)) 276 [.boxp (ai u)] rfl (fun x hx=>by rw [List.mem_singleton.1 hx];exact⟨rfl,rfl⟩) (fun p=>uk p u) u (fun j hj=>yO _ u (by rw [cq hsl hj];omega) hu (by rw [cq hsl hj];omega) (h2 j hj)) (fun j hj=>qP (by rw [cq hsl hj];omega)) (by exact Nat.le_trans (Nat.mul_le_mul (show v+1≤41 by omega) (show u+1≤41 by omega)) (by decide)) (jr (U:=v) (fun j hj x hx=>Nat.le_trans (qf (by rw [cq hsl hj];omega) (h2 j hj) x hx) (by decide)) (Nat.le_refl _))
 refine bS Tryz.func264 (ht:=(fun g=>LV.ren_pure g _ (aO _ _ _))) ?_
 refine bE ?_
 refine au 9 (by decide +kernel) ?_
 refine bx ?_
 refine cI [] rfl rfl (.clo (f:=275) (cap:=[]) (args:=[ai v]) rfl (.cons fR .nil) ⟨rfl,fun _ h=>by cases h⟩ (vC v).1 (by decide) (fun _ h=>by cases h)) ((vC v).2 _) ?_
 refine ci rfl (.cons (.pure hnp) (.cons (.pure rfl) .nil)) hR1 ?_
 refine bG ?_
 refine cI [] rfl rfl (.clo (f:=275) (cap:=[]) (args:=[ai u]) rfl (.cons fR .nil) ⟨rfl,fun _ h=>by cases h⟩ (vC u).1 (by decide) (fun _ h=>by cases h)) ((vC u).2 _) ?_
 refine ci rfl (.cons (.pure hn1) (.cons (.pure rfl) .nil)) hR2 ?_
 refine bw ?_
 exact b9 [] rfl rfl rfl rfl rfl zT (.pure (aO _ _ _))
theorem EB {a b u:Nat} (h1:a≤u) (h2:b≤u) (h:a=u∨b=u):(if ((b:Nat):Int) > ((a:Nat):Int) then((b:Nat):Int) else((a:Nat):Int))=((u:Nat):Int):=by split<;>omega
theorem Jy (a:Int):(if a<a then a else a)=a:=by split<;>rfl
structure upH (U V:Nat) (c:List Rat) (u v:Nat):Prop where
 hc:c.length=(U+1)*(V+1)
 hl:c.length≤1048576
 hR:∀ x∈c,rl x≤274877906944
 hU:U≤u
 hV:V≤v
 hu:u≤40
 hv:v≤40
 h1:∀ i,i≤U→we (io V c i) v
 h2:∀ j,j≤v→we (io U (iX U v (vu V c v U)) j) u
theorem upH.rl {U V u v:Nat} {c:List Rat} (h:upH U V c u v):∀ x∈i7 U V c u v,Go.Lg.rl x≤1073741824 :=
 xh (by decide) fun x hx=>jr (U:=v) (V:=U) (c:=iX U v (vu V c v U)) (n:=v+1) (fun j hj y hy=>qf (by rw [cq (eE U v _) hj];have:=h.hU;omega) (h.h2 j hj) y hy) (Nat.le_refl _) x hx
theorem upH.g {U V u v:Nat} {c:List Rat} (h:upH U V c u v) (k:Nat):Go.Lg.rl ((i7 U V c u v).getD k 0)≤1073741824:=cY (by decide) h.rl k
theorem upH.n {U V u v:Nat} {c:List Rat} (h:upH U V c u v):(u+1)*(v+1)≤1681 :=
 Nat.le_trans (Nat.mul_le_mul (show u+1≤41 by have:=h.hu;omega) (show v+1≤41 by have:=h.hv;omega)) (by decide)
namespace Mc
theorem bQ {p q:Prop} (k:q) (e:p=q:=by simp only [e1,e2,e3,e4,p1,p2,p3,q1,q2,q3,l1,t0,t1,r1,r2,r3,r4,Nat.zero_add,Nat.reduceMul,Nat.reduceAdd,b1,b2,b3,b4,b5,b6,i1,i2,i3,i4,i5,i6,Nat.reduceBEq,dq,dU,hmu,hmv,Jy,eg,p5,elp,elq,aQ,bo,aW,List.length_cons,List.length_nil,List.nil_append,List.map_nil,List.take_nil,List.append_nil,ae ah,ax,aC,LV.kill,aH];exact rfl):p:=e.mpr k
end Mc
open Mc in
theorem Bp (f:Nat) (g:Rat→Rat→Rat) (U1 V1 U2 V2:Nat) (a b:List Rat) (u v:Nat) (ha:upH U1 V1 a u v) (hb:upH U2 V2 b u v) (hu:U1=u∨U2=u) (hv:V1=v∨V2=v) (hf:∀ i,ap Tryz.prog f [ratL ((i7 U1 V1 a u v).getD i 0),ratL ((i7 U2 V2 b u v).getD i 0)] (ratL (g ((i7 U1 V1 a u v).getD i 0) ((i7 U2 V2 b u v).getD i 0)))):ap Tryz.prog 210 [.agg [ai U1,ai V1,.list 3 (a.map ratL)],.agg [ai U2,ai V2,.list 3 (b.map ratL)],.clo f []] (.agg [ai u,ai v,.list 3 ((nT g (i7 U1 V1 a u v) (i7 U2 V2 b u v)).map ratL)]):=by
 have hmu:=EB ha.hU hb.hU hu
 have hmv:=EB ha.hV hb.hV hv
 have elp:(i7 U1 V1 a u v).length=(u+1)*(v+1):=qo _ _ _ _ _
 have elq:(i7 U2 V2 b u v).length=(u+1)*(v+1):=qo _ _ _ _ _
 have hn:=ha.n
 have hn1:=aO U1 V1 a
 have hn2:=aO U2 V2 b
 have hn3:=aO u v (i7 U1 V1 a u v)
 have hn4:=aO u v (i7 U2 V2 b u v)
 refine bS Tryz.func210 (ht:=(fun g=>LV.ren_pure g _ (aO _ _ _))) ?_
 have eg:True:=trivial
 have elp:True:=trivial
 have elq:True:=trivial
 refine cx ?_
 refine au 12 (by decide +kernel) ?_
 refine en ?_
 refine au 8 (by decide +kernel) ?_
 refine bx ?_
 refine cp jt (Ct U1 V1 a ha.hc ha.hl ha.hR u v ha.hU ha.hV ha.hu ha.hv ha.h1 ha.h2) ?_
 refine bx ?_
 refine cp jt (Ct U2 V2 b hb.hc hb.hl hb.hR u v hb.hU hb.hV hb.hu hb.hv hb.h1 hb.h2) ?_
 refine Hs ?_
 refine cN ((aP.cell 9 rfl (fun Z μ w cs h=>iQ 57 3 _ _ Z μ w cs h)).trans (aP.newB _ 57 3 rfl)) ?_
 refine gE (fun(i:Nat) L=>((((((((St.mk L.slot (hp [(3,⟨3,[.agg [ai u,ai v,.list 3 ((i7 U1 V1 a u v).map ratL)]],true⟩),(4,⟨3,[.agg [ai u,ai v,.list 3 ((i7 U2 V2 b u v).map ratL)]],true⟩),(6,⟨3,[.agg [.v (.int .i64 0),.v (.int .i64 0),.v (.slice none 0 0)]],true⟩),(9,⟨3,[.agg [ai u,ai v,.ref 57 3 0 i]],true⟩),(57,⟨3,(gL i (fun k=>g ((i7 U1 V1 a u v).getD k 0) ((i7 U2 V2 b u v).getD k 0))).map ratL,true⟩)])).put (some 2) (.clo f [])).put (some 3) (.eptr 3 3 0 0)).put (some 4) (.eptr 4 3 0 0)).put (some 6) (.eptr 6 3 0 0)).put (some 9) (.eptr 9 3 0 0)).put (some 38) (ai ((u+1)*(v+1)))).put (some 39) (ai i))) (fun i=>i≤(u+1)*(v+1)) (fun i=>(u+1)*(v+1)-i) 0 (Nat.zero_le _) ?_
 rintro i L1 hi
 refine bJ ?_
 refine an rfl (fun h40r h40=>?_) (fun h40r h40=>?_)
 ·have hi2:i<(u+1)*(v+1):=by omega
  have hfi:=hf i
  have hgl:=d8 i (fun k=>g ((i7 U1 V1 a u v).getD k 0) ((i7 U2 V2 b u v).getD k 0))
  have eg:gL (i+1) (fun k=>g ((i7 U1 V1 a u v).getD k 0) ((i7 U2 V2 b u v).getD k 0))=gL i (fun k=>g ((i7 U1 V1 a u v).getD k 0) ((i7 U2 V2 b u v).getD k 0))++[g ((i7 U1 V1 a u v).getD i 0) ((i7 U2 V2 b u v).getD i 0)]:=mO _ _
  refine bv ?_
  refine au 15 (by decide +kernel) ?_
  refine ct ?_
  refine cI [] rfl rfl (.clo (f:=f) (cap:=[]) (args:=[ratL ((i7 U1 V1 a u v).getD i 0),ratL ((i7 U2 V2 b u v).getD i 0)]) rfl (.cons fR (.cons fR .nil)) ⟨rfl,fun _ h=>by cases h⟩ hfi.1 (by decide) (fun _ h=>by cases h)) (hfi.2 _) ?_
  refine aL ?_
  refine aK rfl (.app (news:=[ratL (g ((i7 U1 V1 a u v).getD i 0) ((i7 U2 V2 b u v).getD i 0))]) rfl rfl rfl rfl rfl (by simp [d8]) (.inl rfl) (by decide) Tryz.underlying36 Tryz.underlying36 cz bF rfl f3 (.inl ⟨56,0,_,rfl,by decide,rfl,rfl,by simp,rfl,by simp [aD,ah.pure]⟩) (by simp;omega) (by simp;omega) (by decide)) ?_
  refine ca ?_
  refine aY (aP.kill _ 56) ?_
  refine ab rfl (.bin rfl rfl (a9 (by omega))) ?_
  refine bx ?_
  exact fA (i+1) (by omega)
 ·obtain rfl:i=(u+1)*(v+1):=by omega
  have hE:gL ((u+1)*(v+1)) (fun k=>g ((i7 U1 V1 a u v).getD k 0) ((i7 U2 V2 b u v).getD k 0))=(nT g (i7 U1 V1 a u v) (i7 U2 V2 b u v)):=by rw [nT,qo];rfl
  refine bE ?_
  rw [←hE]
  exact b9 [57] rfl rfl rfl rfl rfl zT (.agg (.cons (.pure rfl) (.cons (.pure rfl) (.cons (bg ah rfl rfl (by rw [d8])) .nil))))
open H0 in
theorem Dp (U1 V1 U2 V2:Nat) (a b:List Rat) (u v:Nat) (ha:upH U1 V1 a u v) (hb:upH U2 V2 b u v) (hu:U1=u∨U2=u) (hv:V1=v∨V2=v):ap Tryz.prog 141 [.agg [ai U1,ai V1,.list 3 (a.map ratL)],.agg [ai U2,ai V2,.list 3 (b.map ratL)]] (.agg [ai u,ai v,.list 3 ((nT (·-·) (i7 U1 V1 a u v) (i7 U2 V2 b u v)).map ratL)]):=by
 have hn1:=aO U1 V1 a
 have hn2:=aO U2 V2 b
 refine bS Tryz.func141 (ht:=(fun g=>LV.ren_pure g _ (aO _ _ _))) ?_
 refine bD ?_
 refine cp jt (Bp 82 (·-·) U1 V1 U2 V2 a b u v ha hb hu hv (fun i=>gg _ _ (by have:=ha.g i;have:=hb.g i;omega))) ?_
 refine bw ?_
 exact b9 [] rfl rfl rfl rfl rfl zT (.pure (aO _ _ _))
theorem vE:∀ (n m:Nat) (f:Nat→Nat→Rat),sm n (fun i=>sm m (f i))=sm m (fun j=>sm n (fun i=>f i j))
 | 0,m,f=>(vR m _ (fun _ _=>rfl)).symm
 | n+1,m,f=>by rw [sm,vE n m f,←yq];rfl
def sx (U V:Nat) (c:List Rat) (i j:Nat):Rat:=cR U i*sq (io V c i) j
theorem Cb {U V i j:Nat} {c:List Rat} (hc:c.length=(U+1)*(V+1)) (hi:i≤U) (hj:j≤V):(jb U V c).getD (i*(V+1)+j) 0=sx U V c i j:=by
 rw [jb,tR (iZ hi hj),yj,jp hj,jA hj,sx,sq,cq hc hi,Nat.add_sub_cancel,Bn hc hi hj,Rat.mul_assoc];rfl
theorem Cm {U V i j:Nat} {c:List Rat} (hc:c.length=(U+1)*(V+1)) (hi:i≤U) (hj:V<j):sx U V c i j=0:=by
 rw [sx,Fi (by rw [cq hc hi];omega),Rat.mul_zero]
theorem CP {W i j r s:Nat} (hj:j≤W) (hs:s≤W) (h:i*(W+1)+j=r*(W+1)+s):i=r∧j=s:=by
 have h1:=congrArg (·/(W+1)) h
 have h2:=congrArg (· % (W+1)) h
 simp only [jp hj,jp hs,jA hj,jA hs] at h1 h2
 exact⟨h1,h2⟩
section
variable {V1 V2 W U U2 r s:Nat} {x y o:List Rat} (i j k:Nat)
theorem td:∀ l (o:List Rat),(mL V1 V2 W x y i j k l o).length=o.length
 | 0,o=>rfl
 | l+1,o=>by rw [mL,List.length_set,td l o]
theorem uy:∀ k (o:List Rat),(mK V1 V2 W x y i j k o).length=o.length
 | 0,o=>rfl
 | k+1,o=>by rw [mK,td,uy k o]
theorem tq:∀ j (o:List Rat),(mJ V1 V2 W U2 x y i j o).length=o.length
 | 0,o=>rfl
 | j+1,o=>by rw [mJ,uy,tq j o]
theorem yZ:∀ i (o:List Rat),(mI V1 V2 W U2 x y i o).length=o.length
 | 0,o=>rfl
 | i+1,o=>by rw [mI,tq,yZ i o]
theorem zX (hik:i+k≤U) (ho:o.length=(U+1)*(W+1)):∀ l,j+l≤W+1→∀ r s,s≤W→(mL V1 V2 W x y i j k l o).getD (r*(W+1)+s) 0=o.getD (r*(W+1)+s) 0+(if i+k=r∧j≤s∧s<j+l then x.getD (i*(V1+1)+j) 0*y.getD (k*(V2+1)+(s-j)) 0 else 0)
 | 0,_,r,s,hs=>by rw [mL,if_neg (by omega),Rat.add_zero]
 | l+1,h,r,s,hs=>by
  have hix:=iZ (U:=U) (V:=W) (i:=i+k) (j:=j+l) (by omega) (by omega)
  have ih:=zX hik ho l (by omega)
  rw [mL,xL _ _ _ _ (by rw [td,ho];omega)]
  by_cases h1:(i+k)*(W+1)+j+l=r*(W+1)+s
  ·obtain⟨h2,h3⟩:=CP (W:=W) (i:=i+k) (j:=j+l) (r:=r) (s:=s) (by omega) hs (by omega)
   rw [if_pos h1,h1,ih r s hs,if_neg (by omega),if_pos (by omega),show s-j=l by omega];grind
  ·rw [if_neg h1,ih r s hs]
   have h4:¬ (i+k=r∧j+l=s):=fun⟨e1,e2⟩=>h1 (by rw [←e1,←e2];omega)
   by_cases h2:i+k=r∧j≤s∧s<j+l
   ·rw [if_pos h2,if_pos (by omega)]
   ·rw [if_neg h2,if_neg (by omega)]
theorem z5 (hs:s≤W) (hj:j+V2≤W) (ho:o.length=(U+1)*(W+1)):∀ k,i+k≤U+1→(mK V1 V2 W x y i j k o).getD (r*(W+1)+s) 0=o.getD (r*(W+1)+s) 0+sm k (fun k=>if i+k=r∧j≤s∧s<j+(V2+1) then x.getD (i*(V1+1)+j) 0*y.getD (k*(V2+1)+(s-j)) 0 else 0)
 | 0,_=>by rw [mK,sm,Rat.add_zero]
 | k+1,h=>by
  rw [mK,zX (U:=U) i j k (by omega) (by rw [uy];exact ho) _ (by omega) r s hs,z5 hs hj ho k (by omega),Rat.add_assoc];rfl
theorem zf (hs:s≤W) (hV:V1+V2≤W) (ho:o.length=(U+1)*(W+1)) (hi:i+U2≤U):∀ j,j≤V1+1→(mJ V1 V2 W U2 x y i j o).getD (r*(W+1)+s) 0=o.getD (r*(W+1)+s) 0+sm j (fun j=>sm (U2+1) fun k=>if i+k=r∧j≤s∧s<j+(V2+1) then x.getD (i*(V1+1)+j) 0*y.getD (k*(V2+1)+(s-j)) 0 else 0)
 | 0,_=>by rw [mJ,sm,Rat.add_zero]
 | j+1,h=>by
  rw [mJ,z5 (U:=U) i j hs (by omega) (by rw [tq];exact ho) _ (by omega),zf hs hV ho hi j (by omega),Rat.add_assoc];rfl
theorem xk {U1:Nat} (hs:s≤W) (hV:V1+V2≤W) (ho:o.length=(U+1)*(W+1)) (hU:U1+U2≤U):∀ i,i≤U1+1→(mI V1 V2 W U2 x y i o).getD (r*(W+1)+s) 0=o.getD (r*(W+1)+s) 0+sm i (fun i=>sm (V1+1) fun j=>sm (U2+1) fun k=>if i+k=r∧j≤s∧s<j+(V2+1) then x.getD (i*(V1+1)+j) 0*y.getD (k*(V2+1)+(s-j)) 0 else 0)
 | 0,_=>by rw [mI,sm,Rat.add_zero]
 | i+1,h=>by
  rw [mI,zf (U:=U) i hs hV (by rw [yZ];exact ho) (by omega) _ (Nat.le_refl _),xk hs hV ho hU i (by omega),Rat.add_assoc];rfl
end
def F2 (U1 V1 U2 V2:Nat) (a b:List Rat) (r s:Nat):Rat:=sm (U1+1) fun i=>sm (U2+1) fun k=>if i+k=r then cf (sx U1 V1 a i) (sx U2 V2 b k) s else 0
theorem Ax {U1 V1 U2 V2 r s:Nat} {a b:List Rat} (ha:a.length=(U1+1)*(V1+1)) (hb:b.length=(U2+1)*(V2+1)) (hs:s≤V1+V2):(iG U1 V1 U2 V2 a b).getD (r*(V1+V2+1)+s) 0=F2 U1 V1 U2 V2 a b r s:=by
 rw [iG,xk (U:=U1+U2) (U1:=U1) hs (Nat.le_refl _) (by simp) (Nat.le_refl _) _ (Nat.le_refl _),z8,Rat.zero_add]
 refine jh _ _ _ fun i hi=>?_
 rw [vE]
 refine jh _ _ _ fun k hk=>?_
 by_cases h:i+k=r
 ·rw [if_pos h]
  have hG1:∀ j,V1+1≤j→(fun j=>if j≤s then sx U1 V1 a i j*sx U2 V2 b k (s-j) else 0) j=0:=fun j hj=>by
   show (if j≤s then sx U1 V1 a i j*sx U2 V2 b k (s-j) else 0)=0
   split
   ·rw [Cm ha (by omega) (by omega),Rat.zero_mul]
   ·rfl
  have hG2:∀ j,s+1≤j→(fun j=>if j≤s then sx U1 V1 a i j*sx U2 V2 b k (s-j) else 0) j=0:=fun j hj=>if_neg (by omega)
  have e:cf (sx U1 V1 a i) (sx U2 V2 b k) s=sm (V1+1) (fun j=>if j≤s then sx U1 V1 a i j*sx U2 V2 b k (s-j) else 0):=by
   rw [←up _ _ hG1 (s+1),Nat.add_comm,up _ _ hG2]
   exact jh _ _ _ fun j hj=>(if_pos (by omega)).symm
  rw [e]
  refine jh _ _ _ fun j hj=>?_
  by_cases h2:j≤s
  ·rw [if_pos h2]
   by_cases h3:s<j+(V2+1)
   ·rw [if_pos ⟨h,h2,h3⟩,Cb ha (by omega) (by omega),Cb hb (by omega) (by omega)]
   ·rw [if_neg (by omega),Cm hb (by omega) (by omega),Rat.mul_zero]
  ·rw [if_neg h2,if_neg (by omega)]
 ·rw [if_neg h]
  exact vR _ _ fun j _=>if_neg (by omega)
theorem tZ (U1 V1 U2 V2:Nat) (a b:List Rat):(lp U1 V1 U2 V2 a b).length=(U1+U2+1)*(V1+V2+1):=d8 _ _
theorem D1 {U1 V1 U2 V2 r s:Nat} {a b:List Rat} (ha:a.length=(U1+1)*(V1+1)) (hb:b.length=(U2+1)*(V2+1)) (hr:r≤U1+U2) (hs:s≤V1+V2):(lp U1 V1 U2 V2 a b).getD (r*(V1+V2+1)+s) 0=F2 U1 V1 U2 V2 a b r s/(cR (U1+U2) r*cR (V1+V2) s):=by
 rw [lp,tR (iZ hr hs),Ac,jp hs,jA hs,Ax ha hb hs];rfl
section
variable {U1 V1 U2 V2 i k:Nat} {a b:List Rat} (ha:a.length=(U1+1)*(V1+1)) (hb:b.length=(U2+1)*(V2+1)) (hi:i≤U1) (hk:k≤U2)
end
def oE:Option (List Rat)→LV
 | none=>.v (.slice none 0 0)
 | some p=>CM p
section
variable {U1 V1 U2 V2 R:Nat} {a b:List Rat}
end
theorem Fg:EncOK oE 1 false:=⟨fun o=>by cases o<;>rfl,fun o=>by cases o<;>rfl,fun o=>by
 cases o with
 | none=>rfl
 | some p=>exact ak ah 3 p⟩
theorem Hz:aT Tryz.prog 159 (oE none):=⟨Tryz.t159,_,by kernel_rfl,rfl,rfl,fun _ _ _=>⟨rfl,rfl⟩⟩
instance:EC Tryz.prog 159 oE 1 false none:=⟨Fg,Hz,CO⟩
theorem Am {U V:Nat} {c:List Rat} (hc:c.length=(U+1)*(V+1)):(oL U V c).length=(U+1)*(V-1+1) :=
 gW (W:=V-1) (U:=U) (fun i hi=>xi (cq hc hi)) _ (Nat.le_refl _)
theorem AH (U V:Nat) (c:List Rat):(oH U V c).length=(U-1+1)*(V+1):=eE _ _ _
theorem qi {B:Nat}:∀ (n:Nat) (f:Nat→Rat),(∀ i,i<n→rl (f i)≤B)→rl (sm n f)≤1+n*(B+1)
 | 0,f,_=>by show rl 0≤_;rw [show rl 0=1 from rfl];omega
 | n+1,f,h=>by
  have h1:=qi n f (fun i hi=>h i (by omega))
  have h2:=h n (by omega)
  have h3:=dF (sm n f) (f n)
  rw [sm,Nat.succ_mul];omega
theorem sF {U V:Nat} {c:List Rat} (hc:c.length=(U+1)*(V+1)) (hU:U≤40) (hV:V≤40) (hR:∀ x∈c,rl x≤1073741824):upH U V c U V:=by
 have h1:vu V c V U=c:=by
  rw [vu,kQ (h:=fun p=>p) (fun i hi=>na (by rw [cq hc hi];omega)) (Nat.le_refl _),p9,List.take_of_length_le (by omega)]
 have h2:∀ {p:List Rat} {n:Nat},p.length=n+1→(∀ x∈p,rl x≤1073741824)→we p n:=fun {p n} hp wU=>⟨wU,fun k hk=>by
  obtain rfl:k=0:=by omega
  exact wU⟩
 refine⟨hc,?_,fun x hx=>Nat.le_trans (hR x hx) (by decide),Nat.le_refl _,Nat.le_refl _,hU,hV,fun i hi=>h2 (cq hc hi) (fun x hx=>hR x (fZ hx)),fun j hj=>?_⟩
 ·rw [hc];exact Nat.le_trans (Nat.mul_le_mul (show U+1≤41 by omega) (show V+1≤41 by omega)) (by decide)
 ·rw [h1]
  exact h2 (cq (eE U V c) hj) (fun x hx=>hR x (uq hc (fZ hx)))
theorem DX {U V R:Nat} {c:List Rat} (hc:c.length=(U+1)*(V+1)) (hV:V≤900) (hR:1≤R) (h:∀ x∈c,rl x≤R):∀ x∈oL U V c,rl x≤2*R+4 :=
 jr (U:=U) (fun i hi=>lb hR (by rw [cq hc hi];omega) (fun x hx=>h x (fZ hx))) (Nat.le_refl _)
theorem DS {U V R:Nat} {c:List Rat} (hc:c.length=(U+1)*(V+1)) (hU:U≤900) (hR:1≤R) (h:∀ x∈c,rl x≤R):∀ x∈oH U V c,rl x≤2*R+4 :=
 xh (by omega) (jr (U:=V) (fun j hj=>lb hR (by rw [cq (eE U V c) hj];omega) (fun x hx=>h x (uq hc (fZ hx)))) (Nat.le_refl _))
theorem A3 {R:Nat} {p q:List Rat} {g:Rat→Rat→Rat} (hg:∀ a b,rl (g a b)≤rl a+rl b+1) (hR:1≤R) (hp:∀ x∈p,rl x≤R) (hq:∀ x∈q,rl x≤R):∀ x∈nT g p q,rl x≤2*R+1:=fun x hx=>by
 obtain⟨i,_,rfl⟩:=List.mem_map.1 hx
 have h1:=cY hR hp i
 have h2:=cY hR hq i
 have h3:=hg (p.getD i 0) (q.getD i 0)
 omega
theorem dE:(default:List PoR)=[]:=rfl
theorem pn (d1 d2 d3 d4 sz:Nat) (x1 x2 x3 x4 y1 y2 y3 y4:LV) (Z:Nat→Prop) (μ:Nat→Option Nat) (w:World) (cs:List Value)
  (h:bt Z μ w (.agg [.agg [x1,y1,.v (.slice none 0 0)],.agg [x2,y2,.v (.slice none 0 0)],.agg [x3,y3,.v (.slice none 0 0)],.agg [x4,y4,.v (.slice none 0 0)]]) cs) :
  bt Z μ w (.agg [.agg [x1,y1,.ref d1 sz 0 0],.agg [x2,y2,.ref d2 sz 0 0],.agg [x3,y3,.ref d3 sz 0 0],.agg [x4,y4,.ref d4 sz 0 0]]) cs:=by
 rw [bt] at h ⊢
 simp only [bn] at h ⊢
 obtain⟨a1,b1,e1,l1,g1,a2,b2,e2,l2,g2,a3,b3,e3,l3,g3,a4,b4,e4,l4,g4,e5⟩:=h
 exact⟨a1,b1,e1,l1,iQ _ _ _ _ _ _ _ _ g1,a2,b2,e2,l2,iQ _ _ _ _ _ _ _ _ g2,a3,b3,e3,l3,iQ _ _ _ _ _ _ _ _ g3,a4,b4,e4,l4,iQ _ _ _ _ _ _ _ _ g4,e5⟩
theorem FF {rows:List (List PoR)} {i:Nat} (h:i<rows.length):rows.drop i=rows.getD i [] :: rows.drop (i+1):=by
 rw [List.drop_eq_getElem_cons h,List.getD_eq_getElem?_getD,List.getElem?_eq_getElem h];rfl
theorem Fm {po:List PoR} {j:Nat} (h:j<po.length):po.drop j=po.getD j default :: po.drop (j+1):=by
 rw [List.drop_eq_getElem_cons h,List.getD_eq_getElem?_getD,List.getElem?_eq_getElem h];rfl
theorem cm {rows:List (List PoR)} {i:Nat} (h:i<rows.length):rows.getD i []∈rows:=by
 rw [List.getD_eq_getElem?_getD,List.getElem?_eq_getElem h];exact List.getElem_mem h
structure rwOK (rows:List (List PoR)) (R:Nat):Prop where
 ok:∀ r∈rows,∀ q∈r,jN R q
 n:rows.length≤1000
 m:∀ r∈rows,r.length≤1000
 f:rows.flatten.length≤10000
structure rwI (rows:List (List PoR)) (i:Nat) (ps:List PoR):Prop where
 hi:i≤rows.length
 he:ps++(rows.drop i).flatten=rows.flatten
theorem rwI.le {rows:List (List PoR)} {i:Nat} {ps:List PoR} (h:rwI rows i ps):ps.length≤rows.flatten.length:=by
 rw [←h.he];simp
theorem rwI.zero (rows:List (List PoR)):rwI rows 0 []:=⟨Nat.zero_le _,rfl⟩
theorem rwI.last {rows:List (List PoR)} {ps:List PoR} (h:rwI rows rows.length ps):ps=rows.flatten:=by
 have:=h.he
 rwa [List.drop_length,List.flatten_nil,List.append_nil] at this
structure rwJ (rows:List (List PoR)) (i j:Nat) (qs:List PoR):Prop where
 hi:i<rows.length
 hj:j≤(rows.getD i []).length
 he:qs++((rows.getD i []).drop j++(rows.drop (i+1)).flatten)=rows.flatten
theorem rwI.go {rows:List (List PoR)} {i:Nat} {ps:List PoR} (h:rwI rows i ps) (hi:i<rows.length):rwJ rows i 0 ps:=by
 refine⟨hi,Nat.zero_le _,?_⟩
 have:=h.he
 rwa [FF hi,List.flatten_cons] at this
theorem rwJ.le {rows:List (List PoR)} {i j:Nat} {qs:List PoR} (h:rwJ rows i j qs):qs.length≤rows.flatten.length:=by
 rw [←h.he];simp
theorem rwJ.lt {rows:List (List PoR)} {i j:Nat} {qs:List PoR} (h:rwJ rows i j qs) (hj:j<(rows.getD i []).length):qs.length<rows.flatten.length:=by
 have:=congrArg List.length h.he
 rw [List.length_append,List.length_append,List.length_drop] at this
 omega
theorem rwJ.next {rows:List (List PoR)} {i j:Nat} {qs:List PoR} (h:rwJ rows i j qs) (hj:j<(rows.getD i []).length):rwJ rows i (j+1) (qs++[(rows.getD i []).getD j default]):=by
 refine⟨h.hi,by omega,?_⟩
 have:=h.he
 rw [Fm hj] at this
 rw [←this];simp
theorem rwJ.last {rows:List (List PoR)} {i:Nat} {qs:List PoR} (h:rwJ rows i (rows.getD i []).length qs):rwI rows (i+1) qs:=by
 refine⟨h.hi,?_⟩
 have:=h.he
 rwa [List.drop_length,List.nil_append] at this
theorem lG (po:List PoR) (q:PoR) (k:Nat):dz po k++[q.w*q.p.at k]=dz (po++[q]) k:=by simp [dz]
theorem yQ (po:List PoR) (q:PoR):dL po++[q.w]=dL (po++[q]):=by simp [dL]
namespace Lx
theorem bQ {p q:Prop} (k:q) (e:p=q:=by simp only [e1,e2,e3,e4,p1,p2,p3,q1,q2,q3,l1,t0,t1,r1,r2,r3,r4,Nat.zero_add,Nat.reduceMul,Nat.reduceAdd,b1,b2,b3,b4,b5,b6,i1,i2,i3,i4,i5,i6,Nat.reduceBEq,bu,etk0,etk1,etk2,etk3,ers0,ers1,ers2,ers3,aW,cb,ae dW,dE,dU,aQ,bo,aW,List.length_cons,List.length_nil,List.nil_append,List.map_nil,List.take_nil,List.append_nil,List.set_cons_zero,List.set_cons_succ,Nat.reduceEqDiff,reduceIte,if_true,if_false,aN,aM,ae cT,ae cA,ae ah,ax,aC,LV.kill,aH];exact rfl):p:=e.mpr k
end Lx
open Lx in
theorem tg (U V:Nat) (kU kV:List Rat) (rows:List (List PoR)) (hU:U≤1000000) (hV:V≤1000000) (R:Nat) (hR:R≤1000000) (hw:rwOK rows R):ap Tryz.prog 24 [.agg [ai U,ai V,.list 3 (kU.map ratL),.list 3 (kV.map ratL),.list 1 (rows.map bu)]] (.agg [.agg [ai U,ai V,.list 3 ((dz rows.flatten 0).map ratL)],.agg [ai U,ai V,.list 3 ((dz rows.flatten 1).map ratL)],.agg [ai U,ai V,.list 3 ((dz rows.flatten 2).map ratL)],.agg [ai U,ai V,.list 3 ((dL rows.flatten).map ratL)]]):=by
 have hsp:LV.pure (.agg [ai U,ai V,.list 3 (kU.map ratL),.list 3 (kV.map ratL),.list 1 (rows.map bu)])=true:=by simp [LV.pure,aD,al ah,al dW]
 have hwn:=hw.n
 have hwf:=hw.f
 refine bS Tryz.func24 (ht:=(fun g=>LV.ren_pure g _ (by simp [LV.pure,aD,al ah,al dW]))) ?_
 have etk0:True:=trivial
 have etk1:True:=trivial
 have etk2:True:=trivial
 have etk3:True:=trivial
 have ers0:True:=trivial
 have ers1:True:=trivial
 have ers2:True:=trivial
 have ers3:True:=trivial
 refine je ?_
 refine aA ?_
 refine bJ ?_
 refine aR (b:=_) rfl (by decide) ?_
 refine bv ?_
 refine mQ rfl 8 3 [1,4,5] (by decide +kernel) rfl ?_
 simp only [List.take_succ_cons,List.take_zero,e1,e2,e3,e4,p1,p2,p3,q1,q2,q3,l1,t0,t1,r1,r2,r3,r4,Nat.zero_add,Nat.reduceMul,Nat.reduceAdd,b1,b2,b3,b4,b5,b6,i1,i2,i3,i4,i5,i6,Nat.reduceBEq,F7,F9,Ga,F0]
 refine cx ?_
 refine jQ rfl rfl (fun om h=>by cases h;exact⟨_,_,_,_,_,rfl,rfl⟩) ?_
 simp only [List.drop_succ_cons,List.drop_zero]
 refine bE ?_
 refine aA ?_
 refine bJ ?_
 refine aR (b:=_) rfl (by decide) ?_
 refine bv ?_
 refine mQ rfl 8 3 [1,4,5] (by decide +kernel) rfl ?_
 simp only [List.take_succ_cons,List.take_zero,e1,e2,e3,e4,p1,p2,p3,q1,q2,q3,l1,t0,t1,r1,r2,r3,r4,Nat.zero_add,Nat.reduceMul,Nat.reduceAdd,b1,b2,b3,b4,b5,b6,i1,i2,i3,i4,i5,i6,Nat.reduceBEq,F7,F9,Ga,F0]
 refine cx ?_
 refine jQ rfl rfl (fun om h=>by cases h;exact⟨_,_,_,_,_,rfl,rfl⟩) ?_
 simp only [List.drop_succ_cons,List.drop_zero]
 refine bE ?_
 refine aA ?_
 refine bJ ?_
 refine aR (b:=_) rfl (by decide) ?_
 refine bv ?_
 refine mQ rfl 8 3 [1,4,5] (by decide +kernel) rfl ?_
 simp only [List.take_succ_cons,List.take_zero,e1,e2,e3,e4,p1,p2,p3,q1,q2,q3,l1,t0,t1,r1,r2,r3,r4,Nat.zero_add,Nat.reduceMul,Nat.reduceAdd,b1,b2,b3,b4,b5,b6,i1,i2,i3,i4,i5,i6,Nat.reduceBEq,F7,F9,Ga,F0]
 refine cx ?_
 refine jQ rfl rfl (fun om h=>by cases h;exact⟨_,_,_,_,_,rfl,rfl⟩) ?_
 simp only [List.drop_succ_cons,List.drop_zero]
 refine bE ?_
 refine aA ?_
 refine bJ ?_
 refine aR (b:=_) rfl (by decide) ?_
 refine bv ?_
 refine mQ rfl 8 3 [1,4,5] (by decide +kernel) rfl ?_
 simp only [List.take_succ_cons,List.take_zero,e1,e2,e3,e4,p1,p2,p3,q1,q2,q3,l1,t0,t1,r1,r2,r3,r4,Nat.zero_add,Nat.reduceMul,Nat.reduceAdd,b1,b2,b3,b4,b5,b6,i1,i2,i3,i4,i5,i6,Nat.reduceBEq,F7,F9,Ga,F0]
 refine cx ?_
 refine jQ rfl rfl (fun om h=>by cases h;exact⟨_,_,_,_,_,rfl,rfl⟩) ?_
 simp only [List.drop_succ_cons,List.drop_zero]
 refine bE ?_
 refine aA ?_
 refine bJ ?_
 refine bb (b:=_) rfl (by decide) ?_
 refine en ?_
 refine cN (((aP.cell 3 rfl (fun Z μ w cs h=>pn 1001 1002 1003 1004 3 _ _ _ _ _ _ _ _ Z μ w cs h)).trans ((aP.newB _ 1001 3 rfl).trans ((aP.newB _ 1002 3 rfl).trans ((aP.newB _ 1003 3 rfl).trans (aP.newB _ 1004 3 rfl)))))) ?_
 refine ik (fun(i:Nat) (ps:List PoR) L=>((((((St.mk L.slot (hp [(1,⟨5,[.agg [ai U,ai V,.list 3 (kU.map ratL),.list 3 (kV.map ratL),.list 1 (rows.map bu)]],true⟩),(2,⟨12,[.agg [.agg [.v (.int .i64 0),.v (.int .i64 0),.v (.slice none 0 0)],.agg [.v (.int .i64 0),.v (.int .i64 0),.v (.slice none 0 0)],.agg [.v (.int .i64 0),.v (.int .i64 0),.v (.slice none 0 0)],.agg [.v (.int .i64 0),.v (.int .i64 0),.v (.slice none 0 0)]]],true⟩),(3,⟨12,[.agg [.agg [ai U,ai V,.ref 1001 3 0 ps.length],.agg [ai U,ai V,.ref 1002 3 0 ps.length],.agg [ai U,ai V,.ref 1003 3 0 ps.length],.agg [ai U,ai V,.ref 1004 3 0 ps.length]]],true⟩),(1001,⟨3,(dz ps 0).map ratL,true⟩),(1002,⟨3,(dz ps 1).map ratL,true⟩),(1003,⟨3,(dz ps 2).map ratL,true⟩),(1004,⟨3,(dL ps).map ratL,true⟩)])).put (some 2) (.eptr 2 12 0 0)).put (some 3) (.eptr 3 12 0 0)).put (some 26) (.list 1 (rows.map bu))).put (some 27) (ai rows.length)).put (some 28) (ai i))) (fun i ps=>rwI rows i ps) (fun i ps=>rows.length-i) 0 ([]) (rwI.zero rows) ?_
 rintro i ps L2 hI
 refine bJ ?_
 refine an rfl (fun h29r h29=>?_) (fun h29r h29=>?_)
 ·have hi2:i<rows.length:=by omega
  refine ia ?_
  refine ik (fun(j:Nat) (qs:List PoR) L=>(((((((((St.mk L.slot (hp [(1,⟨5,[.agg [ai U,ai V,.list 3 (kU.map ratL),.list 3 (kV.map ratL),.list 1 (rows.map bu)]],true⟩),(2,⟨12,[.agg [.agg [.v (.int .i64 0),.v (.int .i64 0),.v (.slice none 0 0)],.agg [.v (.int .i64 0),.v (.int .i64 0),.v (.slice none 0 0)],.agg [.v (.int .i64 0),.v (.int .i64 0),.v (.slice none 0 0)],.agg [.v (.int .i64 0),.v (.int .i64 0),.v (.slice none 0 0)]]],true⟩),(3,⟨12,[.agg [.agg [ai U,ai V,.ref 1001 3 0 qs.length],.agg [ai U,ai V,.ref 1002 3 0 qs.length],.agg [ai U,ai V,.ref 1003 3 0 qs.length],.agg [ai U,ai V,.ref 1004 3 0 qs.length]]],true⟩),(1001,⟨3,(dz qs 0).map ratL,true⟩),(1002,⟨3,(dz qs 1).map ratL,true⟩),(1003,⟨3,(dz qs 2).map ratL,true⟩),(1004,⟨3,(dL qs).map ratL,true⟩)])).put (some 2) (.eptr 2 12 0 0)).put (some 3) (.eptr 3 12 0 0)).put (some 26) (.list 1 (rows.map bu))).put (some 27) (ai rows.length)).put (some 28) (ai i)).put (some 32) (.list 12 ((rows.getD i []).map dX))).put (some 33) (ai (rows.getD i []).length)).put (some 34) (ai j))) (fun j qs=>rwJ rows i j qs) (fun j qs=>(rows.getD i []).length-j) 0 ps (hI.go hi2) ?_
  rintro j qs L3 hJ
  refine bJ ?_
  refine an rfl (fun h35r h35=>?_) (fun h35r h35=>?_)
  ·have hj2:j<(rows.getD i []).length:=by omega
   have hJe:=hJ.hj
   have hJl:=hJ.le
   have hJi:=hJ.hi
   have hrm:=cm hJi
   have hrl:=hw.m _ hrm
   have hqm:=dl hj2
   have hok:=hw.ok _ hrm _ hqm
   have hJ2:=hJ.lt hj2
   have ers0:(dz qs 0)++[((rows.getD i []).getD j default).w*((rows.getD i []).getD j default).p.x]=(dz (qs++[((rows.getD i []).getD j default)]) 0):=lG _ _ 0
   have ers1:(dz qs 1)++[((rows.getD i []).getD j default).w*((rows.getD i []).getD j default).p.y]=(dz (qs++[((rows.getD i []).getD j default)]) 1):=lG _ _ 1
   have ers2:(dz qs 2)++[((rows.getD i []).getD j default).w*((rows.getD i []).getD j default).p.z]=(dz (qs++[((rows.getD i []).getD j default)]) 2):=lG _ _ 2
   have ers3:(dL qs)++[((rows.getD i []).getD j default).w]=(dL (qs++[((rows.getD i []).getD j default)])):=yQ _ _
   have etk0:((dz qs 0).map ratL).take qs.length=(dz qs 0).map ratL:=List.take_of_length_le (by rw [List.length_map,cV];omega)
   have etk1:((dz qs 1).map ratL).take qs.length=(dz qs 1).map ratL:=List.take_of_length_le (by rw [List.length_map,cV];omega)
   have etk2:((dz qs 2).map ratL).take qs.length=(dz qs 2).map ratL:=List.take_of_length_le (by rw [List.length_map,cV];omega)
   have etk3:((dL qs).map ratL).take qs.length=(dL qs).map ratL:=List.take_of_length_le (by rw [List.length_map,f5];omega)
   have hn0:=cV qs 0
   have hn1:=cV qs 1
   have hn2:=cV qs 2
   have hn3:=f5 qs
   refine en ?_
   refine cp bK (Ex ((rows.getD i []).getD j default) R hR hok) ?_
   refine bw ?_
   refine aA ?_
   refine bJ ?_
   refine aR (b:=_) rfl (by decide) ?_
   refine ct ?_
   refine d7 7 [0] (by decide +kernel) ?_
   refine bV ?_
   refine aK rfl (.appX (d:=1001) (news:=[ratL (((rows.getD i []).getD j default).w*((rows.getD i []).getD j default).p.x)]) rfl rfl rfl rfl (by simp;omega) (.inl rfl) (by decide) Tryz.underlying159 Tryz.underlying159 cz bF rfl f3 (.inl ⟨50,0,_,rfl,by decide,rfl,rfl,by simp,rfl,by simp [aD,ah.pure]⟩) (by simp;omega) (by simp;omega) (by decide)) ?_
   refine bJ ?_
   refine aY ((aP.kill _ 10).trans (aP.kill _ 50)) ?_
   refine bw ?_
   refine aA ?_
   refine bJ ?_
   refine aR (b:=_) rfl (by decide) ?_
   refine ct ?_
   refine d7 7 [0] (by decide +kernel) ?_
   refine bV ?_
   refine aK rfl (.appX (d:=1002) (news:=[ratL (((rows.getD i []).getD j default).w*((rows.getD i []).getD j default).p.y)]) rfl rfl rfl rfl (by simp;omega) (.inl rfl) (by decide) Tryz.underlying159 Tryz.underlying159 cz bF rfl f3 (.inl ⟨50,0,_,rfl,by decide,rfl,rfl,by simp,rfl,by simp [aD,ah.pure]⟩) (by simp;omega) (by simp;omega) (by decide)) ?_
   refine bJ ?_
   refine aY ((aP.kill _ 10).trans (aP.kill _ 50)) ?_
   refine bw ?_
   refine aA ?_
   refine bJ ?_
   refine aR (b:=_) rfl (by decide) ?_
   refine ct ?_
   refine d7 7 [0] (by decide +kernel) ?_
   refine bV ?_
   refine aK rfl (.appX (d:=1003) (news:=[ratL (((rows.getD i []).getD j default).w*((rows.getD i []).getD j default).p.z)]) rfl rfl rfl rfl (by simp;omega) (.inl rfl) (by decide) Tryz.underlying159 Tryz.underlying159 cz bF rfl f3 (.inl ⟨50,0,_,rfl,by decide,rfl,rfl,by simp,rfl,by simp [aD,ah.pure]⟩) (by simp;omega) (by simp;omega) (by decide)) ?_
   refine bJ ?_
   refine aY ((aP.kill _ 10).trans (aP.kill _ 50)) ?_
   refine bw ?_
   refine aA ?_
   refine bJ ?_
   refine aR (b:=_) rfl (by decide) ?_
   refine ct ?_
   refine d7 7 [0] (by decide +kernel) ?_
   refine bV ?_
   refine aK rfl (.appX (d:=1004) (news:=[ratL (((rows.getD i []).getD j default).w)]) rfl rfl rfl rfl (by simp;omega) (.inl rfl) (by decide) Tryz.underlying159 Tryz.underlying159 cz bF rfl f3 (.inl ⟨50,0,_,rfl,by decide,rfl,rfl,by simp,rfl,by simp [aD,ah.pure]⟩) (by simp;omega) (by simp;omega) (by decide)) ?_
   refine bJ ?_
   refine aY ((aP.kill _ 10).trans (aP.kill _ 50)) ?_
   refine bw ?_
   refine aA ?_
   refine bJ ?_
   refine bb (b:=_) rfl (by decide) ?_
   refine bJ ?_
   refine aY (aP.kill _ 8) ?_
   refine ab rfl (.bin rfl rfl (a9 (by omega))) ?_
   refine bx ?_
   exact gk (j+1) (qs++[((rows.getD i []).getD j default)]) (hJ.next hj2)
  ·have hJe:=hJ.hj
   have hJl:=hJ.le
   have hJi:=hJ.hi
   have hrm:=cm hJi
   have hrl:=hw.m _ hrm
   obtain rfl:j=(rows.getD i []).length:=by omega
   refine bV ?_
   refine ab rfl (.bin rfl rfl (a9 (by omega))) ?_
   refine bx ?_
   exact gk (i+1) qs hJ.last (hm:=by have:=hJ.hi;omega)
 ·have hIi:=hI.hi
  obtain rfl:i=rows.length:=by omega
  have hE:=hI.last
  subst hE
  refine bE ?_
  exact b9 [1001,1002,1003,1004] rfl rfl rfl cs (bX cs rfl) Gy (.agg (.cons (.agg (.cons (.pure rfl) (.cons (.pure rfl) (.cons (bg ah rfl rfl (cV _ 0).symm) .nil)))) (.cons (.agg (.cons (.pure rfl) (.cons (.pure rfl) (.cons (bg ah rfl rfl (cV _ 1).symm) .nil)))) (.cons (.agg (.cons (.pure rfl) (.cons (.pure rfl) (.cons (bg ah rfl rfl (cV _ 2).symm) .nil)))) (.cons (.agg (.cons (.pure rfl) (.cons (.pure rfl) (.cons (bg ah rfl rfl (f5 _).symm) .nil)))) .nil)))))
namespace Ks
theorem bQ {p q:Prop} (k:q) (e:p=q:=by simp only [e1,e2,e3,e4,p1,p2,p3,q1,q2,q3,l1,t0,t1,r1,r2,r3,r4,Nat.zero_add,Nat.reduceMul,Nat.reduceAdd,b1,b2,b3,b4,b5,b6,i1,i2,i3,i4,i5,i6,Nat.reduceBEq,bu,etk0,etk1,etk2,etk3,ers0,ers1,ers2,ers3,aW,cb,ae dW,dE,dU,aQ,bo,aW,List.length_cons,List.length_nil,List.nil_append,List.map_nil,List.take_nil,List.append_nil,List.set_cons_zero,List.set_cons_succ,Nat.reduceEqDiff,reduceIte,if_true,if_false,aN,aM,ae cT,ae cA,ae ah,ax,aC,LV.kill,aH];exact rfl):p:=e.mpr k
end Ks
open Ks in
theorem A6 (U V:Nat) (kU kV:List Rat) (rows:List (List PoR)) (hU:U≤1000000) (hV:V≤1000000) (R:Nat) (hR:R≤1000000) (hw:rwOK rows R):ap Tryz.prog 25 [.agg [ai U,ai V,.list 3 (kU.map ratL),.list 3 (kV.map ratL),.list 1 (rows.map bu)]] (.agg [.agg [ai U,ai V,.list 3 ((dz rows.flatten 0).map ratL)],.agg [ai U,ai V,.list 3 ((dz rows.flatten 1).map ratL)],.agg [ai U,ai V,.list 3 ((dz rows.flatten 2).map ratL)],.agg [ai U,ai V,.list 3 ((dL rows.flatten).map ratL)]]):=by
 have hsp:LV.pure (.agg [ai U,ai V,.list 3 (kU.map ratL),.list 3 (kV.map ratL),.list 1 (rows.map bu)])=true:=by simp [LV.pure,aD,al ah,al dW]
 have hwn:=hw.n
 have hwf:=hw.f
 refine bS Tryz.func25 (ht:=(fun g=>LV.ren_pure g _ (by simp [LV.pure,aD,al ah,al dW]))) ?_
 have etk0:True:=trivial
 have etk1:True:=trivial
 have etk2:True:=trivial
 have etk3:True:=trivial
 have ers0:True:=trivial
 have ers1:True:=trivial
 have ers2:True:=trivial
 have ers3:True:=trivial
 refine je ?_
 refine aA ?_
 refine bV ?_
 refine aR (b:=_) rfl (by decide) ?_
 refine uj ?_
 refine aA ?_
 refine bV ?_
 refine aR (b:=_) rfl (by decide) ?_
 refine uj ?_
 refine aA ?_
 refine bV ?_
 refine aR (b:=_) rfl (by decide) ?_
 refine uj ?_
 refine aA ?_
 refine bV ?_
 refine aR (b:=_) rfl (by decide) ?_
 refine uj ?_
 refine aA ?_
 refine bV ?_
 refine bb (b:=_) rfl (by decide) ?_
 refine bE ?_
 refine cN (((aP.cell 3 rfl (fun Z μ w cs h=>pn 1001 1002 1003 1004 3 _ _ _ _ _ _ _ _ Z μ w cs h)).trans ((aP.newB _ 1001 3 rfl).trans ((aP.newB _ 1002 3 rfl).trans ((aP.newB _ 1003 3 rfl).trans (aP.newB _ 1004 3 rfl)))))) ?_
 refine ik (fun(i:Nat) (ps:List PoR) L=>(((((St.mk L.slot (hp [(1,⟨5,[.agg [ai U,ai V,.list 3 (kU.map ratL),.list 3 (kV.map ratL),.list 1 (rows.map bu)]],true⟩),(2,⟨12,[.agg [.agg [.v (.int .i64 0),.v (.int .i64 0),.v (.slice none 0 0)],.agg [.v (.int .i64 0),.v (.int .i64 0),.v (.slice none 0 0)],.agg [.v (.int .i64 0),.v (.int .i64 0),.v (.slice none 0 0)],.agg [.v (.int .i64 0),.v (.int .i64 0),.v (.slice none 0 0)]]],true⟩),(3,⟨12,[.agg [.agg [ai U,ai V,.ref 1001 3 0 ps.length],.agg [ai U,ai V,.ref 1002 3 0 ps.length],.agg [ai U,ai V,.ref 1003 3 0 ps.length],.agg [ai U,ai V,.ref 1004 3 0 ps.length]]],true⟩),(1001,⟨3,(dz ps 0).map ratL,true⟩),(1002,⟨3,(dz ps 1).map ratL,true⟩),(1003,⟨3,(dz ps 2).map ratL,true⟩),(1004,⟨3,(dL ps).map ratL,true⟩)])).put (some 1) (.eptr 1 5 0 0)).put (some 2) (.eptr 2 12 0 0)).put (some 3) (.eptr 3 12 0 0)).put (some 5) (ai i))) (fun i ps=>rwI rows i ps) (fun i ps=>rows.length-i) 0 ([]) (rwI.zero rows) ?_
 rintro i ps L2 hI
 refine bv ?_
 refine an rfl (fun h24r h24=>?_) (fun h24r h24=>?_)
 ·have hi2:i<rows.length:=by omega
  refine bv ?_
  refine ik (fun(j:Nat) (qs:List PoR) L=>((((((St.mk L.slot (hp [(1,⟨5,[.agg [ai U,ai V,.list 3 (kU.map ratL),.list 3 (kV.map ratL),.list 1 (rows.map bu)]],true⟩),(2,⟨12,[.agg [.agg [.v (.int .i64 0),.v (.int .i64 0),.v (.slice none 0 0)],.agg [.v (.int .i64 0),.v (.int .i64 0),.v (.slice none 0 0)],.agg [.v (.int .i64 0),.v (.int .i64 0),.v (.slice none 0 0)],.agg [.v (.int .i64 0),.v (.int .i64 0),.v (.slice none 0 0)]]],true⟩),(3,⟨12,[.agg [.agg [ai U,ai V,.ref 1001 3 0 qs.length],.agg [ai U,ai V,.ref 1002 3 0 qs.length],.agg [ai U,ai V,.ref 1003 3 0 qs.length],.agg [ai U,ai V,.ref 1004 3 0 qs.length]]],true⟩),(1001,⟨3,(dz qs 0).map ratL,true⟩),(1002,⟨3,(dz qs 1).map ratL,true⟩),(1003,⟨3,(dz qs 2).map ratL,true⟩),(1004,⟨3,(dL qs).map ratL,true⟩)])).put (some 1) (.eptr 1 5 0 0)).put (some 2) (.eptr 2 12 0 0)).put (some 3) (.eptr 3 12 0 0)).put (some 5) (ai i)).put (some 6) (ai j))) (fun j qs=>rwJ rows i j qs) (fun j qs=>(rows.getD i []).length-j) 0 ps (hI.go hi2) ?_
  rintro j qs L3 hJ
  have hJe:=hJ.hj
  have hJl:=hJ.le
  have hJi:=hJ.hi
  have hrm:=cm hJi
  have hrl:=hw.m _ hrm
  refine ct ?_
  refine an rfl (fun h34r h34=>?_) (fun h34r h34=>?_)
  ·have hj2:j<(rows.getD i []).length:=by omega
   have hqm:=dl hj2
   have hok:=hw.ok _ hrm _ hqm
   have hJ2:=hJ.lt hj2
   have ers0:(dz qs 0)++[((rows.getD i []).getD j default).w*((rows.getD i []).getD j default).p.x]=(dz (qs++[((rows.getD i []).getD j default)]) 0):=lG _ _ 0
   have ers1:(dz qs 1)++[((rows.getD i []).getD j default).w*((rows.getD i []).getD j default).p.y]=(dz (qs++[((rows.getD i []).getD j default)]) 1):=lG _ _ 1
   have ers2:(dz qs 2)++[((rows.getD i []).getD j default).w*((rows.getD i []).getD j default).p.z]=(dz (qs++[((rows.getD i []).getD j default)]) 2):=lG _ _ 2
   have ers3:(dL qs)++[((rows.getD i []).getD j default).w]=(dL (qs++[((rows.getD i []).getD j default)])):=yQ _ _
   have etk0:((dz qs 0).map ratL).take qs.length=(dz qs 0).map ratL:=List.take_of_length_le (by rw [List.length_map,cV];omega)
   have etk1:((dz qs 1).map ratL).take qs.length=(dz qs 1).map ratL:=List.take_of_length_le (by rw [List.length_map,cV];omega)
   have etk2:((dz qs 2).map ratL).take qs.length=(dz qs 2).map ratL:=List.take_of_length_le (by rw [List.length_map,cV];omega)
   have etk3:((dL qs).map ratL).take qs.length=(dL qs).map ratL:=List.take_of_length_le (by rw [List.length_map,f5];omega)
   have hn0:=cV qs 0
   have hn1:=cV qs 1
   have hn2:=cV qs 2
   have hn3:=f5 qs
   refine dI ?_
   refine cp bK (A7 ((rows.getD i []).getD j default) R hR hok) ?_
   refine bv ?_
   refine aA ?_
   refine bV ?_
   refine aR (b:=_) rfl (by decide) ?_
   refine bw ?_
   refine d7 9 [0] (by decide +kernel) ?_
   refine cg ?_
   refine aK rfl (.appX (d:=1001) (news:=[ratL (((rows.getD i []).getD j default).w*((rows.getD i []).getD j default).p.x)]) rfl rfl rfl rfl (by simp;omega) (.inl rfl) (by decide) Tryz.underlying159 Tryz.underlying159 cz bF rfl f3 (.inl ⟨58,0,_,rfl,by decide,rfl,rfl,by simp,rfl,by simp [aD,ah.pure]⟩) (by simp;omega) (by simp;omega) (by decide)) ?_
   refine bJ ?_
   refine aY (aP.kill _ 58) ?_
   refine ca ?_
   refine aA ?_
   refine bV ?_
   refine aR (b:=_) rfl (by decide) ?_
   refine bw ?_
   refine d7 9 [0] (by decide +kernel) ?_
   refine cg ?_
   refine aK rfl (.appX (d:=1002) (news:=[ratL (((rows.getD i []).getD j default).w*((rows.getD i []).getD j default).p.y)]) rfl rfl rfl rfl (by simp;omega) (.inl rfl) (by decide) Tryz.underlying159 Tryz.underlying159 cz bF rfl f3 (.inl ⟨58,0,_,rfl,by decide,rfl,rfl,by simp,rfl,by simp [aD,ah.pure]⟩) (by simp;omega) (by simp;omega) (by decide)) ?_
   refine bJ ?_
   refine aY (aP.kill _ 58) ?_
   refine ca ?_
   refine aA ?_
   refine bV ?_
   refine aR (b:=_) rfl (by decide) ?_
   refine bw ?_
   refine d7 9 [0] (by decide +kernel) ?_
   refine cg ?_
   refine aK rfl (.appX (d:=1003) (news:=[ratL (((rows.getD i []).getD j default).w*((rows.getD i []).getD j default).p.z)]) rfl rfl rfl rfl (by simp;omega) (.inl rfl) (by decide) Tryz.underlying159 Tryz.underlying159 cz bF rfl f3 (.inl ⟨58,0,_,rfl,by decide,rfl,rfl,by simp,rfl,by simp [aD,ah.pure]⟩) (by simp;omega) (by simp;omega) (by decide)) ?_
   refine bJ ?_
   refine aY (aP.kill _ 58) ?_
   refine ca ?_
   refine aA ?_
   refine bV ?_
   refine aR (b:=_) rfl (by decide) ?_
   refine bw ?_
   refine d7 9 [0] (by decide +kernel) ?_
   refine cg ?_
   refine aK rfl (.appX (d:=1004) (news:=[ratL (((rows.getD i []).getD j default).w)]) rfl rfl rfl rfl (by simp;omega) (.inl rfl) (by decide) Tryz.underlying159 Tryz.underlying159 cz bF rfl f3 (.inl ⟨58,0,_,rfl,by decide,rfl,rfl,by simp,rfl,by simp [aD,ah.pure]⟩) (by simp;omega) (by simp;omega) (by decide)) ?_
   refine bJ ?_
   refine aY (aP.kill _ 58) ?_
   refine ca ?_
   refine aA ?_
   refine bV ?_
   refine bb (b:=_) rfl (by decide) ?_
   refine bJ ?_
   refine aY (aP.kill _ 7) ?_
   refine aL ?_
   refine ab rfl (.bin rfl rfl (a9 (by omega))) ?_
   refine bx ?_
   exact gk (j+1) (qs++[((rows.getD i []).getD j default)]) (hJ.next hj2)
  ·obtain rfl:j=(rows.getD i []).length:=by omega
   refine cx ?_
   refine ab rfl (.bin rfl rfl (a9 (by omega))) ?_
   refine bx ?_
   exact gk (i+1) qs hJ.last (hm:=by have:=hJ.hi;omega)
 ·have hIi:=hI.hi
  obtain rfl:i=rows.length:=by omega
  have hE:=hI.last
  subst hE
  refine bE ?_
  exact b9 [1001,1002,1003,1004] rfl rfl rfl cs (bX cs rfl) Gy (.agg (.cons (.agg (.cons (.pure rfl) (.cons (.pure rfl) (.cons (bg ah rfl rfl (cV _ 0).symm) .nil)))) (.cons (.agg (.cons (.pure rfl) (.cons (.pure rfl) (.cons (bg ah rfl rfl (cV _ 1).symm) .nil)))) (.cons (.agg (.cons (.pure rfl) (.cons (.pure rfl) (.cons (bg ah rfl rfl (cV _ 2).symm) .nil)))) (.cons (.agg (.cons (.pure rfl) (.cons (.pure rfl) (.cons (bg ah rfl rfl (f5 _).symm) .nil)))) .nil)))))
structure pf (R U V:Nat) (rows:List (List PoR)):Prop where
 r1:1≤R
 rB:R≤1000000
 u1:1≤U
 u3:U≤3
 v1:1≤V
 v3:V≤3
 n:rows.length=U+1
 m:∀ r∈rows,r.length=V+1
 ok:∀ r∈rows,∀ q∈r,jN R q
theorem rC {rows:List (List PoR)} {m:Nat} (h:∀ r∈rows,r.length=m):rows.flatten.length=rows.length*m:=by
 induction rows with
 | nil=>simp
 | cons r rs ih =>
  rw [List.flatten_cons,List.length_append,ih fun x hx=>h x (List.mem_cons_of_mem _ hx),h r (List.mem_cons_self ..),List.length_cons,Nat.succ_mul,Nat.add_comm]
section
variable {R U V:Nat} {rows:List (List PoR)} (h:pf R U V rows)
include h
theorem pf.len:rows.flatten.length=(U+1)*(V+1):=by rw [rC h.m,h.n]
theorem pf.l16:rows.flatten.length≤16:=by
 rw [h.len]
 have h1:=h.u3
 have h2:=h.v3
 exact Nat.le_trans (Nat.mul_le_mul (show U+1≤4 by omega) (show V+1≤4 by omega)) (by decide)
theorem pf.fok:∀ q∈rows.flatten,jN R q:=fun q hq=>by
 obtain⟨r,h1,h2⟩:=List.mem_flatten.1 hq
 exact h.ok r h1 q h2
theorem pf.rw:rwOK rows R:=by
 have h1:=h.u3
 have h2:=h.v3
 have h3:=h.n
 have h4:=h.l16
 exact⟨h.ok,by omega,fun r hr=>by have:=h.m r hr;omega,by omega⟩
theorem pf.nl (k:Nat):(dz rows.flatten k).length=(U+1)*(V+1):=by rw [cV,h.len]
theorem pf.wl:(dL rows.flatten).length=(U+1)*(V+1):=by rw [f5,h.len]
theorem pf.nr (k:Nat):∀ x∈dz rows.flatten k,rl x≤2*R:=xu h.fok k
theorem pf.wr:∀ x∈dL rows.flatten,rl x≤R:=ze h.fok
end
theorem xR {U V i j R:Nat} {c:List Rat} (hU:U≤40) (hV:V≤40) (hc:c.length=(U+1)*(V+1)) (hi:i≤U) (hR:1≤R) (h:∀ x∈c,rl x≤R):rl (sx U V c i j)≤R+4:=by
 have h1:=mV (n:=U) i hU
 have h2:=mV (n:=V) j hV
 have h3:=cY (S:=R) hR (fun x hx=>h x (fZ (V:=V) (i:=i) hx)) j
 have h4:=bA (cR V j) ((io V c i).getD j 0)
 have h5:=bA (cR U i) (cR V j*(io V c i).getD j 0)
 rw [sx,sq,cq hc hi,Nat.add_sub_cancel]
 unfold cR at *
 omega
theorem zE {S U1 V1 U2 V2:Nat} {a b:List Rat} (ha:a.length=(U1+1)*(V1+1)) (hb:b.length=(U2+1)*(V2+1)) (hU1:U1≤3) (hV1:V1≤3) (hU2:U2≤3) (hV2:V2≤3) (hS:1≤S) (haR:∀ x∈a,rl x≤S) (hbR:∀ x∈b,rl x≤S):∀ x∈lp U1 V1 U2 V2 a b,rl x≤224*S+1200:=by
 intro x hx
 have ht:=tZ U1 V1 U2 V2 a b
 obtain⟨k,hk,rfl⟩:=List.getElem_of_mem hx
 rw [ht] at hk
 have h1:k/(V1+V2+1)<U1+U2+1:=Nat.div_lt_of_lt_mul (by rw [Nat.mul_comm];exact hk)
 have h2:=Nat.mod_lt k (show V1+V2+1 > 0 by omega)
 have e:k=k/(V1+V2+1)*(V1+V2+1)+k % (V1+V2+1):=by rw [Nat.mul_comm];exact(Nat.div_add_mod k _).symm
 have e2:(lp U1 V1 U2 V2 a b)[k]=(lp U1 V1 U2 V2 a b).getD k 0:=by rw [List.getD_eq_getElem?_getD,List.getElem?_eq_getElem (by rw [ht];exact hk)];rfl
 rw [e2,e]
 generalize k/(V1+V2+1)=r at *
 generalize k % (V1+V2+1)=s at *
 rw [D1 ha hb (by omega) (by omega)]
 have c1:=mV (n:=U1+U2) r (by omega)
 have c2:=mV (n:=V1+V2) s (by omega)
 have c3:=bA (cR (U1+U2) r) (cR (V1+V2) s)
 have hcf:∀ i,i<U1+1→∀ k,k<U2+1→rl (if i+k=r then cf (sx U1 V1 a i) (sx U2 V2 b k) s else 0)≤14*S+64:=fun i hi k hk=>by
  split
  ·have:=qi (B:=2*S+8) (s+1) (fun j=>sx U1 V1 a i j*sx U2 V2 b k (s-j)) (fun j _=>by
    have g1:=xR (j:=j) (show U1≤40 by omega) (show V1≤40 by omega) ha (show i≤U1 by omega) hS haR
    have g2:=xR (j:=s-j) (show U2≤40 by omega) (show V2≤40 by omega) hb (show k≤U2 by omega) hS hbR
    have g3:=bA (sx U1 V1 a i j) (sx U2 V2 b k (s-j))
    omega)
   refine Nat.le_trans this ?_
   have:(s+1)*(2*S+8+1)≤7*(2*S+8+1):=Nat.mul_le_mul (by omega) (Nat.le_refl _)
   omega
  ·show rl 0≤_
   rw [show rl 0=1 from rfl];omega
 have h3:=qi (B:=56*S+261) (U1+1) _ (fun i hi=>Nat.le_trans (qi (B:=14*S+64) (U2+1) _ (hcf i hi)) (by
  have:(U2+1)*(14*S+64+1)≤4*(14*S+64+1):=Nat.mul_le_mul (by omega) (Nat.le_refl _)
  omega))
 have h4:=ji (F2 U1 V1 U2 V2 a b r s) (cR (U1+U2) r*cR (V1+V2) s)
 have h5:rl (F2 U1 V1 U2 V2 a b r s)≤1+(U1+1)*(56*S+261+1):=h3
 have h6:(U1+1)*(56*S+261+1)≤4*(56*S+261+1):=Nat.mul_le_mul (by omega) (Nat.le_refl _)
 unfold cR at *
 omega
def iD (U V Ud Vd:Nat) (D:List Rat→List Rat) (F:List PoR) (k:Nat):List Rat:=nT (·-·) (lp Ud Vd U V (D (dz F k)) (dL F)) (lp U V Ud Vd (dz F k) (D (dL F)))
structure dfS (U V Ud Vd:Nat) (D:List Rat→List Rat):Prop where
 u:Ud≤3
 v:Vd≤3
 l:∀ c:List Rat,c.length=(U+1)*(V+1)→(D c).length=(Ud+1)*(Vd+1)
 r:∀ (R:Nat) (c:List Rat),1≤R→c.length=(U+1)*(V+1)→(∀ x∈c,rl x≤R)→∀ x∈D c,rl x≤2*R+4
theorem CI {U V:Nat} (hU:U≤3) (hV:V≤3):dfS U V (U-1) V (oH U V) :=
 ⟨by omega,hV,fun c _=>AH U V c,fun R c hR hc h=>DS (R:=R) hc (by omega) hR h⟩
theorem BZ {U V:Nat} (hU:U≤3) (hV:V≤3):dfS U V U (V-1) (oL U V) :=
 ⟨hU,by omega,fun c hc=>Am hc,fun R c hR hc h=>DX (R:=R) hc (by omega) hR h⟩
section
variable {R U V Ud Vd:Nat} {rows:List (List PoR)} {D:List Rat→List Rat} (h:pf R U V rows) (hd:dfS U V Ud Vd D) (k:Nat)
theorem sv (h:pf R U V rows) (hd:dfS U V Ud Vd D) (k:Nat):(lp Ud Vd U V (D (dz rows.flatten k)) (dL rows.flatten)).length=(Ud+U+1)*(Vd+V+1)∧∀ x∈lp Ud Vd U V (D (dz rows.flatten k)) (dL rows.flatten),rl x≤900*R+2100 :=
 ⟨tZ ..,fun x hx=>by
  have hr:=h.r1
  have:=zE (S:=4*R+4) (hd.l _ (h.nl k)) h.wl hd.u hd.v h.u3 h.v3 (by omega) (fun x hx=>by have:=hd.r _ _ (show 1≤2*R by omega) (h.nl k) (h.nr k) x hx;omega) (fun x hx=>by have:=h.wr x hx;omega) x hx
  omega⟩
theorem uY (h:pf R U V rows) (hd:dfS U V Ud Vd D) (k:Nat):(lp U V Ud Vd (dz rows.flatten k) (D (dL rows.flatten))).length=(Ud+U+1)*(Vd+V+1)∧∀ x∈lp U V Ud Vd (dz rows.flatten k) (D (dL rows.flatten)),rl x≤900*R+2100 :=
 ⟨by rw [tZ,Nat.add_comm U Ud,Nat.add_comm V Vd],fun x hx=>by
  have hr:=h.r1
  have:=zE (S:=4*R+4) (h.nl k) (hd.l _ h.wl) h.u3 h.v3 hd.u hd.v (by omega) (fun x hx=>by have:=h.nr k x hx;omega) (fun x hx=>by have:=hd.r _ _ hr h.wl h.wr x hx;omega) x hx
  omega⟩
theorem kD (h:pf R U V rows) (hd:dfS U V Ud Vd D) (k:Nat):(iD U V Ud Vd D rows.flatten k).length=(Ud+U+1)*(Vd+V+1):=by rw [iD,rS];exact(sv h hd k).1
theorem oz (h:pf R U V rows) (hd:dfS U V Ud Vd D) (k:Nat):∀ x∈iD U V Ud Vd D rows.flatten k,rl x≤1800*R+4201:=fun x hx=>by
 have:=A3 (R:=900*R+2100) fo (by omega) (sv h hd k).2 (uY h hd k).2 x hx
 omega
theorem Ez {a b:Nat} (ha:a≤6) (hb:b≤6):(a+1)*(b+1)≤49:=Nat.le_trans (Nat.mul_le_mul (show a+1≤7 by omega) (show b+1≤7 by omega)) (by decide)
end
def yS (x:Rat):Prop:=rl (1-x)+rl x+1≤20
theorem pX {R U V:Nat} {c:List Rat} {u v:Rat} (hc:c.length=(U+1)*(V+1)) (hU:U≤6) (hV:V≤6) (hR1:1≤R) (hR:R≤100000) (h:∀ x∈c,rl x≤R) (hu:yS u) (hv:yS v) :
  (∀ j,j≤V→HS (io U (iX U V c) j) u)∧HS (qI U V c u) v∧(∀ i,i≤U→HS (io V c i) v)∧HS (xY U V c v) u∧rl (ja U V c u v)≤4100*(R+30):=by
 unfold yS at hu hv
 have h1:∀ j,j≤V→∀ x∈io U (iX U V c) j,rl x≤R:=fun j _ x hx=>h x (uq hc (fZ hx))
 have h2:∀ j,j≤V→(io U (iX U V c) j).length=U+1:=fun j hj=>cq (eE U V c) hj
 have h3:∀ i,i≤U→∀ x∈io V c i,rl x≤R:=fun j _ x hx=>h x (fZ hx)
 have h4:∀ i,i≤U→(io V c i).length=V+1:=fun j hj=>cq hc hj
 have p6:∀ n,n≤6→2 ^ n≤64:=fun n hn=>Nat.pow_le_pow_right (n:=2) (by decide) hn
 have hrow:∀ x∈qI U V c u,rl x≤(R+20)*64:=jr (U:=V) (fun j hj x hx=>by
  rw [List.mem_singleton.1 hx]
  have:=zY (p:=io U (iX U V c) j) (t:=u) (by rw [h2 j hj];omega) hR1 (h1 j hj)
  rw [h2 j hj,Nat.add_sub_cancel] at this
  exact Nat.le_trans this (Nat.mul_le_mul (by omega) (p6 U hU))) (Nat.le_refl _)
 have hcol:∀ x∈xY U V c v,rl x≤(R+20)*64:=jr (U:=U) (fun i hi x hx=>by
  rw [List.mem_singleton.1 hx]
  have:=zY (p:=io V c i) (t:=v) (by rw [h4 i hi];omega) hR1 (h3 i hi)
  rw [h4 i hi,Nat.add_sub_cancel] at this
  exact Nat.le_trans this (Nat.mul_le_mul (by omega) (p6 V hV))) (Nat.le_refl _)
 refine⟨fun j hj=>qW (by rw [h2 j hj];omega) (fun y hy=>by have:=h1 j hj y hy;omega) (by omega),qW (by rw [kS];omega) (fun y hy=>by have:=hrow y hy;omega) (by omega),
  fun j hj=>qW (by rw [h4 j hj];omega) (fun y hy=>by have:=h3 j hj y hy;omega) (by omega),qW (by rw [zK];omega) (fun y hy=>by have:=hcol y hy;omega) (by omega),?_⟩
 have:=zY (p:=qI U V c u) (t:=v) (by rw [kS];omega) (show 1≤(R+20)*64 by omega) hrow
 rw [kS,Nat.add_sub_cancel] at this
 refine Nat.le_trans this (Nat.le_trans (Nat.mul_le_mul (show _≤(R+20)*64+20 by omega) (p6 V hV)) ?_)
 omega
namespace LP
theorem bQ {p q:Prop} (k:q) (e:p=q:=by simp only [e1,e2,e3,e4,p1,p2,p3,q1,q2,q3,l1,t0,t1,r1,r2,r3,r4,Nat.zero_add,Nat.reduceMul,Nat.reduceAdd,b1,b2,b3,b4,b5,b6,i1,i2,i3,i4,i5,i6,Nat.reduceBEq,dU,hkl,hlo,hhi,List.length_map,List.set_cons_zero,List.set_cons_succ,Nat.reduceEqDiff,reduceIte,if_true,if_false,aN,aM,ae cT,ae cA,ae ah,ax,aC,LV.kill,aH];exact rfl):p:=e.mpr k
end LP
open LP in
theorem vF (d:Nat) (a b:Rat) (ha:rl a≤100) (hb:rl b≤100) (hab:a<b) (h9:d≤6):ap Tryz.prog 129 [.list 3 ((iF d a b).map ratL)] (spL (a,b)):=by
 have hkl:=Au d a b
 have hlo:=DN d a b
 have hhi:=Do d a b
 have hkp:=ak ah 3 (iF d a b)
 have hS:=B0 a b (by omega)
 rw [CW hab,Eh hab] at hS
 refine bS Tryz.func129 ?_
 refine ct ?_
 refine an rfl (fun h5r h5=>?_) (fun h5r h5=>?_)
 ·omega
 ·refine bx ?_
  refine au 10 (by decide +kernel) ?_
  refine bJ ?_
  refine ab rfl (.bin rfl rfl (ee (by omega) (by omega))) ?_
  refine bG ?_
  try simp only [t1,dU,hkl,hlo,hhi,List.length_map]
  refine cp bf (hS) ?_
  refine bw ?_
  exact b9 [] rfl rfl rfl (fb.csize _) (f6 _) Ad (.pure (fb.pure _))
namespace Ls
theorem bQ {p q:Prop} (k:q) (e:p=q:=by simp only [e1,e2,e3,e4,p1,p2,p3,q1,q2,q3,l1,t0,t1,r1,r2,r3,r4,Nat.zero_add,Nat.reduceMul,Nat.reduceAdd,b1,b2,b3,b4,b5,b6,i1,i2,i3,i4,i5,i6,Nat.reduceBEq,cb,ae dW,dE,dU,aQ,bo,aW,List.length_cons,List.length_nil,List.nil_append,List.map_nil,List.take_nil,List.append_nil,List.set_cons_zero,List.set_cons_succ,Nat.reduceEqDiff,reduceIte,if_true,if_false,aN,aM,ae cT,ae cA,ae ah,ax,aC,LV.kill,aH];exact rfl):p:=e.mpr k
end Ls
open Ls in
theorem Dx (U V:Nat) (ua ub va vb:Rat) (rows:List (List PoR)) (hua:rl ua≤100) (hub:rl ub≤100) (hva:rl va≤100) (hvb:rl vb≤100) (hu:ua<ub) (hv:va<vb) (hU:U≤6) (hV:V≤6):ap Tryz.prog 64 [.agg [ai U,ai V,.list 3 ((iF U ua ub).map ratL),.list 3 ((iF V va vb).map ratL),.list 1 (rows.map bu)]] (.tup [spL (ua,ub),spL (va,vb)]):=by
 have hsp:LV.pure (.agg [ai U,ai V,.list 3 ((iF U ua ub).map ratL),.list 3 ((iF V va vb).map ratL),.list 1 (rows.map bu)])=true:=by simp [LV.pure,aD,al ah,al dW]
 have hku:=ak ah 3 (iF U ua ub)
 have hkv:=ak ah 3 (iF V va vb)
 refine bS Tryz.func64 (ht:=(fv (fb.pure _) (fb.pure _))) ?_
 refine cx ?_
 refine au 6 (by decide +kernel) ?_
 refine bG ?_
 refine cp bK (vF U ua ub hua hub hu hU) ?_
 refine bG ?_
 refine cp bK (vF V va vb hva hvb hv hV) ?_
 refine ca ?_
 exact FI [] rfl rfl rfl (fb.csize _) (f6 _) Ad (.pure (fb.pure _)) rfl rfl (fb.csize _) (f6 _) Ad (.pure (fb.pure _))
namespace LA
theorem bQ {p q:Prop} (k:q) (e:p=q:=by simp only [e1,e2,e3,e4,p1,p2,p3,q1,q2,q3,l1,t0,t1,r1,r2,r3,r4,Nat.zero_add,Nat.reduceMul,Nat.reduceAdd,b1,b2,b3,b4,b5,b6,i1,i2,i3,i4,i5,i6,Nat.reduceBEq,List.set_cons_zero,List.set_cons_succ,Nat.reduceEqDiff,reduceIte,if_true,if_false,aN,aM,ae cT,ae cA,ae ah,ax,aC,LV.kill,aH];exact rfl):p:=e.mpr k
end LA
open LA in
theorem xa (a b t:Rat) (ha:rl a≤100) (hb:rl b≤100) (hab:a<b) (ht:rl t≤100) (hi:mg (a,b) t=true):ap Tryz.prog 65 [spL (a,b),ratL t] (.tup [ratL ((t-a)/(b-a)),ratL (b-a),bL true]):=by
 have hz1:=fo t a
 have hz2:=fo b a
 have hW:ap Tryz.prog 110 [spL (a,b)] (ratL (b-a)):=xg (a,b) (by show rl b+rl a≤_;omega)
 have hQ:ap Tryz.prog 68 [ratL (t-a),ratL (b-a)] (.tup [ratL ((t-a)/(b-a)),iL 0]):=by
  have:=qC (t-a) (b-a) (by omega)
  rwa [if_neg (by grind)] at this
 have hH:ap Tryz.prog 130 [spL (a,b),ratL t] (bL true):=by
  have:=De (a,b) t (by show rl a+rl t≤_;omega) (by show rl t+rl b≤_;omega)
  rwa [hi] at this
 refine bS Tryz.func65 (ht:=(vr (ah.pure _) (ah.pure _) rfl)) ?_
 refine dI ?_
 refine cp bf (hH) ?_
 refine bx ?_
 refine an rfl (fun h11r h11=>?_) (fun h11r h11=>?_)
 ·first | exact h11.elim | cases h11r
 ·refine ca ?_
  refine cp bK (hW) ?_
  refine bw ?_
  refine d7 9 [8] (by decide +kernel) ?_
  refine bx ?_
  refine cp bf (gg t a (by omega)) ?_
  refine aL ?_
  refine cp bf (hQ) ?_
  refine cx ?_
  refine jO ?_
  refine nx 0 1 2 _ _ _ (by decide +kernel) rfl rfl rfl ?_ ?_ ?_
  ·refine aL ?_
   refine aj ?_
   refine nx 1 2 4 _ _ _ (by decide +kernel) rfl rfl rfl ?_ ?_ ?_
   ·refine aL ?_
    refine aj ?_
    refine bY 2 4 _ _ (by decide +kernel) rfl rfl ?_ ?_
    ·refine aL ?_
     refine aj ?_
     refine bY 3 4 _ _ (by decide +kernel) rfl rfl ?_ ?_
     ·refine aL ?_
      refine aj ?_
      refine aq 4 _ (by decide +kernel) rfl ?_
      refine aL ?_
      refine aj ?_
      refine aq 5 _ (by decide +kernel) rfl ?_
      refine aL ?_
      refine aj ?_
      refine aq 6 _ (by decide +kernel) rfl ?_
      refine aL ?_
      refine aj ?_
      refine bq (by decide +kernel) ?_
      refine bG ?_
      exact bW [] rfl rfl rfl (ah.csize _) (am _) bF (.pure (ah.pure _)) rfl rfl (ah.csize _) (am _) bF (.pure (ah.pure _)) rfl (.pure rfl)
     ·refine aL ?_
      refine aj ?_
      refine bY 3 5 _ _ (by decide +kernel) rfl rfl ?_ ?_
      ·refine aL ?_
       refine aj ?_
       refine aq 5 _ (by decide +kernel) rfl ?_
       refine aL ?_
       refine aj ?_
       refine aq 6 _ (by decide +kernel) rfl ?_
       refine aL ?_
       refine aj ?_
       refine bq (by decide +kernel) ?_
       refine bG ?_
       exact bW [] rfl rfl rfl (ah.csize _) (am _) bF (.pure (ah.pure _)) rfl rfl (ah.csize _) (am _) bF (.pure (ah.pure _)) rfl (.pure rfl)
      ·refine aL ?_
       refine aj ?_
       refine aq 3 _ (by decide +kernel) rfl ?_
       refine aL ?_
       refine aj ?_
       refine aq 6 _ (by decide +kernel) rfl ?_
       refine aL ?_
       refine aj ?_
       refine bq (by decide +kernel) ?_
       refine bG ?_
       exact bW [] rfl rfl rfl (ah.csize _) (am _) bF (.pure (ah.pure _)) rfl rfl (ah.csize _) (am _) bF (.pure (ah.pure _)) rfl (.pure rfl)
    ·refine aL ?_
     refine aj ?_
     refine bY 2 5 _ _ (by decide +kernel) rfl rfl ?_ ?_
     ·refine aL ?_
      refine aj ?_
      refine bY 3 5 _ _ (by decide +kernel) rfl rfl ?_ ?_
      ·refine aL ?_
       refine aj ?_
       refine aq 5 _ (by decide +kernel) rfl ?_
       refine aL ?_
       refine aj ?_
       refine aq 6 _ (by decide +kernel) rfl ?_
       refine aL ?_
       refine aj ?_
       refine bq (by decide +kernel) ?_
       refine bG ?_
       exact bW [] rfl rfl rfl (ah.csize _) (am _) bF (.pure (ah.pure _)) rfl rfl (ah.csize _) (am _) bF (.pure (ah.pure _)) rfl (.pure rfl)
      ·refine aL ?_
       refine aj ?_
       refine aq 3 _ (by decide +kernel) rfl ?_
       refine aL ?_
       refine aj ?_
       refine aq 6 _ (by decide +kernel) rfl ?_
       refine aL ?_
       refine aj ?_
       refine bq (by decide +kernel) ?_
       refine bG ?_
       exact bW [] rfl rfl rfl (ah.csize _) (am _) bF (.pure (ah.pure _)) rfl rfl (ah.csize _) (am _) bF (.pure (ah.pure _)) rfl (.pure rfl)
     ·refine aL ?_
      refine aj ?_
      refine aq 2 _ (by decide +kernel) rfl ?_
      refine aL ?_
      refine aj ?_
      refine aq 3 _ (by decide +kernel) rfl ?_
      refine aL ?_
      refine aj ?_
      refine aq 6 _ (by decide +kernel) rfl ?_
      refine aL ?_
      refine aj ?_
      refine bq (by decide +kernel) ?_
      refine bG ?_
      exact bW [] rfl rfl rfl (ah.csize _) (am _) bF (.pure (ah.pure _)) rfl rfl (ah.csize _) (am _) bF (.pure (ah.pure _)) rfl (.pure rfl)
   ·refine aL ?_
    refine aj ?_
    refine nx 1 3 4 _ _ _ (by decide +kernel) rfl rfl rfl ?_ ?_ ?_
    ·refine aL ?_
     refine aj ?_
     refine bY 3 4 _ _ (by decide +kernel) rfl rfl ?_ ?_
     ·refine aL ?_
      refine aj ?_
      refine aq 4 _ (by decide +kernel) rfl ?_
      refine aL ?_
      refine aj ?_
      refine aq 5 _ (by decide +kernel) rfl ?_
      refine aL ?_
      refine aj ?_
      refine aq 6 _ (by decide +kernel) rfl ?_
      refine aL ?_
      refine aj ?_
      refine bq (by decide +kernel) ?_
      refine bG ?_
      exact bW [] rfl rfl rfl (ah.csize _) (am _) bF (.pure (ah.pure _)) rfl rfl (ah.csize _) (am _) bF (.pure (ah.pure _)) rfl (.pure rfl)
     ·refine aL ?_
      refine aj ?_
      refine bY 3 5 _ _ (by decide +kernel) rfl rfl ?_ ?_
      ·refine aL ?_
       refine aj ?_
       refine aq 5 _ (by decide +kernel) rfl ?_
       refine aL ?_
       refine aj ?_
       refine aq 6 _ (by decide +kernel) rfl ?_
       refine aL ?_
       refine aj ?_
       refine bq (by decide +kernel) ?_
       refine bG ?_
       exact bW [] rfl rfl rfl (ah.csize _) (am _) bF (.pure (ah.pure _)) rfl rfl (ah.csize _) (am _) bF (.pure (ah.pure _)) rfl (.pure rfl)
      ·refine aL ?_
       refine aj ?_
       refine aq 3 _ (by decide +kernel) rfl ?_
       refine aL ?_
       refine aj ?_
       refine aq 6 _ (by decide +kernel) rfl ?_
       refine aL ?_
       refine aj ?_
       refine bq (by decide +kernel) ?_
       refine bG ?_
       exact bW [] rfl rfl rfl (ah.csize _) (am _) bF (.pure (ah.pure _)) rfl rfl (ah.csize _) (am _) bF (.pure (ah.pure _)) rfl (.pure rfl)
    ·refine aL ?_
     refine aj ?_
     refine bY 1 4 _ _ (by decide +kernel) rfl rfl ?_ ?_
     ·refine aL ?_
      refine aj ?_
      refine aq 4 _ (by decide +kernel) rfl ?_
      refine aL ?_
      refine aj ?_
      refine aq 5 _ (by decide +kernel) rfl ?_
      refine aL ?_
      refine aj ?_
      refine aq 6 _ (by decide +kernel) rfl ?_
      refine aL ?_
      refine aj ?_
      refine bq (by decide +kernel) ?_
      refine bG ?_
      exact bW [] rfl rfl rfl (ah.csize _) (am _) bF (.pure (ah.pure _)) rfl rfl (ah.csize _) (am _) bF (.pure (ah.pure _)) rfl (.pure rfl)
     ·refine aL ?_
      refine aj ?_
      refine aq 1 _ (by decide +kernel) rfl ?_
      refine aL ?_
      refine aj ?_
      refine aq 5 _ (by decide +kernel) rfl ?_
      refine aL ?_
      refine aj ?_
      refine aq 6 _ (by decide +kernel) rfl ?_
      refine aL ?_
      refine aj ?_
      refine bq (by decide +kernel) ?_
      refine bG ?_
      exact bW [] rfl rfl rfl (ah.csize _) (am _) bF (.pure (ah.pure _)) rfl rfl (ah.csize _) (am _) bF (.pure (ah.pure _)) rfl (.pure rfl)
    ·refine aL ?_
     refine aj ?_
     refine bY 1 3 _ _ (by decide +kernel) rfl rfl ?_ ?_
     ·refine aL ?_
      refine aj ?_
      refine bY 3 5 _ _ (by decide +kernel) rfl rfl ?_ ?_
      ·refine aL ?_
       refine aj ?_
       refine aq 5 _ (by decide +kernel) rfl ?_
       refine aL ?_
       refine aj ?_
       refine aq 6 _ (by decide +kernel) rfl ?_
       refine aL ?_
       refine aj ?_
       refine bq (by decide +kernel) ?_
       refine bG ?_
       exact bW [] rfl rfl rfl (ah.csize _) (am _) bF (.pure (ah.pure _)) rfl rfl (ah.csize _) (am _) bF (.pure (ah.pure _)) rfl (.pure rfl)
      ·refine aL ?_
       refine aj ?_
       refine aq 3 _ (by decide +kernel) rfl ?_
       refine aL ?_
       refine aj ?_
       refine aq 6 _ (by decide +kernel) rfl ?_
       refine aL ?_
       refine aj ?_
       refine bq (by decide +kernel) ?_
       refine bG ?_
       exact bW [] rfl rfl rfl (ah.csize _) (am _) bF (.pure (ah.pure _)) rfl rfl (ah.csize _) (am _) bF (.pure (ah.pure _)) rfl (.pure rfl)
     ·refine aL ?_
      refine aj ?_
      refine aq 1 _ (by decide +kernel) rfl ?_
      refine aL ?_
      refine aj ?_
      refine aq 5 _ (by decide +kernel) rfl ?_
      refine aL ?_
      refine aj ?_
      refine aq 6 _ (by decide +kernel) rfl ?_
      refine aL ?_
      refine aj ?_
      refine bq (by decide +kernel) ?_
      refine bG ?_
      exact bW [] rfl rfl rfl (ah.csize _) (am _) bF (.pure (ah.pure _)) rfl rfl (ah.csize _) (am _) bF (.pure (ah.pure _)) rfl (.pure rfl)
   ·refine aL ?_
    refine aj ?_
    refine bY 1 2 _ _ (by decide +kernel) rfl rfl ?_ ?_
    ·refine aL ?_
     refine aj ?_
     refine bY 2 5 _ _ (by decide +kernel) rfl rfl ?_ ?_
     ·refine aL ?_
      refine aj ?_
      refine bY 3 5 _ _ (by decide +kernel) rfl rfl ?_ ?_
      ·refine aL ?_
       refine aj ?_
       refine aq 5 _ (by decide +kernel) rfl ?_
       refine aL ?_
       refine aj ?_
       refine aq 6 _ (by decide +kernel) rfl ?_
       refine aL ?_
       refine aj ?_
       refine bq (by decide +kernel) ?_
       refine bG ?_
       exact bW [] rfl rfl rfl (ah.csize _) (am _) bF (.pure (ah.pure _)) rfl rfl (ah.csize _) (am _) bF (.pure (ah.pure _)) rfl (.pure rfl)
      ·refine aL ?_
       refine aj ?_
       refine aq 3 _ (by decide +kernel) rfl ?_
       refine aL ?_
       refine aj ?_
       refine aq 6 _ (by decide +kernel) rfl ?_
       refine aL ?_
       refine aj ?_
       refine bq (by decide +kernel) ?_
       refine bG ?_
       exact bW [] rfl rfl rfl (ah.csize _) (am _) bF (.pure (ah.pure _)) rfl rfl (ah.csize _) (am _) bF (.pure (ah.pure _)) rfl (.pure rfl)
     ·refine aL ?_
      refine aj ?_
      refine aq 2 _ (by decide +kernel) rfl ?_
      refine aL ?_
      refine aj ?_
      refine aq 3 _ (by decide +kernel) rfl ?_
      refine aL ?_
      refine aj ?_
      refine aq 6 _ (by decide +kernel) rfl ?_
      refine aL ?_
      refine aj ?_
      refine bq (by decide +kernel) ?_
      refine bG ?_
      exact bW [] rfl rfl rfl (ah.csize _) (am _) bF (.pure (ah.pure _)) rfl rfl (ah.csize _) (am _) bF (.pure (ah.pure _)) rfl (.pure rfl)
    ·refine aL ?_
     refine aj ?_
     refine bY 1 3 _ _ (by decide +kernel) rfl rfl ?_ ?_
     ·refine aL ?_
      refine aj ?_
      refine bY 3 5 _ _ (by decide +kernel) rfl rfl ?_ ?_
      ·refine aL ?_
       refine aj ?_
       refine aq 5 _ (by decide +kernel) rfl ?_
       refine aL ?_
       refine aj ?_
       refine aq 6 _ (by decide +kernel) rfl ?_
       refine aL ?_
       refine aj ?_
       refine bq (by decide +kernel) ?_
       refine bG ?_
       exact bW [] rfl rfl rfl (ah.csize _) (am _) bF (.pure (ah.pure _)) rfl rfl (ah.csize _) (am _) bF (.pure (ah.pure _)) rfl (.pure rfl)
      ·refine aL ?_
       refine aj ?_
       refine aq 3 _ (by decide +kernel) rfl ?_
       refine aL ?_
       refine aj ?_
       refine aq 6 _ (by decide +kernel) rfl ?_
       refine aL ?_
       refine aj ?_
       refine bq (by decide +kernel) ?_
       refine bG ?_
       exact bW [] rfl rfl rfl (ah.csize _) (am _) bF (.pure (ah.pure _)) rfl rfl (ah.csize _) (am _) bF (.pure (ah.pure _)) rfl (.pure rfl)
     ·refine aL ?_
      refine aj ?_
      refine aq 1 _ (by decide +kernel) rfl ?_
      refine aL ?_
      refine aj ?_
      refine aq 5 _ (by decide +kernel) rfl ?_
      refine aL ?_
      refine aj ?_
      refine aq 6 _ (by decide +kernel) rfl ?_
      refine aL ?_
      refine aj ?_
      refine bq (by decide +kernel) ?_
      refine bG ?_
      exact bW [] rfl rfl rfl (ah.csize _) (am _) bF (.pure (ah.pure _)) rfl rfl (ah.csize _) (am _) bF (.pure (ah.pure _)) rfl (.pure rfl)
  ·refine aL ?_
   refine aj ?_
   refine bY 0 2 _ _ (by decide +kernel) rfl rfl ?_ ?_
   ·refine aL ?_
    refine aj ?_
    refine bY 2 4 _ _ (by decide +kernel) rfl rfl ?_ ?_
    ·refine aL ?_
     refine aj ?_
     refine bY 3 4 _ _ (by decide +kernel) rfl rfl ?_ ?_
     ·refine aL ?_
      refine aj ?_
      refine aq 4 _ (by decide +kernel) rfl ?_
      refine aL ?_
      refine aj ?_
      refine aq 5 _ (by decide +kernel) rfl ?_
      refine aL ?_
      refine aj ?_
      refine aq 6 _ (by decide +kernel) rfl ?_
      refine aL ?_
      refine aj ?_
      refine bq (by decide +kernel) ?_
      refine bG ?_
      exact bW [] rfl rfl rfl (ah.csize _) (am _) bF (.pure (ah.pure _)) rfl rfl (ah.csize _) (am _) bF (.pure (ah.pure _)) rfl (.pure rfl)
     ·refine aL ?_
      refine aj ?_
      refine bY 3 5 _ _ (by decide +kernel) rfl rfl ?_ ?_
      ·refine aL ?_
       refine aj ?_
       refine aq 5 _ (by decide +kernel) rfl ?_
       refine aL ?_
       refine aj ?_
       refine aq 6 _ (by decide +kernel) rfl ?_
       refine aL ?_
       refine aj ?_
       refine bq (by decide +kernel) ?_
       refine bG ?_
       exact bW [] rfl rfl rfl (ah.csize _) (am _) bF (.pure (ah.pure _)) rfl rfl (ah.csize _) (am _) bF (.pure (ah.pure _)) rfl (.pure rfl)
      ·refine aL ?_
       refine aj ?_
       refine aq 3 _ (by decide +kernel) rfl ?_
       refine aL ?_
       refine aj ?_
       refine aq 6 _ (by decide +kernel) rfl ?_
       refine aL ?_
       refine aj ?_
       refine bq (by decide +kernel) ?_
       refine bG ?_
       exact bW [] rfl rfl rfl (ah.csize _) (am _) bF (.pure (ah.pure _)) rfl rfl (ah.csize _) (am _) bF (.pure (ah.pure _)) rfl (.pure rfl)
    ·refine aL ?_
     refine aj ?_
     refine bY 2 5 _ _ (by decide +kernel) rfl rfl ?_ ?_
     ·refine aL ?_
      refine aj ?_
      refine bY 3 5 _ _ (by decide +kernel) rfl rfl ?_ ?_
      ·refine aL ?_
       refine aj ?_
       refine aq 5 _ (by decide +kernel) rfl ?_
       refine aL ?_
       refine aj ?_
       refine aq 6 _ (by decide +kernel) rfl ?_
       refine aL ?_
       refine aj ?_
       refine bq (by decide +kernel) ?_
       refine bG ?_
       exact bW [] rfl rfl rfl (ah.csize _) (am _) bF (.pure (ah.pure _)) rfl rfl (ah.csize _) (am _) bF (.pure (ah.pure _)) rfl (.pure rfl)
      ·refine aL ?_
       refine aj ?_
       refine aq 3 _ (by decide +kernel) rfl ?_
       refine aL ?_
       refine aj ?_
       refine aq 6 _ (by decide +kernel) rfl ?_
       refine aL ?_
       refine aj ?_
       refine bq (by decide +kernel) ?_
       refine bG ?_
       exact bW [] rfl rfl rfl (ah.csize _) (am _) bF (.pure (ah.pure _)) rfl rfl (ah.csize _) (am _) bF (.pure (ah.pure _)) rfl (.pure rfl)
     ·refine aL ?_
      refine aj ?_
      refine aq 2 _ (by decide +kernel) rfl ?_
      refine aL ?_
      refine aj ?_
      refine aq 3 _ (by decide +kernel) rfl ?_
      refine aL ?_
      refine aj ?_
      refine aq 6 _ (by decide +kernel) rfl ?_
      refine aL ?_
      refine aj ?_
      refine bq (by decide +kernel) ?_
      refine bG ?_
      exact bW [] rfl rfl rfl (ah.csize _) (am _) bF (.pure (ah.pure _)) rfl rfl (ah.csize _) (am _) bF (.pure (ah.pure _)) rfl (.pure rfl)
   ·refine aL ?_
    refine aj ?_
    refine bY 0 3 _ _ (by decide +kernel) rfl rfl ?_ ?_
    ·refine aL ?_
     refine aj ?_
     refine bY 3 4 _ _ (by decide +kernel) rfl rfl ?_ ?_
     ·refine aL ?_
      refine aj ?_
      refine aq 4 _ (by decide +kernel) rfl ?_
      refine aL ?_
      refine aj ?_
      refine aq 5 _ (by decide +kernel) rfl ?_
      refine aL ?_
      refine aj ?_
      refine aq 6 _ (by decide +kernel) rfl ?_
      refine aL ?_
      refine aj ?_
      refine bq (by decide +kernel) ?_
      refine bG ?_
      exact bW [] rfl rfl rfl (ah.csize _) (am _) bF (.pure (ah.pure _)) rfl rfl (ah.csize _) (am _) bF (.pure (ah.pure _)) rfl (.pure rfl)
     ·refine aL ?_
      refine aj ?_
      refine bY 3 5 _ _ (by decide +kernel) rfl rfl ?_ ?_
      ·refine aL ?_
       refine aj ?_
       refine aq 5 _ (by decide +kernel) rfl ?_
       refine aL ?_
       refine aj ?_
       refine aq 6 _ (by decide +kernel) rfl ?_
       refine aL ?_
       refine aj ?_
       refine bq (by decide +kernel) ?_
       refine bG ?_
       exact bW [] rfl rfl rfl (ah.csize _) (am _) bF (.pure (ah.pure _)) rfl rfl (ah.csize _) (am _) bF (.pure (ah.pure _)) rfl (.pure rfl)
      ·refine aL ?_
       refine aj ?_
       refine aq 3 _ (by decide +kernel) rfl ?_
       refine aL ?_
       refine aj ?_
       refine aq 6 _ (by decide +kernel) rfl ?_
       refine aL ?_
       refine aj ?_
       refine bq (by decide +kernel) ?_
       refine bG ?_
       exact bW [] rfl rfl rfl (ah.csize _) (am _) bF (.pure (ah.pure _)) rfl rfl (ah.csize _) (am _) bF (.pure (ah.pure _)) rfl (.pure rfl)
    ·refine aL ?_
     refine aj ?_
     refine aq 0 _ (by decide +kernel) rfl ?_
     refine aL ?_
     refine aj ?_
     refine aq 4 _ (by decide +kernel) rfl ?_
     refine aL ?_
     refine aj ?_
     refine aq 5 _ (by decide +kernel) rfl ?_
     refine aL ?_
     refine aj ?_
     refine aq 6 _ (by decide +kernel) rfl ?_
     refine aL ?_
     refine aj ?_
     refine bq (by decide +kernel) ?_
     refine bG ?_
     exact bW [] rfl rfl rfl (ah.csize _) (am _) bF (.pure (ah.pure _)) rfl rfl (ah.csize _) (am _) bF (.pure (ah.pure _)) rfl (.pure rfl)
  ·refine aL ?_
   refine aj ?_
   refine nx 0 1 3 _ _ _ (by decide +kernel) rfl rfl rfl ?_ ?_ ?_
   ·refine aL ?_
    refine aj ?_
    refine nx 1 3 4 _ _ _ (by decide +kernel) rfl rfl rfl ?_ ?_ ?_
    ·refine aL ?_
     refine aj ?_
     refine bY 3 4 _ _ (by decide +kernel) rfl rfl ?_ ?_
     ·refine aL ?_
      refine aj ?_
      refine aq 4 _ (by decide +kernel) rfl ?_
      refine aL ?_
      refine aj ?_
      refine aq 5 _ (by decide +kernel) rfl ?_
      refine aL ?_
      refine aj ?_
      refine aq 6 _ (by decide +kernel) rfl ?_
      refine aL ?_
      refine aj ?_
      refine bq (by decide +kernel) ?_
      refine bG ?_
      exact bW [] rfl rfl rfl (ah.csize _) (am _) bF (.pure (ah.pure _)) rfl rfl (ah.csize _) (am _) bF (.pure (ah.pure _)) rfl (.pure rfl)
     ·refine aL ?_
      refine aj ?_
      refine bY 3 5 _ _ (by decide +kernel) rfl rfl ?_ ?_
      ·refine aL ?_
       refine aj ?_
       refine aq 5 _ (by decide +kernel) rfl ?_
       refine aL ?_
       refine aj ?_
       refine aq 6 _ (by decide +kernel) rfl ?_
       refine aL ?_
       refine aj ?_
       refine bq (by decide +kernel) ?_
       refine bG ?_
       exact bW [] rfl rfl rfl (ah.csize _) (am _) bF (.pure (ah.pure _)) rfl rfl (ah.csize _) (am _) bF (.pure (ah.pure _)) rfl (.pure rfl)
      ·refine aL ?_
       refine aj ?_
       refine aq 3 _ (by decide +kernel) rfl ?_
       refine aL ?_
       refine aj ?_
       refine aq 6 _ (by decide +kernel) rfl ?_
       refine aL ?_
       refine aj ?_
       refine bq (by decide +kernel) ?_
       refine bG ?_
       exact bW [] rfl rfl rfl (ah.csize _) (am _) bF (.pure (ah.pure _)) rfl rfl (ah.csize _) (am _) bF (.pure (ah.pure _)) rfl (.pure rfl)
    ·refine aL ?_
     refine aj ?_
     refine bY 1 4 _ _ (by decide +kernel) rfl rfl ?_ ?_
     ·refine aL ?_
      refine aj ?_
      refine aq 4 _ (by decide +kernel) rfl ?_
      refine aL ?_
      refine aj ?_
      refine aq 5 _ (by decide +kernel) rfl ?_
      refine aL ?_
      refine aj ?_
      refine aq 6 _ (by decide +kernel) rfl ?_
      refine aL ?_
      refine aj ?_
      refine bq (by decide +kernel) ?_
      refine bG ?_
      exact bW [] rfl rfl rfl (ah.csize _) (am _) bF (.pure (ah.pure _)) rfl rfl (ah.csize _) (am _) bF (.pure (ah.pure _)) rfl (.pure rfl)
     ·refine aL ?_
      refine aj ?_
      refine aq 1 _ (by decide +kernel) rfl ?_
      refine aL ?_
      refine aj ?_
      refine aq 5 _ (by decide +kernel) rfl ?_
      refine aL ?_
      refine aj ?_
      refine aq 6 _ (by decide +kernel) rfl ?_
      refine aL ?_
      refine aj ?_
      refine bq (by decide +kernel) ?_
      refine bG ?_
      exact bW [] rfl rfl rfl (ah.csize _) (am _) bF (.pure (ah.pure _)) rfl rfl (ah.csize _) (am _) bF (.pure (ah.pure _)) rfl (.pure rfl)
    ·refine aL ?_
     refine aj ?_
     refine bY 1 3 _ _ (by decide +kernel) rfl rfl ?_ ?_
     ·refine aL ?_
      refine aj ?_
      refine bY 3 5 _ _ (by decide +kernel) rfl rfl ?_ ?_
      ·refine aL ?_
       refine aj ?_
       refine aq 5 _ (by decide +kernel) rfl ?_
       refine aL ?_
       refine aj ?_
       refine aq 6 _ (by decide +kernel) rfl ?_
       refine aL ?_
       refine aj ?_
       refine bq (by decide +kernel) ?_
       refine bG ?_
       exact bW [] rfl rfl rfl (ah.csize _) (am _) bF (.pure (ah.pure _)) rfl rfl (ah.csize _) (am _) bF (.pure (ah.pure _)) rfl (.pure rfl)
      ·refine aL ?_
       refine aj ?_
       refine aq 3 _ (by decide +kernel) rfl ?_
       refine aL ?_
       refine aj ?_
       refine aq 6 _ (by decide +kernel) rfl ?_
       refine aL ?_
       refine aj ?_
       refine bq (by decide +kernel) ?_
       refine bG ?_
       exact bW [] rfl rfl rfl (ah.csize _) (am _) bF (.pure (ah.pure _)) rfl rfl (ah.csize _) (am _) bF (.pure (ah.pure _)) rfl (.pure rfl)
     ·refine aL ?_
      refine aj ?_
      refine aq 1 _ (by decide +kernel) rfl ?_
      refine aL ?_
      refine aj ?_
      refine aq 5 _ (by decide +kernel) rfl ?_
      refine aL ?_
      refine aj ?_
      refine aq 6 _ (by decide +kernel) rfl ?_
      refine aL ?_
      refine aj ?_
      refine bq (by decide +kernel) ?_
      refine bG ?_
      exact bW [] rfl rfl rfl (ah.csize _) (am _) bF (.pure (ah.pure _)) rfl rfl (ah.csize _) (am _) bF (.pure (ah.pure _)) rfl (.pure rfl)
   ·refine aL ?_
    refine aj ?_
    refine bY 0 3 _ _ (by decide +kernel) rfl rfl ?_ ?_
    ·refine aL ?_
     refine aj ?_
     refine bY 3 4 _ _ (by decide +kernel) rfl rfl ?_ ?_
     ·refine aL ?_
      refine aj ?_
      refine aq 4 _ (by decide +kernel) rfl ?_
      refine aL ?_
      refine aj ?_
      refine aq 5 _ (by decide +kernel) rfl ?_
      refine aL ?_
      refine aj ?_
      refine aq 6 _ (by decide +kernel) rfl ?_
      refine aL ?_
      refine aj ?_
      refine bq (by decide +kernel) ?_
      refine bG ?_
      exact bW [] rfl rfl rfl (ah.csize _) (am _) bF (.pure (ah.pure _)) rfl rfl (ah.csize _) (am _) bF (.pure (ah.pure _)) rfl (.pure rfl)
     ·refine aL ?_
      refine aj ?_
      refine bY 3 5 _ _ (by decide +kernel) rfl rfl ?_ ?_
      ·refine aL ?_
       refine aj ?_
       refine aq 5 _ (by decide +kernel) rfl ?_
       refine aL ?_
       refine aj ?_
       refine aq 6 _ (by decide +kernel) rfl ?_
       refine aL ?_
       refine aj ?_
       refine bq (by decide +kernel) ?_
       refine bG ?_
       exact bW [] rfl rfl rfl (ah.csize _) (am _) bF (.pure (ah.pure _)) rfl rfl (ah.csize _) (am _) bF (.pure (ah.pure _)) rfl (.pure rfl)
      ·refine aL ?_
       refine aj ?_
       refine aq 3 _ (by decide +kernel) rfl ?_
       refine aL ?_
       refine aj ?_
       refine aq 6 _ (by decide +kernel) rfl ?_
       refine aL ?_
       refine aj ?_
       refine bq (by decide +kernel) ?_
       refine bG ?_
       exact bW [] rfl rfl rfl (ah.csize _) (am _) bF (.pure (ah.pure _)) rfl rfl (ah.csize _) (am _) bF (.pure (ah.pure _)) rfl (.pure rfl)
    ·refine aL ?_
     refine aj ?_
     refine aq 0 _ (by decide +kernel) rfl ?_
     refine aL ?_
     refine aj ?_
     refine aq 4 _ (by decide +kernel) rfl ?_
     refine aL ?_
     refine aj ?_
     refine aq 5 _ (by decide +kernel) rfl ?_
     refine aL ?_
     refine aj ?_
     refine aq 6 _ (by decide +kernel) rfl ?_
     refine aL ?_
     refine aj ?_
     refine bq (by decide +kernel) ?_
     refine bG ?_
     exact bW [] rfl rfl rfl (ah.csize _) (am _) bF (.pure (ah.pure _)) rfl rfl (ah.csize _) (am _) bF (.pure (ah.pure _)) rfl (.pure rfl)
   ·refine aL ?_
    refine aj ?_
    refine bY 0 1 _ _ (by decide +kernel) rfl rfl ?_ ?_
    ·refine aL ?_
     refine aj ?_
     refine bY 1 4 _ _ (by decide +kernel) rfl rfl ?_ ?_
     ·refine aL ?_
      refine aj ?_
      refine aq 4 _ (by decide +kernel) rfl ?_
      refine aL ?_
      refine aj ?_
      refine aq 5 _ (by decide +kernel) rfl ?_
      refine aL ?_
      refine aj ?_
      refine aq 6 _ (by decide +kernel) rfl ?_
      refine aL ?_
      refine aj ?_
      refine bq (by decide +kernel) ?_
      refine bG ?_
      exact bW [] rfl rfl rfl (ah.csize _) (am _) bF (.pure (ah.pure _)) rfl rfl (ah.csize _) (am _) bF (.pure (ah.pure _)) rfl (.pure rfl)
     ·refine aL ?_
      refine aj ?_
      refine aq 1 _ (by decide +kernel) rfl ?_
      refine aL ?_
      refine aj ?_
      refine aq 5 _ (by decide +kernel) rfl ?_
      refine aL ?_
      refine aj ?_
      refine aq 6 _ (by decide +kernel) rfl ?_
      refine aL ?_
      refine aj ?_
      refine bq (by decide +kernel) ?_
      refine bG ?_
      exact bW [] rfl rfl rfl (ah.csize _) (am _) bF (.pure (ah.pure _)) rfl rfl (ah.csize _) (am _) bF (.pure (ah.pure _)) rfl (.pure rfl)
    ·refine aL ?_
     refine aj ?_
     refine aq 0 _ (by decide +kernel) rfl ?_
     refine aL ?_
     refine aj ?_
     refine aq 4 _ (by decide +kernel) rfl ?_
     refine aL ?_
     refine aj ?_
     refine aq 5 _ (by decide +kernel) rfl ?_
     refine aL ?_
     refine aj ?_
     refine aq 6 _ (by decide +kernel) rfl ?_
     refine aL ?_
     refine aj ?_
     refine bq (by decide +kernel) ?_
     refine bG ?_
     exact bW [] rfl rfl rfl (ah.csize _) (am _) bF (.pure (ah.pure _)) rfl rfl (ah.csize _) (am _) bF (.pure (ah.pure _)) rfl (.pure rfl)
def Eo (p q:V3):V3:=⟨p.y*q.z-p.z*q.y,p.z*q.x-p.x*q.z,p.x*q.y-p.y*q.x⟩
theorem Dw {R:Nat} {p q:V3} (hp:eN R p) (hq:eN R q):eN (4*R+5) (Eo p q):=by
 obtain⟨a1,a2,a3⟩:=hp
 obtain⟨b1,b2,b3⟩:=hq
 have g:∀ a b c d:Rat,rl a≤R→rl b≤R→rl c≤R→rl d≤R→rl (a*b-c*d)≤4*R+5:=fun a b c d h1 h2 h3 h4=>by
  have m1:=bA a b
  have m2:=bA c d
  have m3:=fo (a*b) (c*d)
  omega
 exact⟨g _ _ _ _ a2 b3 a3 b2,g _ _ _ _ a3 b1 a1 b3,g _ _ _ _ a1 b2 a2 b1⟩
namespace LY
theorem bQ {p q:Prop} (k:q) (e:p=q:=by simp only [e1,e2,e3,e4,p1,p2,p3,q1,q2,q3,l1,t0,t1,r1,r2,r3,r4,Nat.zero_add,Nat.reduceMul,Nat.reduceAdd,b1,b2,b3,b4,b5,b6,i1,i2,i3,i4,i5,i6,Nat.reduceBEq,List.set_cons_zero,List.set_cons_succ,Nat.reduceEqDiff,reduceIte,if_true,if_false,aN,aM,ae cT,ae cA,ae ah,ax,aC,LV.kill,aH];exact rfl):p:=e.mpr k
end LY
open LY in
theorem oa (p q:V3) (R:Nat) (hR:R≤1000000000) (hp:eN R p) (hq:eN R q):ap Tryz.prog 63 [cQ p,cQ q] (cQ (Eo p q)):=by
 obtain⟨a1,a2,a3⟩:=hp
 obtain⟨y1,y2,y3⟩:=hq
 have m01:=bA p.x q.y
 have m02:=bA p.x q.z
 have m10:=bA p.y q.x
 have m12:=bA p.y q.z
 have m20:=bA p.z q.x
 have m21:=bA p.z q.y
 refine bS Tryz.func63 (ht:=(fun r=>LV.ren_pure r _ (cT.pure _))) ?_
 refine ia ?_
 refine aA ?_
 refine bJ ?_
 refine aR (b:=_) rfl (by decide) ?_
 refine ct ?_
 refine ab rfl (.bin rfl rfl (show cj .add .i64 0 1=some (.int .i64 ((1:Nat):Int)) from rfl)) ?_
 refine ab rfl (.bin rfl rfl (show cj .rem .i64 1 3=some (.int .i64 ((1:Nat):Int)) from rfl)) ?_
 refine aL ?_
 refine ab rfl (.bin rfl rfl (show cj .add .i64 0 2=some (.int .i64 ((2:Nat):Int)) from rfl)) ?_
 refine ab rfl (.bin rfl rfl (show cj .rem .i64 2 3=some (.int .i64 ((2:Nat):Int)) from rfl)) ?_
 refine bw ?_
 refine au 17 (by decide +kernel) ?_
 refine bV ?_
 refine cp bf (dc p.y q.z (by omega)) ?_
 refine bJ ?_
 refine cp bf (dc p.z q.y (by omega)) ?_
 refine cp bf (gg (p.y*q.z) (p.z*q.y) (by omega)) ?_
 refine bv ?_
 refine aA ?_
 refine bJ ?_
 refine aR (b:=_) rfl (by decide) ?_
 refine ct ?_
 refine ab rfl (.bin rfl rfl (show cj .add .i64 1 1=some (.int .i64 ((2:Nat):Int)) from rfl)) ?_
 refine ab rfl (.bin rfl rfl (show cj .rem .i64 2 3=some (.int .i64 ((2:Nat):Int)) from rfl)) ?_
 refine aL ?_
 refine ab rfl (.bin rfl rfl (show cj .add .i64 1 2=some (.int .i64 ((3:Nat):Int)) from rfl)) ?_
 refine ab rfl (.bin rfl rfl (show cj .rem .i64 3 3=some (.int .i64 ((0:Nat):Int)) from rfl)) ?_
 refine bw ?_
 refine au 17 (by decide +kernel) ?_
 refine bV ?_
 refine cp bf (dc p.z q.x (by omega)) ?_
 refine bJ ?_
 refine cp bf (dc p.x q.z (by omega)) ?_
 refine cp bf (gg (p.z*q.x) (p.x*q.z) (by omega)) ?_
 refine bv ?_
 refine aA ?_
 refine bJ ?_
 refine aR (b:=_) rfl (by decide) ?_
 refine ct ?_
 refine ab rfl (.bin rfl rfl (show cj .add .i64 2 1=some (.int .i64 ((3:Nat):Int)) from rfl)) ?_
 refine ab rfl (.bin rfl rfl (show cj .rem .i64 3 3=some (.int .i64 ((0:Nat):Int)) from rfl)) ?_
 refine aL ?_
 refine ab rfl (.bin rfl rfl (show cj .add .i64 2 2=some (.int .i64 ((4:Nat):Int)) from rfl)) ?_
 refine ab rfl (.bin rfl rfl (show cj .rem .i64 4 3=some (.int .i64 ((1:Nat):Int)) from rfl)) ?_
 refine bw ?_
 refine au 17 (by decide +kernel) ?_
 refine bV ?_
 refine cp bf (dc p.x q.y (by omega)) ?_
 refine bJ ?_
 refine cp bf (dc p.y q.x (by omega)) ?_
 refine cp bf (gg (p.x*q.y) (p.y*q.x) (by omega)) ?_
 refine bv ?_
 refine aA ?_
 refine bJ ?_
 refine bb (b:=_) rfl (by decide) ?_
 refine bE ?_
 exact b9 [] rfl rfl rfl cs (bX cs rfl) lq (.pure pu)
namespace KJ
theorem bQ {p q:Prop} (k:q) (e:p=q:=by simp only [e1,e2,e3,e4,p1,p2,p3,q1,q2,q3,l1,t0,t1,r1,r2,r3,r4,Nat.zero_add,Nat.reduceMul,Nat.reduceAdd,b1,b2,b3,b4,b5,b6,i1,i2,i3,i4,i5,i6,Nat.reduceBEq,List.set_cons_zero,List.set_cons_succ,Nat.reduceEqDiff,reduceIte,if_true,if_false,aN,aM,ae cT,ae cA,ae ah,ax,aC,LV.kill,aH];exact rfl):p:=e.mpr k
end KJ
open KJ in
theorem pi (p q:V3) (R:Nat) (hR:R≤1000000000) (hp:eN R p) (hq:eN R q):ap Tryz.prog 104 [cQ p,cQ q] (cQ (Eo p q)):=by
 obtain⟨a1,a2,a3⟩:=hp
 obtain⟨y1,y2,y3⟩:=hq
 have m01:=bA p.x q.y
 have m02:=bA p.x q.z
 have m10:=bA p.y q.x
 have m12:=bA p.y q.z
 have m20:=bA p.z q.x
 have m21:=bA p.z q.y
 refine bS Tryz.func104 (ht:=(fun r=>LV.ren_pure r _ (cT.pure _))) ?_
 refine ia ?_
 refine aA ?_
 refine bV ?_
 refine aR (b:=_) rfl (by decide) ?_
 refine bV ?_
 refine ab rfl (.bin rfl rfl (show cj .add .i64 0 1=some (.int .i64 ((1:Nat):Int)) from rfl)) ?_
 refine ab rfl (.bin rfl rfl (show cj .rem .i64 1 3=some (.int .i64 ((1:Nat):Int)) from rfl)) ?_
 refine aL ?_
 refine ab rfl (.bin rfl rfl (show cj .add .i64 0 2=some (.int .i64 ((2:Nat):Int)) from rfl)) ?_
 refine ab rfl (.bin rfl rfl (show cj .rem .i64 2 3=some (.int .i64 ((2:Nat):Int)) from rfl)) ?_
 refine bw ?_
 refine au 17 (by decide +kernel) ?_
 refine bV ?_
 refine cp bf (dA p.y q.z (by omega)) ?_
 refine bJ ?_
 refine cp bf (dA p.z q.y (by omega)) ?_
 refine cp bf (iU (p.y*q.z) (p.z*q.y) (by omega)) ?_
 refine bD ?_
 refine aA ?_
 refine bV ?_
 refine aR (b:=_) rfl (by decide) ?_
 refine bV ?_
 refine ab rfl (.bin rfl rfl (show cj .add .i64 1 1=some (.int .i64 ((2:Nat):Int)) from rfl)) ?_
 refine ab rfl (.bin rfl rfl (show cj .rem .i64 2 3=some (.int .i64 ((2:Nat):Int)) from rfl)) ?_
 refine aL ?_
 refine ab rfl (.bin rfl rfl (show cj .add .i64 1 2=some (.int .i64 ((3:Nat):Int)) from rfl)) ?_
 refine ab rfl (.bin rfl rfl (show cj .rem .i64 3 3=some (.int .i64 ((0:Nat):Int)) from rfl)) ?_
 refine bw ?_
 refine au 17 (by decide +kernel) ?_
 refine bV ?_
 refine cp bf (dA p.z q.x (by omega)) ?_
 refine bJ ?_
 refine cp bf (dA p.x q.z (by omega)) ?_
 refine cp bf (iU (p.z*q.x) (p.x*q.z) (by omega)) ?_
 refine bD ?_
 refine aA ?_
 refine bV ?_
 refine aR (b:=_) rfl (by decide) ?_
 refine bV ?_
 refine ab rfl (.bin rfl rfl (show cj .add .i64 2 1=some (.int .i64 ((3:Nat):Int)) from rfl)) ?_
 refine ab rfl (.bin rfl rfl (show cj .rem .i64 3 3=some (.int .i64 ((0:Nat):Int)) from rfl)) ?_
 refine aL ?_
 refine ab rfl (.bin rfl rfl (show cj .add .i64 2 2=some (.int .i64 ((4:Nat):Int)) from rfl)) ?_
 refine ab rfl (.bin rfl rfl (show cj .rem .i64 4 3=some (.int .i64 ((1:Nat):Int)) from rfl)) ?_
 refine bw ?_
 refine au 17 (by decide +kernel) ?_
 refine bV ?_
 refine cp bf (dA p.x q.y (by omega)) ?_
 refine bJ ?_
 refine cp bf (dA p.y q.x (by omega)) ?_
 refine cp bf (iU (p.x*q.y) (p.y*q.x) (by omega)) ?_
 refine bD ?_
 refine aA ?_
 refine bV ?_
 refine bb (b:=_) rfl (by decide) ?_
 refine bE ?_
 exact b9 [] rfl rfl rfl cs (bX cs rfl) lq (.pure pu)
theorem qJ {a b:Nat} (ha:a≤3) (hb:b≤3):(a+1)*(b+1)≤16:=Nat.le_trans (Nat.mul_le_mul (show a+1≤4 by omega) (show b+1≤4 by omega)) (by decide)
theorem EH {a b c d x:Nat} (ha:a≤3) (hb:b≤3) (hc:c≤3) (hd:d≤3):(a+1)*((b+1)*((c+1)*((d+1)*x)))≤256*x:=by
 have h1:(d+1)*x≤4*x:=Nat.mul_le_mul_right _ (by omega)
 have h2:(c+1)*((d+1)*x)≤4*(4*x):=Nat.mul_le_mul (by omega) h1
 have h3:(b+1)*((c+1)*((d+1)*x))≤4*(4*(4*x)):=Nat.mul_le_mul (by omega) h2
 have h4:(a+1)*((b+1)*((c+1)*((d+1)*x)))≤4*(4*(4*(4*x))):=Nat.mul_le_mul (by omega) h3
 omega
namespace Mp
theorem bQ {p q:Prop} (k:q) (e:p=q:=by simp only [e1,e2,e3,e4,p1,p2,p3,q1,q2,q3,l1,t0,t1,r1,r2,r3,r4,Nat.zero_add,Nat.reduceMul,Nat.reduceAdd,b1,b2,b3,b4,b5,b6,i1,i2,i3,i4,i5,i6,Nat.reduceBEq,List.set_cons_zero,List.set_cons_succ,Nat.reduceEqDiff,reduceIte,if_true,if_false,aN,aM,ae cT,ae cA,ae ah,ax,aC,LV.kill,aH];exact rfl):p:=e.mpr k
end Mp
open Mp in
theorem ir (U1 V1 U2 V2:Nat) (a b:List Rat) (ha:a.length=(U1+1)*(V1+1)) (hb:b.length=(U2+1)*(V2+1)) (hU1:U1≤3) (hV1:V1≤3) (hU2:U2≤3) (hV2:V2≤3) (S:Nat) (hS1:1≤S) (hS:S≤1000000) (haR:∀ x∈a,rl x≤S) (hbR:∀ x∈b,rl x≤S):ap Tryz.prog 142 [.agg [ai U1,ai V1,.list 3 (a.map ratL)],.agg [ai U2,ai V2,.list 3 (b.map ratL)]] (.agg [ai (U1+U2),ai (V1+V2),.list 3 ((lp U1 V1 U2 V2 a b).map ratL)]):=by
 have hal:=qJ hU1 hV1
 have hbl:=qJ hU2 hV2
 have hn1:=aO U1 V1 a
 have hn2:=aO U2 V2 b
 have hpk:=EH (x:=2*S+14) hU1 hV1 hU2 hV2
 have hn3:=aO (U1+U2) (V1+V2) (lp U1 V1 U2 V2 a b)
 refine bS Tryz.func142 (ht:=(fun g=>LV.ren_pure g _ (aO _ _ _))) ?_
 refine bD ?_
 refine cp bf (Al U1 V1 U2 V2 a b ha hb (by omega) (by omega) (by omega) (by omega) S hS1 hS (by omega) haR hbR) ?_
 refine en ?_
 exact b9 [] rfl rfl rfl rfl rfl zT (.pure (aO _ _ _))
theorem og (U V:Nat) (a b:List Rat) (hU:U≤40) (hV:V≤40) (ha:a.length=(U+1)*(V+1)) (hb:b.length=(U+1)*(V+1)) (haR:∀ x∈a,rl x≤500000000) (hbR:∀ x∈b,rl x≤500000000):ap Tryz.prog 141 [.agg [ai U,ai V,.list 3 (a.map ratL)],.agg [ai U,ai V,.list 3 (b.map ratL)]] (.agg [ai U,ai V,.list 3 ((nT (·-·) a b).map ratL)]):=by
 have:=Dp U V U V a b U V (sF ha hU hV fun x hx=>by have:=haR x hx;omega) (sF hb hU hV fun x hx=>by have:=hbR x hx;omega) (.inl rfl) (.inl rfl)
 rwa [rx ha,rx hb] at this
namespace Mz
theorem bQ {p q:Prop} (k:q) (e:p=q:=by simp only [e1,e2,e3,e4,p1,p2,p3,q1,q2,q3,l1,t0,t1,r1,r2,r3,r4,Nat.zero_add,Nat.reduceMul,Nat.reduceAdd,b1,b2,b3,b4,b5,b6,i1,i2,i3,i4,i5,i6,Nat.reduceBEq,dq,cb,ae dW,dE,dU,aQ,bo,aW,List.length_cons,List.length_nil,List.nil_append,List.map_nil,List.take_nil,List.append_nil,List.set_cons_zero,List.set_cons_succ,Nat.reduceEqDiff,reduceIte,if_true,if_false,aN,aM,ae cT,ae cA,ae ah,ax,aC,LV.kill,aH];exact rfl):p:=e.mpr k
end Mz
open Mz in
theorem pv (R U V Ud Vd:Nat) (kU kV:List Rat) (rows:List (List PoR)) (h:pf R U V rows) (hR:R≤200000) (D:List Rat→List Rat) (hd:dfS U V Ud Vd D) (f:Nat) (hf:∀ c:List Rat,c.length=(U+1)*(V+1)→(∀ x∈c,rl x≤2*R)→ap Tryz.prog f [.agg [ai U,ai V,.list 3 (c.map ratL)]] (.agg [ai Ud,ai Vd,.list 3 ((D c).map ratL)])):ap Tryz.prog 71 [.agg [ai U,ai V,.list 3 (kU.map ratL),.list 3 (kV.map ratL),.list 1 (rows.map bu)],.clo f []] (.agg [.agg [ai (Ud+U),ai (Vd+V),.list 3 ((iD U V Ud Vd D rows.flatten 0).map ratL)],.agg [ai (Ud+U),ai (Vd+V),.list 3 ((iD U V Ud Vd D rows.flatten 1).map ratL)],.agg [ai (Ud+U),ai (Vd+V),.list 3 ((iD U V Ud Vd D rows.flatten 2).map ratL)]]):=by
 have hsp:LV.pure (.agg [ai U,ai V,.list 3 (kU.map ratL),.list 3 (kV.map ratL),.list 1 (rows.map bu)])=true:=by simp [LV.pure,aD,al ah,al dW]
 have hr1:=h.r1
 have hu3:=h.u3
 have hv3:=h.v3
 have hud:=hd.u
 have hvd:=hd.v
 have hwl:=h.wl
 have hdw:=hd.l _ hwl
 have hwr:=h.wr
 have hdwr:=hd.r _ _ hr1 hwl hwr
 have hpw:=aO U V (dL rows.flatten)
 have hpdw:=aO Ud Vd (D (dL rows.flatten))
 have hnl0:=h.nl 0
 have hdn0:=hd.l _ hnl0
 have hnr0:=h.nr 0
 have hdnr0:=hd.r _ _ (show 1≤2*R by omega) hnl0 hnr0
 have hpn0:=aO U V (dz rows.flatten 0)
 have hpd0:=aO Ud Vd (D (dz rows.flatten 0))
 have hpa0:=aO (Ud+U) (Vd+V) (lp Ud Vd U V (D (dz rows.flatten 0)) (dL rows.flatten))
 have hpb0:=aO (Ud+U) (Vd+V) (lp U V Ud Vd (dz rows.flatten 0) (D (dL rows.flatten)))
 have hps0:=aO (Ud+U) (Vd+V) (iD U V Ud Vd D rows.flatten 0)
 obtain⟨hal0,har0⟩:=sv h hd 0
 obtain⟨hbl0,hbr0⟩:=uY h hd 0
 have hA0:=ir Ud Vd U V (D (dz rows.flatten 0)) (dL rows.flatten) hdn0 hwl hud hvd hu3 hv3 (4*R+4) (by omega) (by omega) (fun x hx=>by have:=hdnr0 x hx;omega) (fun x hx=>by have:=hwr x hx;omega)
 have hB0:=ir U V Ud Vd (dz rows.flatten 0) (D (dL rows.flatten)) hnl0 hdw hu3 hv3 hud hvd (4*R+4) (by omega) (by omega) (fun x hx=>by have:=hnr0 x hx;omega) (fun x hx=>by have:=hdwr x hx;omega)
 rw [Nat.add_comm U Ud,Nat.add_comm V Vd] at hB0
 have hS0:=og (Ud+U) (Vd+V) (lp Ud Vd U V (D (dz rows.flatten 0)) (dL rows.flatten)) (lp U V Ud Vd (dz rows.flatten 0) (D (dL rows.flatten))) (by omega) (by omega) hal0 hbl0 (fun x hx=>by have:=har0 x hx;omega) (fun x hx=>by have:=hbr0 x hx;omega)
 have hnl1:=h.nl 1
 have hdn1:=hd.l _ hnl1
 have hnr1:=h.nr 1
 have hdnr1:=hd.r _ _ (show 1≤2*R by omega) hnl1 hnr1
 have hpn1:=aO U V (dz rows.flatten 1)
 have hpd1:=aO Ud Vd (D (dz rows.flatten 1))
 have hpa1:=aO (Ud+U) (Vd+V) (lp Ud Vd U V (D (dz rows.flatten 1)) (dL rows.flatten))
 have hpb1:=aO (Ud+U) (Vd+V) (lp U V Ud Vd (dz rows.flatten 1) (D (dL rows.flatten)))
 have hps1:=aO (Ud+U) (Vd+V) (iD U V Ud Vd D rows.flatten 1)
 obtain⟨hal1,har1⟩:=sv h hd 1
 obtain⟨hbl1,hbr1⟩:=uY h hd 1
 have hA1:=ir Ud Vd U V (D (dz rows.flatten 1)) (dL rows.flatten) hdn1 hwl hud hvd hu3 hv3 (4*R+4) (by omega) (by omega) (fun x hx=>by have:=hdnr1 x hx;omega) (fun x hx=>by have:=hwr x hx;omega)
 have hB1:=ir U V Ud Vd (dz rows.flatten 1) (D (dL rows.flatten)) hnl1 hdw hu3 hv3 hud hvd (4*R+4) (by omega) (by omega) (fun x hx=>by have:=hnr1 x hx;omega) (fun x hx=>by have:=hdwr x hx;omega)
 rw [Nat.add_comm U Ud,Nat.add_comm V Vd] at hB1
 have hS1:=og (Ud+U) (Vd+V) (lp Ud Vd U V (D (dz rows.flatten 1)) (dL rows.flatten)) (lp U V Ud Vd (dz rows.flatten 1) (D (dL rows.flatten))) (by omega) (by omega) hal1 hbl1 (fun x hx=>by have:=har1 x hx;omega) (fun x hx=>by have:=hbr1 x hx;omega)
 have hnl2:=h.nl 2
 have hdn2:=hd.l _ hnl2
 have hnr2:=h.nr 2
 have hdnr2:=hd.r _ _ (show 1≤2*R by omega) hnl2 hnr2
 have hpn2:=aO U V (dz rows.flatten 2)
 have hpd2:=aO Ud Vd (D (dz rows.flatten 2))
 have hpa2:=aO (Ud+U) (Vd+V) (lp Ud Vd U V (D (dz rows.flatten 2)) (dL rows.flatten))
 have hpb2:=aO (Ud+U) (Vd+V) (lp U V Ud Vd (dz rows.flatten 2) (D (dL rows.flatten)))
 have hps2:=aO (Ud+U) (Vd+V) (iD U V Ud Vd D rows.flatten 2)
 obtain⟨hal2,har2⟩:=sv h hd 2
 obtain⟨hbl2,hbr2⟩:=uY h hd 2
 have hA2:=ir Ud Vd U V (D (dz rows.flatten 2)) (dL rows.flatten) hdn2 hwl hud hvd hu3 hv3 (4*R+4) (by omega) (by omega) (fun x hx=>by have:=hdnr2 x hx;omega) (fun x hx=>by have:=hwr x hx;omega)
 have hB2:=ir U V Ud Vd (dz rows.flatten 2) (D (dL rows.flatten)) hnl2 hdw hu3 hv3 hud hvd (4*R+4) (by omega) (by omega) (fun x hx=>by have:=hnr2 x hx;omega) (fun x hx=>by have:=hdwr x hx;omega)
 rw [Nat.add_comm U Ud,Nat.add_comm V Vd] at hB2
 have hS2:=og (Ud+U) (Vd+V) (lp Ud Vd U V (D (dz rows.flatten 2)) (dL rows.flatten)) (lp U V Ud Vd (dz rows.flatten 2) (D (dL rows.flatten))) (by omega) (by omega) hal2 hbl2 (fun x hx=>by have:=har2 x hx;omega) (fun x hx=>by have:=hbr2 x hx;omega)
 have hfw:=hf (dL rows.flatten) hwl (fun x hx=>by have:=hwr x hx;omega)
 have hf0:=hf (dz rows.flatten 0) hnl0 hnr0
 have hf1:=hf (dz rows.flatten 1) hnl1 hnr1
 have hf2:=hf (dz rows.flatten 2) hnl2 hnr2
 refine bS Tryz.func71 (ht:=(fun g=>LV.ren_pure g _ (by simp [LV.pure,aD,al ah]))) ?_
 refine cg ?_
 refine cp bK (tg U V kU kV rows (by omega) (by omega) R (by omega) h.rw) ?_
 refine cg ?_
 refine cI [] rfl rfl (.clo (f:=f) (cap:=[]) (args:=[.agg [ai U,ai V,.list 3 ((dL rows.flatten).map ratL)]]) rfl (.cons fR .nil) ⟨rfl,fun _ h=>by cases h⟩ hfw.1 (by decide) (fun _ h=>by cases h)) (hfw.2 _) ?_
 refine ie ?_
 refine aA ?_
 refine bJ ?_
 refine aR (b:=_) rfl (by decide) ?_
 refine bv ?_
 refine au 16 (by decide +kernel) ?_
 refine ca ?_
 refine cI [] rfl rfl (.clo (f:=f) (cap:=[]) (args:=[.agg [ai U,ai V,.list 3 ((dz rows.flatten 0).map ratL)]]) rfl (.cons fR .nil) ⟨rfl,fun _ h=>by cases h⟩ hf0.1 (by decide) (fun _ h=>by cases h)) (hf0.2 _) ?_
 refine bG ?_
 refine cp bf (hA0) ?_
 refine bw ?_
 refine cp bf (hB0) ?_
 refine cp bf (hS0) ?_
 refine bv ?_
 refine aA ?_
 refine bJ ?_
 refine aR (b:=_) rfl (by decide) ?_
 refine bv ?_
 refine au 16 (by decide +kernel) ?_
 refine ca ?_
 refine cI [] rfl rfl (.clo (f:=f) (cap:=[]) (args:=[.agg [ai U,ai V,.list 3 ((dz rows.flatten 1).map ratL)]]) rfl (.cons fR .nil) ⟨rfl,fun _ h=>by cases h⟩ hf1.1 (by decide) (fun _ h=>by cases h)) (hf1.2 _) ?_
 refine bG ?_
 refine cp bf (hA1) ?_
 refine bw ?_
 refine cp bf (hB1) ?_
 refine cp bf (hS1) ?_
 refine bv ?_
 refine aA ?_
 refine bJ ?_
 refine aR (b:=_) rfl (by decide) ?_
 refine bv ?_
 refine au 16 (by decide +kernel) ?_
 refine ca ?_
 refine cI [] rfl rfl (.clo (f:=f) (cap:=[]) (args:=[.agg [ai U,ai V,.list 3 ((dz rows.flatten 2).map ratL)]]) rfl (.cons fR .nil) ⟨rfl,fun _ h=>by cases h⟩ hf2.1 (by decide) (fun _ h=>by cases h)) (hf2.2 _) ?_
 refine bG ?_
 refine cp bf (hA2) ?_
 refine bw ?_
 refine cp bf (hB2) ?_
 refine cp bf (hS2) ?_
 refine bv ?_
 refine aA ?_
 refine bJ ?_
 refine bb (b:=_) rfl (by decide) ?_
 refine bE ?_
 exact b9 [] rfl rfl rfl cs (bX cs rfl) ES (.pure (by simp [LV.pure,aD,al ah]))
section
variable {R U V:Nat} {rows:List (List PoR)} (h:pf R U V rows)
include h
theorem pf.pos:0<rows.flatten.length:=by rw [h.len];exact Nat.mul_pos (Nat.succ_pos U) (Nat.succ_pos V)
end
def DA (U V Ud Vd:Nat) (D:List Rat→List Rat) (F:List PoR) (wd x y:Rat):V3 :=
 FH (1/(wd*(ja U V (dL F) x y*ja U V (dL F) x y))) ⟨ja (Ud+U) (Vd+V) (iD U V Ud Vd D F 0) x y,ja (Ud+U) (Vd+V) (iD U V Ud Vd D F 1) x y,ja (Ud+U) (Vd+V) (iD U V Ud Vd D F 2) x y⟩
theorem lA {x:Rat} (h:rl x≤8):yS x:=by
 have:=fo 1 x
 have:rl 1=1:=rfl
 unfold yS
 omega
structure pdS (Du Dv:Nat) (q:List Rat) (x y:Rat):Prop where
 hl:q.length=(Du+1)*(Dv+1)
 du:Du≤6
 dv:Dv≤6
 qr:∀ t∈q,rl t≤49231
 hx:yS x
 hy:yS y
theorem pdS.e {Du Dv:Nat} {q:List Rat} {x y:Rat} (h:pdS Du Dv q x y):rl (ja Du Dv q x y)≤201970100 :=
 Nat.le_trans (pX h.hl h.du h.dv (by omega:1≤49231) (by omega) h.qr h.hx h.hy).2.2.2.2 (by decide)
theorem pP {R U V Ud Vd:Nat} {rows:List (List PoR)} {D:List Rat→List Rat} (h:pf R U V rows) (hd:dfS U V Ud Vd D) (hR:R≤25) {wd x y:Rat} (hw:rl wd≤1000) (hx:yS x) (hy:yS y) :
  rl (ja U V (dL rows.flatten) x y)≤225500∧(∀ k,rl (ja (Ud+U) (Vd+V) (iD U V Ud Vd D rows.flatten k) x y)≤201970100)∧eN 210000000 (DA U V Ud Vd D rows.flatten wd x y):=by
 have h1:rl (ja U V (dL rows.flatten) x y)≤225500:=by
  have:=(pX h.wl (by have:=h.u3;omega) (by have:=h.v3;omega) h.r1 (by omega) h.wr hx hy).2.2.2.2
  have:4100*(R+30)≤4100*55:=Nat.mul_le_mul_left _ (by omega)
  omega
 have hu:=hd.u
 have hv:=hd.v
 have hu3:=h.u3
 have hv3:=h.v3
 have h2:∀ k,rl (ja (Ud+U) (Vd+V) (iD U V Ud Vd D rows.flatten k) x y)≤201970100:=fun k =>
  Nat.le_trans (pX (R:=49231) (kD h hd k) (by omega) (by omega) (by omega) (by omega) (fun t ht=>by have:=oz h hd k t ht;omega) hx hy).2.2.2.2 (by decide)
 refine⟨h1,h2,?_⟩
 have h3:=bA (ja U V (dL rows.flatten) x y) (ja U V (dL rows.flatten) x y)
 have h4:=bA wd (ja U V (dL rows.flatten) x y*ja U V (dL rows.flatten) x y)
 have h5:=ji 1 (wd*(ja U V (dL rows.flatten) x y*ja U V (dL rows.flatten) x y))
 have h6:rl 1=1:=rfl
 have g:∀ k,rl (1/(wd*(ja U V (dL rows.flatten) x y*ja U V (dL rows.flatten) x y))*ja (Ud+U) (Vd+V) (iD U V Ud Vd D rows.flatten k) x y)≤210000000:=fun k=>by
  have:=bA (1/(wd*(ja U V (dL rows.flatten) x y*ja U V (dL rows.flatten) x y))) (ja (Ud+U) (Vd+V) (iD U V Ud Vd D rows.flatten k) x y)
  have:=h2 k
  omega
 exact⟨g 0,g 1,g 2⟩
theorem qd (Du Dv:Nat) (q:List Rat) (x y:Rat) (h:pdS Du Dv q x y):ap Tryz.prog 66 [.agg [ai Du,ai Dv,.list 3 (q.map ratL)],ratL x,ratL y] (ratL (ja Du Dv q x y)):=by
 obtain⟨s1,s2,_⟩:=pX h.hl h.du h.dv (by omega:1≤49231) (by omega) h.qr h.hx h.hy
 have h49:(Du+1)*(Dv+1)≤49:=Ez h.du h.dv
 exact Be Du Dv q h.hl (by rw [h.hl];omega) (fun t ht=>by have:=h.qr t ht;omega) x y s1 s2
namespace Ma
theorem bQ {p q:Prop} (k:q) (e:p=q:=by simp only [e1,e2,e3,e4,p1,p2,p3,q1,q2,q3,l1,t0,t1,r1,r2,r3,r4,Nat.zero_add,Nat.reduceMul,Nat.reduceAdd,b1,b2,b3,b4,b5,b6,i1,i2,i3,i4,i5,i6,Nat.reduceBEq,cb,ae dW,dE,dU,aQ,bo,aW,List.length_cons,List.length_nil,List.nil_append,List.map_nil,List.take_nil,List.append_nil,List.set_cons_zero,List.set_cons_succ,Nat.reduceEqDiff,reduceIte,if_true,if_false,aN,aM,ae cT,ae cA,ae ah,ax,aC,LV.kill,aH];exact rfl):p:=e.mpr k
end Ma
open Ma in
theorem xQ (Du Dv:Nat) (ql0 ql1 ql2:List Rat) (wd W x y:Rat) (h0:pdS Du Dv ql0 x y) (h1:pdS Du Dv ql1 x y) (h2:pdS Du Dv ql2 x y) (hw:rl wd≤1000) (hW:rl W≤250000):ap Tryz.prog 67 [.agg [.agg [ai Du,ai Dv,.list 3 (ql0.map ratL)],.agg [ai Du,ai Dv,.list 3 (ql1.map ratL)],.agg [ai Du,ai Dv,.list 3 (ql2.map ratL)]],ratL wd,.boxp (ratL W),.boxp (ratL x),.boxp (ratL y)] (cQ (FH (1/(wd*(W*W))) ⟨(ja Du Dv ql0 x y),(ja Du Dv ql1 x y),(ja Du Dv ql2 x y)⟩)):=by
 have hpu:∀ l:List Rat,aD (l.map ratL)=true:=fun l=>al ah l
 have hpq0:=aO Du Dv ql0
 have hpq1:=aO Du Dv ql1
 have hpq2:=aO Du Dv ql2
 have he0:=h0.e
 have he1:=h1.e
 have he2:=h2.e
 have hp3:LV.pure (.agg [.agg [ai Du,ai Dv,.list 3 (ql0.map ratL)],.agg [ai Du,ai Dv,.list 3 (ql1.map ratL)],.agg [ai Du,ai Dv,.list 3 (ql2.map ratL)]])=true:=by simp [LV.pure,aD,al ah]
 have m1:=bA W W
 have m2:=bA wd (W*W)
 have m3:=ji 1 (wd*(W*W))
 have hr1:rl 1=1:=rfl
 refine bS Tryz.func67 (ht:=(fun r=>LV.ren_pure r _ (cT.pure _))) ?_
 refine cx ?_
 refine d7 11 [9] (by decide +kernel) ?_
 refine cp bK (kr 1 (by decide) (by decide)) ?_
 refine bx ?_
 refine cp bf (dc W W (by omega)) ?_
 refine cp bf (dc wd (W*W) (by omega)) ?_
 refine cp bf (qC 1 (wd*(W*W)) (by omega)) ?_
 refine tz ?_
 refine aA ?_
 refine bJ ?_
 refine aR (b:=_) rfl (by decide) ?_
 refine ct ?_
 refine au 8 (by decide +kernel) ?_
 refine ca ?_
 refine cp jt (qd Du Dv ql0 x y h0) ?_
 refine cp bf (dc (1/(wd*(W*W))) (ja Du Dv ql0 x y) (by omega)) ?_
 refine ca ?_
 refine aY (aP.kill _ 12) ?_
 refine bw ?_
 refine aA ?_
 refine bJ ?_
 refine aR (b:=_) rfl (by decide) ?_
 refine ct ?_
 refine au 8 (by decide +kernel) ?_
 refine ca ?_
 refine cp jt (qd Du Dv ql1 x y h1) ?_
 refine cp bf (dc (1/(wd*(W*W))) (ja Du Dv ql1 x y) (by omega)) ?_
 refine ca ?_
 refine aY (aP.kill _ 12) ?_
 refine bw ?_
 refine aA ?_
 refine bJ ?_
 refine aR (b:=_) rfl (by decide) ?_
 refine ct ?_
 refine au 8 (by decide +kernel) ?_
 refine ca ?_
 refine cp jt (qd Du Dv ql2 x y h2) ?_
 refine cp bf (dc (1/(wd*(W*W))) (ja Du Dv ql2 x y) (by omega)) ?_
 refine ca ?_
 refine aY (aP.kill _ 12) ?_
 refine bw ?_
 refine aA ?_
 refine bJ ?_
 refine bb (b:=_) rfl (by decide) ?_
 refine bE ?_
 exact b9 [] rfl rfl rfl cs (bX cs rfl) lq (.pure pu)
namespace Lr
theorem bQ {p q:Prop} (k:q) (e:p=q:=by simp only [e1,e2,e3,e4,p1,p2,p3,q1,q2,q3,l1,t0,t1,r1,r2,r3,r4,Nat.zero_add,Nat.reduceMul,Nat.reduceAdd,b1,b2,b3,b4,b5,b6,i1,i2,i3,i4,i5,i6,Nat.reduceBEq,dq,cb,ae dW,dE,dU,aQ,bo,aW,List.length_cons,List.length_nil,List.nil_append,List.map_nil,List.take_nil,List.append_nil,List.set_cons_zero,List.set_cons_succ,Nat.reduceEqDiff,reduceIte,if_true,if_false,aN,aM,ae cT,ae cA,ae ah,ax,aC,LV.kill,aH];exact rfl):p:=e.mpr k
end Lr
open Lr in
theorem Df (R U V:Nat) (ua ub va vb:Rat) (rows:List (List PoR)) (h:pf R U V rows) (hua:rl ua≤100) (hub:rl ub≤100) (hva:rl va≤100) (hvb:rl vb≤100) (hu:ua<ub) (hv:va<vb) (u v x y:Rat) (hu1:rl u≤100) (hv1:rl v≤100) (hx:yS x) (hy:yS y) (ex:(u-ua)/(ub-ua)=x) (ey:(v-va)/(vb-va)=y) (hR:R≤25) (hUi:mg (ua,ub) u=true) (hVi:mg (va,vb) v=true):ap Tryz.prog 16 [.agg [ai U,ai V,.list 3 ((iF U ua ub).map ratL),.list 3 ((iF V va vb).map ratL),.list 1 (rows.map bu)],ratL u,ratL v] (.tup [cQ (DA U V (U-1) V (oH U V) rows.flatten (ub-ua) x y),cQ (DA U V U (V-1) (oL U V) rows.flatten (vb-va) x y),iL 0]):=by
 have hpu:∀ l:List Rat,aD (l.map ratL)=true:=fun l=>al ah l
 have hsp:LV.pure (.agg [ai U,ai V,.list 3 ((iF U ua ub).map ratL),.list 3 ((iF V va vb).map ratL),.list 1 (rows.map bu)])=true:=by simp [LV.pure,aD,al ah,al dW]
 have hku:=ak ah 3 (iF U ua ub)
 have hkv:=ak ah 3 (iF V va vb)
 have hu3:=h.u3
 have hv3:=h.v3
 have hr1:=h.r1
 have hwd1:=fo ub ua
 have hwd2:=fo vb va
 have hdu:dfS U V (U-1) V (oH U V):=CI h.u3 h.v3
 have hdv:dfS U V U (V-1) (oL U V):=BZ h.u3 h.v3
 have hqU0:pdS ((U-1)+U) (V+V) (iD U V (U-1) V (oH U V) rows.flatten 0) x y:=⟨kD h hdu 0,by omega,by omega,fun t ht=>by have:=oz h hdu 0 t ht;omega,hx,hy⟩
 have hqU1:pdS ((U-1)+U) (V+V) (iD U V (U-1) V (oH U V) rows.flatten 1) x y:=⟨kD h hdu 1,by omega,by omega,fun t ht=>by have:=oz h hdu 1 t ht;omega,hx,hy⟩
 have hqU2:pdS ((U-1)+U) (V+V) (iD U V (U-1) V (oH U V) rows.flatten 2) x y:=⟨kD h hdu 2,by omega,by omega,fun t ht=>by have:=oz h hdu 2 t ht;omega,hx,hy⟩
 have hqV0:pdS (U+U) ((V-1)+V) (iD U V U (V-1) (oL U V) rows.flatten 0) x y:=⟨kD h hdv 0,by omega,by omega,fun t ht=>by have:=oz h hdv 0 t ht;omega,hx,hy⟩
 have hqV1:pdS (U+U) ((V-1)+V) (iD U V U (V-1) (oL U V) rows.flatten 1) x y:=⟨kD h hdv 1,by omega,by omega,fun t ht=>by have:=oz h hdv 1 t ht;omega,hx,hy⟩
 have hqV2:pdS (U+U) ((V-1)+V) (iD U V U (V-1) (oL U V) rows.flatten 2) x y:=⟨kD h hdv 2,by omega,by omega,fun t ht=>by have:=oz h hdv 2 t ht;omega,hx,hy⟩
 have hpU:LV.pure (.agg [.agg [ai ((U-1)+U),ai (V+V),.list 3 ((iD U V (U-1) V (oH U V) rows.flatten 0).map ratL)],.agg [ai ((U-1)+U),ai (V+V),.list 3 ((iD U V (U-1) V (oH U V) rows.flatten 1).map ratL)],.agg [ai ((U-1)+U),ai (V+V),.list 3 ((iD U V (U-1) V (oH U V) rows.flatten 2).map ratL)]])=true:=by simp [LV.pure,aD,al ah]
 obtain⟨hWU,hEU,hBU⟩:=pP h hdu hR (wd:=(ub-ua)) (by omega) hx hy
 have hpV:LV.pure (.agg [.agg [ai (U+U),ai ((V-1)+V),.list 3 ((iD U V U (V-1) (oL U V) rows.flatten 0).map ratL)],.agg [ai (U+U),ai ((V-1)+V),.list 3 ((iD U V U (V-1) (oL U V) rows.flatten 1).map ratL)],.agg [ai (U+U),ai ((V-1)+V),.list 3 ((iD U V U (V-1) (oL U V) rows.flatten 2).map ratL)]])=true:=by simp [LV.pure,aD,al ah]
 obtain⟨hWV,hEV,hBV⟩:=pP h hdv hR (wd:=(vb-va)) (by omega) hx hy
 have hqW:pdS U V (dL rows.flatten) x y:=⟨h.wl,by omega,by omega,fun t ht=>by have:=h.wr t ht;omega,hx,hy⟩
 have hpW:=aO U V (dL rows.flatten)
 have hO1:=xa ua ub u hua hub hu hu1 hUi
 have hO2:=xa va vb v hva hvb hv hv1 hVi
 rw [ex] at hO1
 rw [ey] at hO2
 have hbp:aD [.boxp (ratL (ja U V (dL rows.flatten) x y)),.boxp (ratL x),.boxp (ratL y)]=true:=by simp [aD,LV.pure,ah.pure]
 have hAU:=xQ ((U-1)+U) (V+V) (iD U V (U-1) V (oH U V) rows.flatten 0) (iD U V (U-1) V (oH U V) rows.flatten 1) (iD U V (U-1) V (oH U V) rows.flatten 2) (ub-ua) (ja U V (dL rows.flatten) x y) x y hqU0 hqU1 hqU2 (by omega) (by omega)
 have hTU:=pv R U V (U-1) V (iF U ua ub) (iF V va vb) rows h (by omega) (oH U V) hdu 72 (fun c hc hr=>Bt U V c hc (by rw [hc];have:=qJ hu3 hv3;omega) (fun t ht=>by have:=hr t ht;omega) (by omega))
 have hAV:=xQ (U+U) ((V-1)+V) (iD U V U (V-1) (oL U V) rows.flatten 0) (iD U V U (V-1) (oL U V) rows.flatten 1) (iD U V U (V-1) (oL U V) rows.flatten 2) (vb-va) (ja U V (dL rows.flatten) x y) x y hqV0 hqV1 hqV2 (by omega) (by omega)
 have hTV:=pv R U V U (V-1) (iF U ua ub) (iF V va vb) rows h (by omega) (oL U V) hdv 73 (fun c hc hr=>AN U V c hc (by rw [hc];have:=qJ hu3 hv3;omega) (fun t ht=>by have:=hr t ht;omega) (by omega))
 refine bS Tryz.func16 (ht:=(vr (cT.pure _) (cT.pure _) rfl)) ?_
 refine ct ?_
 refine cp bK (Dx U V ua ub va vb rows hua hub hva hvb hu hv (by omega) (by omega)) ?_
 refine ct ?_
 refine cp bf (hO1) ?_
 refine en ?_
 refine cp bf (hO2) ?_
 refine iP ?_
 refine ab (ao (v:=false) rfl rfl ((rfl)) rfl) (.move _) ?_
 refine ab (ao (v:=false) rfl rfl ((rfl)) rfl) (.not rfl) ?_
 refine ab rfl (.pickF rfl ((rfl))) ?_
 refine bG ?_
 refine bb (b:=_) rfl (rfl) ?_
 refine bx ?_
 refine au 7 (by decide +kernel) ?_
 refine aL ?_
 refine cp bK (tg U V (iF U ua ub) (iF V va vb) rows (by omega) (by omega) R (by omega) h.rw) ?_
 refine bx ?_
 refine cp jt (qd U V (dL rows.flatten) x y hqW) ?_
 refine bJ ?_
 refine cI [17,11,14] rfl rfl (.mk (caps:=[.boxp (ratL (ja U V (dL rows.flatten) x y)),.boxp (ratL x),.boxp (ratL y)]) (.cons (.eptr rfl rfl rfl (ah.csize _) (am _) (ah.pure _) rfl) (.cons (.eptr rfl rfl rfl (ah.csize _) (am _) (ah.pure _) rfl) (.cons (.eptr rfl rfl rfl (ah.csize _) (am _) (ah.pure _) rfl) .nil))) (fun x hx=>by simp only [List.mem_cons,List.not_mem_nil,or_false] at hx;rcases hx with rfl | rfl | rfl<;>exact⟨rfl,rfl⟩)) rfl ?_
 refine bw ?_
 refine au 10 (by decide +kernel) ?_
 refine bG ?_
 refine cp bf (hTU) ?_
 refine aL ?_
 refine cI [] rfl rfl (.clo (f:=67) (cap:=[.boxp (ratL (ja U V (dL rows.flatten) x y)),.boxp (ratL x),.boxp (ratL y)]) (args:=[.agg [.agg [ai ((U-1)+U),ai (V+V),.list 3 ((iD U V (U-1) V (oH U V) rows.flatten 0).map ratL)],.agg [ai ((U-1)+U),ai (V+V),.list 3 ((iD U V (U-1) V (oH U V) rows.flatten 1).map ratL)],.agg [ai ((U-1)+U),ai (V+V),.list 3 ((iD U V (U-1) V (oH U V) rows.flatten 2).map ratL)]],ratL (ub-ua)]) rfl (.cons fR (.cons fR .nil)) ⟨hbp,(fun x hx=>by simp only [List.mem_cons,List.not_mem_nil,or_false] at hx;rcases hx with rfl | rfl | rfl<;>exact⟨rfl,rfl⟩)⟩ hAU.1 (by decide) (fun _ h=>by cases h)) (hAU.2 _) ?_
 refine bG ?_
 refine cp bf (hTV) ?_
 refine aL ?_
 refine cI [] rfl rfl (.clo (f:=67) (cap:=[.boxp (ratL (ja U V (dL rows.flatten) x y)),.boxp (ratL x),.boxp (ratL y)]) (args:=[.agg [.agg [ai (U+U),ai ((V-1)+V),.list 3 ((iD U V U (V-1) (oL U V) rows.flatten 0).map ratL)],.agg [ai (U+U),ai ((V-1)+V),.list 3 ((iD U V U (V-1) (oL U V) rows.flatten 1).map ratL)],.agg [ai (U+U),ai ((V-1)+V),.list 3 ((iD U V U (V-1) (oL U V) rows.flatten 2).map ratL)]],ratL (vb-va)]) rfl (.cons fR (.cons fR .nil)) ⟨hbp,(fun x hx=>by simp only [List.mem_cons,List.not_mem_nil,or_false] at hx;rcases hx with rfl | rfl | rfl<;>exact⟨rfl,rfl⟩)⟩ hAV.1 (by decide) (fun _ h=>by cases h)) (hAV.2 _) ?_
 refine bJ ?_
 exact bW [] rfl rfl rfl cs (bX cs rfl) lq (.pure pu) rfl rfl cs (bX cs rfl) lq (.pure pu) rfl (.pure rfl)
namespace Lw
theorem bQ {p q:Prop} (k:q) (e:p=q:=by simp only [e1,e2,e3,e4,p1,p2,p3,q1,q2,q3,l1,t0,t1,r1,r2,r3,r4,Nat.zero_add,Nat.reduceMul,Nat.reduceAdd,b1,b2,b3,b4,b5,b6,i1,i2,i3,i4,i5,i6,Nat.reduceBEq,cb,ae dW,dE,dU,aQ,bo,aW,List.length_cons,List.length_nil,List.nil_append,List.map_nil,List.take_nil,List.append_nil,List.set_cons_zero,List.set_cons_succ,Nat.reduceEqDiff,reduceIte,if_true,if_false,aN,aM,ae cT,ae cA,ae ah,ax,aC,LV.kill,aH];exact rfl):p:=e.mpr k
end Lw
open Lw in
theorem DV (U V:Nat) (kU kV:List Rat) (rows:List (List PoR)) (u v:Rat) (a b:V3) (e:Int) (ha:eN 210000000 a) (hb:eN 210000000 b) (hD:ap Tryz.prog 16 [.agg [ai U,ai V,.list 3 (kU.map ratL),.list 3 (kV.map ratL),.list 1 (rows.map bu)],ratL u,ratL v] (.tup [cQ a,cQ b,iL e])):ap Tryz.prog 14 [.agg [ai U,ai V,.list 3 (kU.map ratL),.list 3 (kV.map ratL),.list 1 (rows.map bu)],ratL u,ratL v] (.tup [cQ (Eo a b),iL e]):=by
 have hsp:LV.pure (.agg [ai U,ai V,.list 3 (kU.map ratL),.list 3 (kV.map ratL),.list 1 (rows.map bu)])=true:=by simp [LV.pure,aD,al ah,al dW]
 refine bS Tryz.func14 (ht:=(fv (cT.pure _) rfl)) ?_
 refine dI ?_
 refine cp jt (hD) ?_
 refine en ?_
 refine cp bf (oa a b 210000000 (by decide) ha hb) ?_
 refine bJ ?_
 exact fG [] rfl rfl rfl cs (bX cs rfl) lq (.pure pu) rfl (.pure rfl)
end Go.Proofs.YtfpdccbgngdhkaaGreat
end
