/- Texts LgS, K26, K27, K28, K29 of this proof, joined. -/
import Derived.Test.YtgfbghoihhnahaaGreatQG6
set_option linter.unusedVariables false
set_option linter.unusedSimpArgs false
section
set_option linter.unusedVariables false
set_option linter.unusedSimpArgs false
namespace Go.Lg
def plainOp:Op→Bool
 | .move _=>true
 | .pick ..=>true
 | .binOp ..=>true
 | .load ..=>true
 | .fieldAddr ..=>true
 | .indexAddr ..=>true
 | .call ⟨.builtin .len,_,_⟩=>true
 | _=>false
theorem plain_tail {op:Op} (h:plainOp op=true):opTail op=false:=by
 unfold plainOp at h
 split at h<;>first | rfl | cases h
section
variable {P:Program} {H:Heap} {ρ ρ':Operand→LV}
theorem OpP.cong {op:Op} {r:LV} (h:OpP P H ρ op r) (hp:plainOp op=true) (hr:∀ x∈op.operands,ρ' x=ρ x):OpP P H ρ' op r:=by
 cases h with
 | move x=>rw [←hr x (by simp [Op.operands])];exact .move x
 | pick hc =>
  rename_i c x y t
  have e1:=hr x (by simp [Op.operands])
  have e2:=hr y (by simp [Op.operands])
  have:=OpP.pick (P:=P) (H:=H) (ρ:=ρ') (x:=x) (y:=y) ((hr _ (by simp [Op.operands])).trans hc)
  rw [e1,e2] at this
  exact this
 | bin hx hy h=>exact .bin ((hr _ (by simp [Op.operands])).trans hx) ((hr _ (by simp [Op.operands])).trans hy) h
 | sh hx hy h=>exact .sh ((hr _ (by simp [Op.operands])).trans hx) ((hr _ (by simp [Op.operands])).trans hy) h
 | beq hx hy hT=>exact .beq ((hr _ (by simp [Op.operands])).trans hx) ((hr _ (by simp [Op.operands])).trans hy) hT
 | bne hx hy hT=>exact .bne ((hr _ (by simp [Op.operands])).trans hx) ((hr _ (by simp [Op.operands])).trans hy) hT
 | addS hx hy h=>exact .addS ((hr _ (by simp [Op.operands])).trans hx) ((hr _ (by simp [Op.operands])).trans hy) h
 | eqS hx hy=>exact .eqS ((hr _ (by simp [Op.operands])).trans hx) ((hr _ (by simp [Op.operands])).trans hy)
 | eqN hx hy hT=>exact .eqN ((hr _ (by simp [Op.operands])).trans hx) ((hr _ (by simp [Op.operands])).trans hy) hT
 | eqNL hx hy hT=>exact .eqNL ((hr _ (by simp [Op.operands])).trans hx) ((hr _ (by simp [Op.operands])).trans hy) hT
 | fieldAddrB hq hT hr'=>exact .fieldAddrB ((hr _ (by simp [Op.operands])).trans hq) hT hr'
 | fieldAddrE hq hT hk=>exact .fieldAddrE ((hr _ (by simp [Op.operands])).trans hq) hT hk
 | loadB hq hT hc=>exact .loadB ((hr _ (by simp [Op.operands])).trans hq) hT hc
 | loadE hq hb hs hi hx hr' hT=>exact .loadE ((hr _ (by simp [Op.operands])).trans hq) hb hs hi hx hr' hT
 | idxAE hx hT hE hi h0 hm=>exact .idxAE ((hr _ (by simp [Op.operands])).trans hx) hT hE ((hr _ (by simp [Op.operands])).trans hi) h0 hm
 | idxAB hx hT hE hf hi h0 hr'=>exact .idxAB ((hr _ (by simp [Op.operands])).trans hx) hT hE hf ((hr _ (by simp [Op.operands])).trans hi) h0 hr'
 | idxL hx hT hE hi h0 hr' hc=>exact .idxL ((hr _ (by simp [Op.operands])).trans hx) hT hE ((hr _ (by simp [Op.operands])).trans hi) h0 hr' hc
 | idxR hx hT hE hi h0 hn=>exact .idxR ((hr _ (by simp [Op.operands])).trans hx) hT hE ((hr _ (by simp [Op.operands])).trans hi) h0 hn
 | lenL hx has hT=>exact .lenL ((hr _ (by simp [Op.operands,Call.operands])).trans hx) has hT
 | lenR hx has hT=>exact .lenR ((hr _ (by simp [Op.operands,Call.operands])).trans hx) has hT
 | lenN hx has hT=>exact .lenN ((hr _ (by simp [Op.operands,Call.operands])).trans hx) has hT
 | _=>first | (cases hp;done) | (simp [plainOp] at hp;done)
end
def doneTo (n e:Nat):Array Bool:=((List.range n).map fun i=>decide (i<e)).toArray
theorem doneTo_get {n e i:Nat} (h:i<n):(doneTo n e).getD i false=decide (i<e):=by
 unfold doneTo
 rw [Array.getD_eq_getD_getElem?]
 simp [h]
theorem doneTo_size (n e:Nat):(doneTo n e).size=n:=by simp [doneTo]
theorem doneTo_eq {n e:Nat} {D:Array Bool} (hs:D.size=n) (h:∀ i,i<n→D.getD i false=decide (i<e)):D=doneTo n e:=by
 refine Array.ext (by rw [doneTo_size,hs]) fun i h1 h2=>?_
 have e1:=h i (by omega)
 have e2:=doneTo_get (n:=n) (e:=e) (i:=i) (by omega)
 rw [Array.getD_eq_getD_getElem?,Array.getElem?_eq_getElem h1] at e1
 rw [Array.getD_eq_getD_getElem?,Array.getElem?_eq_getElem h2] at e2
 simp only [Option.getD_some] at e1 e2
 rw [e1,e2]
def segOk (ops:Array Oper) (s e:Nat):Bool :=
 decide (s≤e) && decide (e≤ops.size) && ((List.range ops.size).all fun i=>(dirs (ops.getD i default)).all (·<i)) &&
 ((List.range e).all fun i=>decide (i<s) || plainOp (ops.getD i default).op) &&
 ((List.range e).all fun i=>(List.range e).all fun j=>decide (i<s) || decide (j<s) || i==j || okPair ops (bef ops.toList []) i j) &&
 ((List.range ops.size).all fun i=>decide (i<e) || (List.range e).all fun j=>decide (j<s) || ((bef ops.toList []).getD i 0).testBit j)
section
variable {P:Program} {ops:Array Oper}
theorem anyL_fuel {K:St→Prop}:∀ (n:Nat) (D:Array Bool) (L:St),anyL P ops n D L K→anyL P ops (n+1) D L K
 | 0,D,L,h=>⟨fun _=>h.2,fun i hi=>by rw [h.1] at hi;cases hi⟩
 | n+1,D,L,h=>⟨h.1,fun i hi=>by
  obtain⟨o,L',h1,h2,h3⟩:=h.2 i hi
  exact⟨o,L',h1,h2,anyL_fuel n _ _ h3⟩⟩
open Classical in
noncomputable def slotG (ops:Array Oper) (g:Nat→St) (s e:Nat) (D:Array Bool) (t:Nat):LV :=
 if ∃ i o,s≤i∧i<e∧D.getD i false=true∧ops[i]?=some o∧o.dst=some t then(g e).slot t else(g s).slot t
theorem any_seg {fuel:Nat} {K:St→Prop} {L:St} {D:Array Bool} (s e:Nat) (l:List Oper) (hD:D=doneTo ops.size s) (hl:l=(ops.toList.drop s).take (e-s)) (hok:segOk ops s e=true)
  (h:opsL P true ops l L (fun L'=>anyL P ops fuel (doneTo ops.size e) L' K)):anyL P ops (fuel+(e-s)) D L K:=by
 unfold segOk at hok
 simp only [Bool.and_eq_true,decide_eq_true_eq,List.all_eq_true,List.mem_range,Bool.or_eq_true] at hok
 obtain⟨⟨⟨⟨⟨hse,hen⟩,h1⟩,h2⟩,h3⟩,h4⟩:=hok
 have getD_of:∀ i o,ops[i]?=some o→ops.getD i default=o:=fun i o h=>by rw [Array.getD_eq_getD_getElem?,h];rfl
 have lt_of:∀ i o,ops[i]?=some o→i<ops.size:=fun i o h=>(Array.getElem?_eq_some_iff.1 h).1
 have some_of:∀ i,i<ops.size→∃ o,ops[i]?=some o:=fun i h=>⟨_,Array.getElem?_eq_getElem h⟩
 have hanc:=bef_anc ops ops.toList [] (fun i=>by simp) (fun i t h=>by simp at h)
 have hdir:∀ i o,ops[i]?=some o→∀ j∈dirs o,j<i:=fun i o h j hj=>h1 i (lt_of i o h) j (by rw [getD_of i o h];exact hj)
 have hplain:∀ i o,ops[i]?=some o→s≤i→i<e→plainOp o.op=true:=fun i o h a b=>by
  rcases h2 i b with c | c
  ·omega
  ·rw [getD_of i o h] at c;exact c
 have htail:∀ i,i<ops.size→e≤i→∀ j,s≤j→j<e→Anc ops j i:=fun i hi a j b c=>by
  rcases h4 i hi with q | q
  ·omega
  ·rcases q j c with q | q
   ·omega
   ·exact hanc i j q
 have hpair:∀ i j oi oj d,ops[i]?=some oi→ops[j]?=some oj→s≤i→i<e→s≤j→j<e→i≠j→oj.dst=some d→oi.dst≠some d∧(d∈oi.looksAt ops→if j<i then Anc ops j i else Anc ops i j):=by
  intro i j oi oj d hi hj si ei sj ej hne hdj
  rcases h3 i ei j ej with((q | q) | q) | q
  ·omega
  ·omega
  ·exact absurd (by simpa using q) hne
  ·unfold okPair at q
   rw [getD_of j oj hj,getD_of i oi hi,hdj] at q
   simp only [Bool.and_eq_true,bne_iff_ne,ne_eq,Bool.or_eq_true,Bool.not_eq_true'] at q
   refine⟨q.1,fun hmem=>?_⟩
   rcases q.2 with h' | h'
   ·rw [List.contains_iff_mem.2 hmem] at h';cases h'
   ·split at h'<;>rename_i hlt
    ·rw [if_pos hlt];exact hanc i j h'
    ·rw [if_neg hlt];exact hanc j i h'
 obtain⟨f,f0,fs,fK⟩:=opsL_chain _ _ h
 have hlen:l.length=e-s:=by rw [hl];simp;omega
 obtain⟨g,hg⟩:∃ g:Nat→St,g=fun i=>f (i-s):=⟨_,rfl⟩
 have gs0:g s=L:=by rw [hg];simp only [Nat.sub_self];exact f0
 have ge0:g e=f l.length:=by rw [hg,hlen]
 have gst:∀ i o,ops[i]?=some o→s≤i→i<e→Step P true ops o (g i) (g (i+1)):=fun i o h a b=>by
  have:=fs (i-s) o (by
   rw [hl,List.getElem?_take,if_pos (by omega),List.getElem?_drop,show s+(i-s)=i by omega]
   simpa using h)
  rw [hg]
  simp only
  rw [show i+1-s=i-s+1 by omega]
  exact this
 rw [←ge0] at fK
 have hstep:∀ i o,ops[i]?=some o→s≤i→i<e→(g i).heap.le (g (i+1)).heap∧∀ t,o.dst≠some t→(g (i+1)).slot t=(g i).slot t:=fun i o h a b=>step_tail (plain_tail (hplain i o h a b)) (gst i o h a b)
 have hle:∀ i j,s≤i→i≤j→j≤e→(g i).heap.le (g j).heap:=by
  intro i j si hij
  induction j with
  | zero =>
   intro _
   obtain rfl:i=0:=by omega
   exact Heap.le_refl _
  | succ j ih =>
   intro hjm
   by_cases c:i=j+1
   ·subst c;exact Heap.le_refl _
   ·obtain⟨o,ho⟩:=some_of j (by omega)
    exact Heap.le_trans (ih (by omega) (by omega)) (hstep j o ho (by omega) (by omega)).1
 have hconst:∀ i j t,s≤i→i≤j→j≤e→(∀ k o,i≤k→k<j→ops[k]?=some o→o.dst≠some t)→(g j).slot t=(g i).slot t:=by
  intro i j t si hij
  induction j with
  | zero =>
   intro _ _
   obtain rfl:i=0:=by omega
   rfl
  | succ j ih =>
   intro hjm hk
   by_cases c:i=j+1
   ·subst c;rfl
   ·obtain⟨o,ho⟩:=some_of j (by omega)
    rw [(hstep j o ho (by omega) (by omega)).2 t (hk j o (by omega) (by omega) ho)]
    exact ih (by omega) (by omega) (fun k o a b=>hk k o a (by omega))
 have hslot:∀ i o t,ops[i]?=some o→s≤i→i<e→o.dst=some t→(g e).slot t=(g (i+1)).slot t:=fun i o t ho si ei hdt =>
  hconst (i+1) e t (by omega) (by omega) (Nat.le_refl _) (fun k ok a b hk q=>(hpair i k o ok t ho hk si ei (by omega) b (by omega) q).1 hdt)
 let closed:Array Bool→Prop:=fun D=>∀ i o,ops[i]?=some o→D.getD i false=true→∀ j∈dirs o,D.getD j false=true
 have hclosed:∀ D,closed D→∀ j i,Anc ops j i→(∀ o,ops[i]?=some o→∀ k∈dirs o,D.getD k false=true)→D.getD j false=true:=by
  intro D hD j i hA
  induction hA with
  | @one i o ho h=>intro hr;exact hr o ho _ h
  | @step k i o hA ho hk ih=>intro hr;exact ih (fun o' ho' k' hk'=>hD k o' ho' (hr o ho k hk) k' hk')
 have main:∀ (n:Nat) (D:Array Bool) (L:St),D.size=ops.size→(∀ i,i<s→D.getD i false=true)→(∀ i,e≤i→D.getD i false=false)→closed D→(∀ t,L.slot t=slotG ops g s e D t) →
   (L.heap=(g e).heap∨(L.heap=(g s).heap∧∀ i,s≤i→i<e→D.getD i false=true→(g (i+1)).heap=(g i).heap))→(List.range e).countP (fun i=>!D.getD i false)≤n→anyL P ops (fuel+n) D L K:=by
  intro n
  induction n with
  | zero =>
   intro D L hsz hlo hhi hcl hsl hhp hct
   have hall:∀ i,i<e→D.getD i false=true:=fun i hi=>by
    have:(List.range e).countP (fun i=>!D.getD i false)=0:=by omega
    have:=List.countP_eq_zero.1 this i (List.mem_range.2 hi)
    simpa using this
   have eD:D=doneTo ops.size e:=doneTo_eq hsz fun i hi=>by
    rcases Nat.lt_or_ge i e with c | c
    ·rw [hall i c,decide_eq_true c]
    ·rw [hhi i c,decide_eq_false (by omega)]
   have eL:L=g e:=by
    have q1:L.slot=(g e).slot:=by
     funext t
     rw [hsl t]
     unfold slotG
     split
     ·rfl
     ·rename_i hno
      exact(hconst s e t (Nat.le_refl _) hse (Nat.le_refl _) (fun k o a b hk q=>hno ⟨k,o,a,b,hall k b,hk,q⟩)).symm
    have q2:L.heap=(g e).heap:=by
     rcases hhp with q | ⟨q,hq⟩
     ·exact q
     ·rw [q]
      have:∀ m,s≤m→m≤e→(g m).heap=(g s).heap:=by
       intro m
       induction m with
       | zero =>
        intro a _
        obtain rfl:s=0:=by omega
        rfl
       | succ m ih =>
        intro a b
        by_cases c:s=m+1
        ·rw [c]
        ·rw [hq m (by omega) (by omega) (hall m (by omega))];exact ih (by omega) (by omega)
      exact(this e hse (Nat.le_refl _)).symm
    cases L;cases hge:g e
    rw [hge] at q1 q2
    simp only at q1 q2
    rw [q1,q2]
   rw [eD,eL];exact fK
  | succ n ih =>
   intro D L hsz hlo hhi hcl hsl hhp hct
   by_cases hall:∀ i,i<e→D.getD i false=true
   ·have h0:(List.range e).countP (fun i=>!D.getD i false)=0:=List.countP_eq_zero.2 fun i hi=>by rw [hall i (List.mem_range.1 hi)];decide
    exact anyL_fuel _ _ _ (ih D L hsz hlo hhi hcl hsl hhp (by omega))
   ·have hin:∀ i,i∈Region.ready .any ops D→s≤i∧i<e:=fun i hi=>by
     obtain⟨o,p1',p2',p3'⟩:=(ready_spec hsz).1 hi
     have hlt:=lt_of i o p1'
     have hni:D.getD i false=false:=by rw [getD_sz (by omega) false true];exact p2'
     refine⟨?_,?_⟩
     ·rcases Nat.lt_or_ge i s with c | c
      ·rw [hlo i c] at hni;cases hni
      ·exact c
     ·rcases Nat.lt_or_ge i e with c | c
      ·exact c
      ·exfalso
       refine hall fun j hj=>?_
       rcases Nat.lt_or_ge j s with d | d
       ·exact hlo j d
       ·exact hclosed D hcl j i (htail i hlt c j d hj) (fun o' ho' k hk=>by rw [p1'] at ho';cases ho';exact p3' k hk)
    refine⟨fun hr=>?_,fun i hi=>?_⟩
    ·exfalso
     refine hall fun i=>?_
     induction i using Nat.strongRecOn with
     | _ i ihh =>
      intro hie
      cases hc:D.getD i false with
      | true=>rfl
      | false =>
       obtain⟨o,ho⟩:=some_of i (by omega)
       have:i∈Region.ready .any ops D:=(ready_spec hsz).2 ⟨o,ho,by rw [getD_sz (by omega) true false];exact hc,fun j hj=>by
        have:=hdir i o ho j hj
        exact ihh j this (by omega)⟩
       rw [hr] at this;cases this
    ·obtain⟨si,ei⟩:=hin i hi
     obtain⟨o,ho,hni',hrd⟩:=(ready_spec hsz).1 hi
     have hni:D.getD i false=false:=by rw [getD_sz (by omega) false true];exact hni'
     have hset:∀ k,(D.setIfInBounds i true).getD k false=true↔k=i∨D.getD k false=true:=fun k=>by
      by_cases c:i=k
      ·subst c
       rw [Array.getD_eq_getD_getElem?,Array.getElem?_setIfInBounds_self_of_lt (by omega)];simp
      ·rw [Array.getD_eq_getD_getElem?,Array.getElem?_setIfInBounds_ne c,←Array.getD_eq_getD_getElem?]
       constructor
       ·exact fun h=>.inr h
       ·rintro(h | h)
        ·exact absurd h.symm c
        ·exact h
     have hcl':closed (D.setIfInBounds i true):=fun k ok hk hDk j hj=>by
      rcases(hset k).1 hDk with rfl | h
      ·rw [ho] at hk;cases hk
       exact(hset j).2 (.inr (hrd j hj))
      ·exact(hset j).2 (.inr (hcl k ok hk h j hj))
     have hrd':∀ o',ops[i]?=some o'→∀ k∈dirs o',D.getD k false=true:=fun o' ho' k hk=>(by rw [ho] at ho';cases ho';exact hrd k hk)
     have hread:∀ t,t∈o.looksAt ops→(g i).slot t=L.slot t:=by
      intro t ht
      rw [hsl t]
      by_cases hex:∃ j oj,s≤j∧j<e∧ops[j]?=some oj∧oj.dst=some t
      ·obtain⟨j,oj,sj,ej,hj,hdj⟩:=hex
       have huniq:∀ k ok,s≤k→k<e→ops[k]?=some ok→ok.dst=some t→k=j:=fun k ok sk ek hk hdk =>
        Classical.byContradiction fun hne=>(hpair k j ok oj t hk hj sk ek sj ej hne hdj).1 hdk
       have nodone:(∀ hh:D.getD j false=true,False)→slotG ops g s e D t=(g s).slot t:=fun hh=>by
        unfold slotG
        rw [if_neg]
        rintro⟨k,ok,sk,ek,hDk,hk,hdk⟩
        have:=huniq k ok sk ek hk hdk
        subst this
        exact hh hDk
       by_cases hji:j=i
       ·subst hji
        rw [hconst s j t (Nat.le_refl _) si (by omega) (fun k ok a b hk q=>by have:=huniq k ok a (by omega) hk q;omega),nodone (fun hh=>by rw [hni] at hh;cases hh)]
       ·have hp:=(hpair i j o oj t ho hj si ei sj ej (Ne.symm hji) hdj).2 ht
        by_cases hlt:j<i
        ·rw [if_pos hlt] at hp
         have hDj:=hclosed D hcl j i hp hrd'
         have e2:slotG ops g s e D t=(g e).slot t:=by
          unfold slotG
          rw [if_pos ⟨j,oj,sj,ej,hDj,hj,hdj⟩]
         rw [e2,hslot j oj t hj sj ej hdj]
         exact hconst (j+1) i t (by omega) (by omega) (by omega) (fun k ok a b hk q=>by have:=huniq k ok (by omega) (by omega) hk q;omega)
        ·rw [if_neg hlt] at hp
         rw [hconst s i t (Nat.le_refl _) si (by omega) (fun k ok a b hk q=>by have:=huniq k ok a (by omega) hk q;omega),nodone (fun hh=>by
          have:=hclosed D hcl i j hp (fun o' ho' k' hk'=>hcl j o' ho' hh k' hk')
          rw [hni] at this;cases this)]
      ·rw [hconst s i t (Nat.le_refl _) si (by omega) (fun k ok a b hk q=>hex ⟨k,ok,a,by omega,hk,q⟩)]
       unfold slotG
       rw [if_neg]
       rintro⟨k,ok,sk,ek,hDk,hk,hdk⟩
       exact hex ⟨k,ok,sk,ek,hk,hdk⟩
     have hafter:∀ t,slotG ops g s e (D.setIfInBounds i true) t=if o.dst=some t then(g (i+1)).slot t else L.slot t:=by
      intro t
      rw [hsl t]
      by_cases hdt:o.dst=some t
      ·rw [if_pos hdt]
       unfold slotG
       rw [if_pos ⟨i,o,si,ei,(hset i).2 (.inl rfl),ho,hdt⟩]
       exact hslot i o t ho si ei hdt
      ·rw [if_neg hdt]
       unfold slotG
       congr 1
       apply propext
       constructor
       ·rintro⟨k,ok,sk,ek,hDk,hk,hdk⟩
        rcases(hset k).1 hDk with rfl | h
        ·rw [ho] at hk;cases hk;exact absurd hdk hdt
        ·exact⟨k,ok,sk,ek,h,hk,hdk⟩
       ·rintro⟨k,ok,sk,ek,hDk,hk,hdk⟩
        exact⟨k,ok,sk,ek,(hset k).2 (.inr hDk),hk,hdk⟩
     have hguard:∀ res,GuardIs ops (g i) o res→GuardIs ops L o res:=fun res hgd=>by
      unfold GuardIs at hgd ⊢
      cases hh:o.guard with
      | none=>rw [hh] at hgd;exact hgd
      | some pr =>
       obtain⟨j,want⟩:=pr
       rw [hh] at hgd
       obtain⟨d,q1',q'⟩:=hgd
       have e1:(g i).slot d=L.slot d:=hread d (by unfold Oper.looksAt;rw [hh];simp [q1'])
       refine⟨d,q1',?_⟩
       show (∃ b,L.slot d=_∧_)∨(L.slot d=_∧_)
       rw [←e1]
       exact q'
     have hput:∀ (r:LV) (H1:Heap),(∀ t,o.dst=some t→(g (i+1)).slot t=r)→∀ t,(⟨(L.put o.dst r).slot,H1⟩:St).slot t=slotG ops g s e (D.setIfInBounds i true) t:=fun r H1 hr t=>by
      rw [hafter t]
      show (L.put o.dst r).slot t=_
      cases hd:o.dst with
      | none=>rw [if_neg (by simp)];rfl
      | some d =>
       rw [put_slot]
       by_cases c:t=d
       ·subst c
        rw [if_pos rfl,if_pos rfl,hr t hd]
       ·rw [if_neg c,if_neg (fun q=>c (by cases q;rfl))]
     have hcnt:(List.range e).countP (fun k=>!(D.setIfInBounds i true).getD k false)≤n:=by
      have:(List.range e).countP (fun k=>!(D.setIfInBounds i true).getD k false)<(List.range e).countP (fun k=>!D.getD k false):=by
       apply countP_lt
       ·intro k _ hk
        cases hc:D.getD k false with
        | false=>rfl
        | true=>rw [(hset k).2 (.inr hc)] at hk;cases hk
       ·exact⟨i,List.mem_range.2 ei,by rw [hni];rfl,by rw [(hset i).2 (.inl rfl)];rfl⟩
      omega
     have hfin:∀ L',Step P false ops o L L'→(∀ t,L'.slot t=slotG ops g s e (D.setIfInBounds i true) t)→(L'.heap=(g e).heap∨(L'.heap=(g s).heap∧∀ k,s≤k→k<e→(D.setIfInBounds i true).getD k false=true→(g (k+1)).heap=(g k).heap)) →
       ∃ o L',ops[i]?=some o∧Step P false ops o L L'∧anyL P ops (fuel+n) (D.setIfInBounds i true) L' K:=fun L' hst hs' hh' =>
      ⟨o,L',ho,hst,ih _ L' (by simpa using hsz) (fun k hk=>(hset k).2 (.inr (hlo k hk))) (fun k hk=>by
       cases hc:(D.setIfInBounds i true).getD k false with
       | false=>rfl
       | true =>
        rcases(hset k).1 hc with rfl | q
        ·omega
        ·rw [hhi k hk] at q;cases q) hcl' hs' hh' hcnt⟩
     have hpl:=hplain i o ho si ei
     cases gst i o ho si ei with
     | skip hg' h' =>
      refine hfin (L.put o.dst (.tup [])) (.skip (hguard false hg') rfl) (fun t=>?_) ?_
      ·have:=hput (.tup []) L.heap (fun t ht=>by rw [h',ht,put_slot,if_pos rfl]) t
       exact this
      ·rw [put_heap]
       rcases hhp with q | ⟨q,hq⟩
       ·exact .inl q
       ·refine .inr ⟨q,fun k sk ek hk=>?_⟩
        rcases(hset k).1 hk with rfl | hk
        ·rw [h',put_heap]
        ·exact hq k sk ek hk
     | @val r fr H1 hg' hH hfr hov h' =>
      obtain⟨dst,op,ty,pos,after,gd⟩:=o
      have hH1:H1=(g (i+1)).heap:=by rw [h']
      have hle1:H1.le (g e).heap:=by rw [hH1];exact hle (i+1) e (by omega) (by omega) (Nat.le_refl _)
      cases hov with
      | alloc ha=>cases ha<;>cases hpl
      | call hc=>cases hc<;>cases hpl
      | pure hpp =>
       have hev:∀ x∈op.operands,L.ev x=(g i).ev x:=by
        intro x hx
        cases x with
        | tmp t =>
         have ht:t∈Oper.looksAt ops ⟨dst,op,ty,pos,after,gd⟩:=by
          unfold Oper.looksAt
          simp only [List.mem_append,List.mem_filterMap]
          exact .inl ⟨.tmp t,by simpa using hx,rfl⟩
         exact(hread t ht).symm
        | const v=>rfl
        | func f=>rfl
        | global f=>rfl
       have hpp':=OpP.cong (OpP.le hle1 hpp) hpl hev
       have hLe:L.heap.le (g e).heap:=by
        rcases hhp with q | ⟨q,_⟩
        ·rw [q];exact Heap.le_refl _
        ·rw [q];exact hle s e (Nat.le_refl _) hse (Nat.le_refl _)
       refine hfin ⟨(L.put dst r).slot,(g e).heap⟩ (.val (fr:=[]) (hguard true hg') hLe (fun _ _ hh=>by cases hh) (.pure hpp') rfl) (hput r _ (fun t ht=>?_)) (.inl rfl)
       rw [h']
       show ((g i).put dst r).slot t=r
       have ht:dst=some t:=ht
       rw [ht,put_slot,if_pos rfl]
     | st hg' hot =>
      obtain⟨dst,op,ty,pos,after,gd⟩:=o
      have:=plain_tail hpl
      rw [hot.tail] at this;cases this
     | stM hdr _ _=>cases hdr
 have hsz:D.size=ops.size:=by rw [hD];exact doneTo_size _ _
 have hDg:∀ i,D.getD i false=true↔i<s:=fun i=>by
  rcases Nat.lt_or_ge i ops.size with c | c
  ·rw [hD,doneTo_get c,decide_eq_true_eq]
  ·constructor
   ·intro q
    rw [Array.getD_eq_getD_getElem?,Array.getElem?_eq_none (by omega)] at q
    cases q
   ·intro q;omega
 refine main (e-s) D L hsz (fun i hi=>(hDg i).2 hi) (fun i hi=>?_) (fun i o ho hi j hj=>(hDg j).2 (by have:=hdir i o ho j hj;have:=(hDg i).1 hi;omega)) (fun t=>?_) (.inr ⟨by rw [gs0],fun i si _ hi=>by have:=(hDg i).1 hi;omega⟩) ?_
 ·cases hc:D.getD i false with
  | false=>rfl
  | true=>have:=(hDg i).1 hc;omega
 ·unfold slotG
  rw [if_neg,gs0]
  rintro⟨k,o,sk,_,hk,_⟩
  have:=(hDg k).1 hk
  omega
 ·have:∀ m,(List.range m).countP (fun i=>!D.getD i false)≤m-s:=by
   intro m
   induction m with
   | zero=>simp
   | succ m ih =>
    rw [List.range_succ,List.countP_append]
    have hone:List.countP (fun i=>!D.getD i false) [m]=if D.getD m false=true then 0 else 1:=by
     rw [List.countP_cons,List.countP_nil,Nat.zero_add]
     cases hc:D.getD m false<;>rfl
    rw [hone]
    split
    ·omega
    ·rename_i hc
     have:¬m<s:=fun q=>hc ((hDg m).2 q)
     omega
  exact this e
theorem any_segm {m:Nat} {K:St→Prop} {L:St} {D:Array Bool} {l0:List Oper} (s e fuel:Nat) (hm:m=fuel+(e-s)) (hD:D=doneTo l0.toArray.size s) (hok:segOk l0.toArray s e=true)
  (h:opsL P true l0.toArray ((l0.drop s).take (e-s)) L (fun L'=>anyL P l0.toArray fuel (doneTo l0.toArray.size e) L' K)):anyL P l0.toArray m D L K:=by
 subst hm
 exact any_seg s e _ hD rfl hok h
end
def slimOp:Op→Bool
 | .move _=>true
 | .binOp ..=>true
 | .fieldAddr ..=>true
 | .indexAddr ..=>true
 | .call ⟨.builtin .len,_,_⟩=>true
 | _=>false
def kindOp:Op→Bool
 | .store ..=>true
 | .call ⟨.value (.func _),_,_⟩=>true
 | op=>plainOp op
theorem slim_plain {op:Op} (h:slimOp op=true):plainOp op=true:=by
 unfold slimOp at h
 split at h<;>first | rfl | cases h
theorem OpP.slim {P:Program} {H H':Heap} {ρ:Operand→LV} {op:Op} {r:LV} (h:OpP P H ρ op r) (hp:slimOp op=true):OpP P H' ρ op r:=by
 cases h with
 | move x=>exact .move x
 | bin hx hy h=>exact .bin hx hy h
 | sh hx hy h=>exact .sh hx hy h
 | beq hx hy hT=>exact .beq hx hy hT
 | bne hx hy hT=>exact .bne hx hy hT
 | addS hx hy h=>exact .addS hx hy h
 | eqS hx hy=>exact .eqS hx hy
 | eqN hx hy hT=>exact .eqN hx hy hT
 | eqNL hx hy hT=>exact .eqNL hx hy hT
 | fieldAddrB hq hT hr'=>exact .fieldAddrB hq hT hr'
 | fieldAddrE hq hT hk=>exact .fieldAddrE hq hT hk
 | idxAE hx hT hE hi h0 hm=>exact .idxAE hx hT hE hi h0 hm
 | idxAB hx hT hE hf hi h0 hr'=>exact .idxAB hx hT hE hf hi h0 hr'
 | idxL hx hT hE hi h0 hr' hc=>exact .idxL hx hT hE hi h0 hr' hc
 | idxR hx hT hE hi h0 hn=>exact .idxR hx hT hE hi h0 hn
 | lenL hx has hT=>exact .lenL hx has hT
 | lenR hx has hT=>exact .lenR hx has hT
 | lenN hx has hT=>exact .lenN hx has hT
 | _=>first | (cases hp;done) | (simp [slimOp] at hp;done)
theorem put_comm (L:St) {d e:Nat} (h:d≠e) (v r:LV):(L.put (some d) v).put (some e) r=(L.put (some e) r).put (some d) v:=by
 have:∀ t,((L.put (some d) v).put (some e) r).slot t=((L.put (some e) r).put (some d) v).slot t:=fun t=>by
  rw [put_slot,put_slot,put_slot,put_slot]
  by_cases h1:t=e
  ·rw [if_pos h1,if_neg (by omega),if_pos h1]
  ·rw [if_neg h1,if_neg h1]
 exact congrArg (fun f=>St.mk f L.heap) (funext this)
theorem put_commO (L:St) {d:Nat} {e:Option Nat} (h:e≠some d) (v r:LV):(L.put (some d) v).put e r=(L.put e r).put (some d) v:=by
 cases e with
 | none=>rfl
 | some e=>exact put_comm L (fun q=>h (by rw [q])) v r
section
variable {P:Program} {ops:Array Oper}
theorem ev_put {L:St} {d:Nat} {v:LV} {o:Oper} (h:d∉o.looksAt ops):∀ x∈o.op.operands,(L.put (some d) v).ev x=L.ev x:=fun x hx=>by
 cases x with
 | tmp t =>
  have ht:t∈o.looksAt ops:=by
   unfold Oper.looksAt
   simp only [List.mem_append,List.mem_filterMap]
   exact .inl ⟨.tmp t,by simpa using hx,rfl⟩
  show (L.put (some d) v).slot t=L.slot t
  rw [put_slot,if_neg (fun q=>h (by rw [←q];exact ht))]
 | const v=>rfl
 | func f=>rfl
 | global f=>rfl
theorem guard_put {L:St} {d:Nat} {v:LV} {o:Oper} {res:Bool} (h:d∉o.looksAt ops) (hg:GuardIs ops (L.put (some d) v) o res):GuardIs ops L o res:=by
 unfold GuardIs at hg ⊢
 cases hh:o.guard with
 | none=>rw [hh] at hg;exact hg
 | some pr =>
  obtain⟨j,want⟩:=pr
  rw [hh] at hg
  obtain⟨t,q1',q'⟩:=hg
  have hne:t≠d:=fun q=>h (by rw [←q];unfold Oper.looksAt;rw [hh];simp [q1'])
  have e1:(L.put (some d) v).slot t=L.slot t:=by rw [put_slot,if_neg hne]
  refine⟨t,q1',?_⟩
  show (∃ b,L.slot t=_∧_)∨(L.slot t=_∧_)
  rw [←e1]
  exact q'
theorem mem_args {f:Operand} {xs:Array Operand} {ats:Array TypeId} {x:Operand} (h:x∈xs.toList):x∈(Op.call ⟨.value f,xs,ats⟩).operands:=by
 have:=Array.mem_toList_iff.1 h
 simp [Op.operands,Call.operands,this]
theorem step_comm {L L2:St} {d:Nat} {v:LV} {o:Oper} (hk:kindOp o.op=true) (hl:d∉o.looksAt ops) (hd:o.dst≠some d) (h:Step P false ops o (L.put (some d) v) L2) :
  ∃ L1,Step P false ops o L L1∧L2=L1.put (some d) v∧∀ t,o.dst≠some t→L1.slot t=L.slot t:=by
 have hev:=ev_put (L:=L) (v:=v) hl
 have hsl:∀ (M:St) (r:LV) t,M.slot t=L.slot t→o.dst≠some t→(M.put o.dst r).slot t=L.slot t:=fun M r t hM hne=>by
  cases hh:o.dst with
  | none=>exact hM
  | some e=>rw [put_slot,if_neg (fun q=>hne (by rw [hh,q]))];exact hM
 cases h with
 | skip hg hL=>exact⟨L.put o.dst (.tup []),.skip (guard_put hl hg) rfl,by rw [hL,put_commO L hd],fun t ht=>hsl L _ t rfl ht⟩
 | @val r fr H1 hg hle hfr hov hL =>
  obtain⟨dst,op,ty,pos,after,gd⟩:=o
  have hev':∀ x∈op.operands,L.ev x=(L.put (some d) v).ev x:=fun x hx=>(hev x hx).symm
  have hov2:OpV P H1 L.ev (dst.getD 0) op r fr:=by
   cases hov with
   | pure hp =>
    by_cases hpl:plainOp op=true
    ·exact .pure (hp.cong hpl hev')
    ·cases hp with
     | ext2 hf hname hb hn he hx hr h1 h2 =>
      refine .pure (.ext2 hf hname hb hn he ?_ hr h1 h2)
      rw [←hx]
      exact List.map_congr_left fun x hxm=>hev' x (mem_args hxm)
     | _=>first | (exfalso;exact hpl rfl) | (exfalso;revert hk hpl;simp [kindOp,plainOp])
   | alloc ha=>cases ha<;>(exfalso;revert hk;simp [kindOp,plainOp])
   | call hc =>
    cases hc with
    | func ha hkk hlen hpu =>
     refine .call (.func ?_ hkk hlen hpu)
     rw [show (_:Array Operand).toList.map L.ev=_ from List.map_congr_left fun x hxm=>hev' x (mem_args hxm)]
     exact ha
    | clo=>exfalso;revert hk;simp [kindOp,plainOp]
    | mk=>exfalso;revert hk;simp [kindOp,plainOp]
  refine⟨⟨(L.put dst r).slot,H1⟩,.val (guard_put hl hg) hle hfr hov2 rfl,?_,fun t ht=>hsl L r t rfl ht⟩
  rw [hL]
  have:=put_commO L hd v r
  exact congrArg (fun M=>St.mk (St.slot M) H1) this
 | st hg hot =>
  obtain⟨dst,op,ty,pos,after,gd⟩:=o
  cases hot with
  | store hp hb hs hm hi hy hput hT hne =>
   rename_i T p x b sz i o' blk y y'
   have e1:=hev p (by simp [Op.operands])
   have e2:=hev x (by simp [Op.operands])
   rw [e1] at hp
   rw [e2] at hput hT hne
   refine⟨_,.st (guard_put hl hg) (.store hp hb hs hm hi hy hput hT hne),?_,fun t ht=>?_⟩
   ·exact put_commO (L.setB b _) hd v .any
   ·exact hsl (L.setB b _) .any t rfl ht
  | _=>exfalso;revert hk;simp [kindOp,plainOp]
 | stM hdr hg hom =>
  obtain⟨dst,op,ty,pos,after,gd⟩:=o
  cases hom with
  | call hb hm hp ha hn hkk hm' hp' =>
   rename_i f xs ats args r b blk blk'
   have em:xs.toList.map (L.put (some d) v).ev=xs.toList.map L.ev:=List.map_congr_left fun x hxm=>hev x (mem_args hxm)
   rw [em] at ha hn
   refine⟨_,.stM hdr (guard_put hl hg) (.call hb hm hp ha hn hkk hm' hp'),?_,fun t ht=>?_⟩
   ·exact put_commO (L.setB b _) hd v _
   ·exact hsl (L.setB b _) _ t rfl ht
def hoistOk (ops:Array Oper) (i:Nat) (D:Array Bool):Bool :=
 D.size==ops.size && !D.getD i true && (dirs (ops.getD i default)).all (fun j=>D.getD j false) && (ops.getD i default).guard.isNone && slimOp (ops.getD i default).op &&
 (List.range ops.size).all fun j=>j==i || D.getD j true || (kindOp (ops.getD j default).op && ((ops.getD j default).dst != (ops.getD i default).dst) &&
  (match (ops.getD i default).dst with | some d=>!((ops.getD j default).looksAt ops).contains d || (dirs (ops.getD j default)).contains i | none=>false) &&
  (match (ops.getD j default).dst with | some e=>!((ops.getD i default).looksAt ops).contains e | none=>true))
theorem any_hoist {m:Nat} {K:St→Prop} {L:St} {D:Array Bool} {d:Nat} {v:LV} (i:Nat) {o:Oper} (ho:ops[i]?=some o) (hdst:o.dst=some d) (hok:hoistOk ops i D=true) (hv:OpP P L.heap L.ev o.op v)
  (h:anyL P ops m (D.setIfInBounds i true) (L.put (some d) v) K):anyL P ops (m+1) D L K:=by
 have getD_of:∀ i o,ops[i]?=some o→ops.getD i default=o:=fun i o h=>by rw [Array.getD_eq_getD_getElem?,h];rfl
 have hin:i<ops.size:=(Array.getElem?_eq_some_iff.1 ho).1
 let C:Array Bool→Prop:=fun D=>D.size=ops.size∧D.getD i false=false∧(∀ j∈dirs o,D.getD j false=true)∧∀ j oj,ops[j]?=some oj→j≠i→D.getD j false=false →
  kindOp oj.op=true∧oj.dst≠some d∧(d∈oj.looksAt ops→i∈dirs oj)∧∀ e,oj.dst=some e→e∉o.looksAt ops
 unfold hoistOk at hok
 rw [getD_of i o ho,hdst] at hok
 simp only [Bool.and_eq_true,List.all_eq_true,List.mem_range,Bool.or_eq_true,beq_iff_eq,Bool.not_eq_true',Option.isNone_iff_eq_none,bne_iff_ne,ne_eq] at hok
 obtain⟨⟨⟨⟨⟨hsz,hni⟩,hrd⟩,hgd⟩,hslim⟩,hall⟩:=hok
 have hC:C D:=by
  refine⟨hsz,by rw [getD_sz (by omega) false true];exact hni,hrd,fun j oj hj hne hDj=>?_⟩
  have hjl:j<ops.size:=(Array.getElem?_eq_some_iff.1 hj).1
  have:=hall j hjl
  rw [getD_of j oj hj] at this
  rcases this with(q | q) | q
  ·exact absurd q hne
  ·rw [getD_sz (by omega) true false,hDj] at q;cases q
  ·obtain⟨⟨⟨q1,q2⟩,q3⟩,q4⟩:=q
   refine⟨q1,q2,fun hm=>?_,fun e he hm=>?_⟩
   ·rcases q3 with q | q
    ·rw [List.contains_iff_mem.2 hm] at q;cases q
    ·exact List.contains_iff_mem.1 q
   ·rw [he] at q4
    simp only [Bool.not_eq_true'] at q4
    rw [List.contains_iff_mem.2 hm] at q4;cases q4
 have hstepi:∀ L:St,OpP P L.heap L.ev o.op v→Step P false ops o L (L.put (some d) v):=fun L hv=>by
  refine .val (fr:=[]) (H1:=L.heap) (r:=v) (by unfold GuardIs;rw [hgd]) (Heap.le_refl _) (fun _ _ hh=>by cases hh) (.pure hv) ?_
  rw [hdst];rfl
 clear hsz hni hrd hall
 have main:∀ (n:Nat) (D:Array Bool) (L:St),C D→OpP P L.heap L.ev o.op v→anyL P ops n (D.setIfInBounds i true) (L.put (some d) v) K→anyL P ops (n+1) D L K:=by
  intro n
  induction n with
  | zero =>
   intro D L ⟨c1,c2,c3,c4⟩ hv hh
   have hri:i∈Region.ready .any ops D:=(ready_spec c1).2 ⟨o,ho,by rw [getD_sz (by omega) true false];exact c2,c3⟩
   refine⟨fun hr=>(by rw [hr] at hri;cases hri),fun j hj=>?_⟩
   by_cases hji:j=i
   ·subst hji
    exact⟨o,_,ho,hstepi L hv,hh⟩
   ·exfalso
    obtain⟨oj,h1,h2,h3⟩:=(ready_spec c1).1 hj
    have:j∈Region.ready .any ops (D.setIfInBounds i true):=(ready_spec (by simpa using c1)).2 ⟨oj,h1,by
     rw [Array.getD_eq_getD_getElem?,Array.getElem?_setIfInBounds_ne (Ne.symm hji),←Array.getD_eq_getD_getElem?];exact h2,fun k hk=>by
     by_cases hki:i=k
     ·subst hki
      rw [Array.getD_eq_getD_getElem?,Array.getElem?_setIfInBounds_self_of_lt (by omega)];rfl
     ·rw [Array.getD_eq_getD_getElem?,Array.getElem?_setIfInBounds_ne hki,←Array.getD_eq_getD_getElem?];exact h3 k hk⟩
    rw [hh.1] at this;cases this
  | succ n ih =>
   intro D L ⟨c1,c2,c3,c4⟩ hv hh
   have hri:i∈Region.ready .any ops D:=(ready_spec c1).2 ⟨o,ho,by rw [getD_sz (by omega) true false];exact c2,c3⟩
   refine⟨fun hr=>(by rw [hr] at hri;cases hri),fun j hj=>?_⟩
   by_cases hji:j=i
   ·subst hji
    exact⟨o,_,ho,hstepi L hv,hh⟩
   ·obtain⟨oj,h1,h2,h3⟩:=(ready_spec c1).1 hj
    have hjl:j<ops.size:=(Array.getElem?_eq_some_iff.1 h1).1
    have hDj:D.getD j false=false:=by rw [getD_sz (by omega) false true];exact h2
    have hji2:j∈Region.ready .any ops (D.setIfInBounds i true):=(ready_spec (by simpa using c1)).2 ⟨oj,h1,by
     rw [Array.getD_eq_getD_getElem?,Array.getElem?_setIfInBounds_ne (Ne.symm hji),←Array.getD_eq_getD_getElem?];exact h2,fun k hk=>by
     by_cases hki:i=k
     ·subst hki
      rw [Array.getD_eq_getD_getElem?,Array.getElem?_setIfInBounds_self_of_lt (by omega)];rfl
     ·rw [Array.getD_eq_getD_getElem?,Array.getElem?_setIfInBounds_ne hki,←Array.getD_eq_getD_getElem?];exact h3 k hk⟩
    obtain⟨oj',L2,g1,g2,g3⟩:=hh.2 j hji2
    rw [h1] at g1;cases g1
    obtain⟨k1,k2,k3,k4⟩:=c4 j oj h1 hji hDj
    have hnl:d∉oj.looksAt ops:=fun hm=>by
     have:=h3 i (k3 hm)
     rw [c2] at this;cases this
    obtain⟨L1,s1,s2,s3⟩:=step_comm k1 hnl k2 g2
    refine⟨oj,L1,h1,s1,ih (D.setIfInBounds j true) L1 ⟨by simpa using c1,?_,fun k hk=>?_,fun k ok hk hne hDk=>?_⟩ ?_ ?_⟩
    ·rw [Array.getD_eq_getD_getElem?,Array.getElem?_setIfInBounds_ne hji,←Array.getD_eq_getD_getElem?];exact c2
    ·by_cases hjk:j=k
     ·subst hjk
      rw [Array.getD_eq_getD_getElem?,Array.getElem?_setIfInBounds_self_of_lt (by omega)];rfl
     ·rw [Array.getD_eq_getD_getElem?,Array.getElem?_setIfInBounds_ne hjk,←Array.getD_eq_getD_getElem?];exact c3 k hk
    ·by_cases hjk:j=k
     ·subst hjk
      rw [Array.getD_eq_getD_getElem?,Array.getElem?_setIfInBounds_self_of_lt (by omega)] at hDk
      cases hDk
     ·rw [Array.getD_eq_getD_getElem?,Array.getElem?_setIfInBounds_ne hjk,←Array.getD_eq_getD_getElem?] at hDk
      exact c4 k ok hk hne hDk
    ·refine(hv.cong (slim_plain hslim) fun x hx=>?_).slim hslim
     cases x with
     | tmp t =>
      have ht:t∈o.looksAt ops:=by
       unfold Oper.looksAt
       simp only [List.mem_append,List.mem_filterMap]
       exact .inl ⟨.tmp t,by simpa using hx,rfl⟩
      exact s3 t (fun q=>k4 t q ht)
     | const v=>rfl
     | func f=>rfl
     | global f=>rfl
    ·rw [←s2]
     have:(D.setIfInBounds j true).setIfInBounds i true=(D.setIfInBounds i true).setIfInBounds j true:=by
      refine Array.ext_getElem? fun k=>?_
      by_cases q1:i=k
      ·subst q1
       rw [Array.getElem?_setIfInBounds_self_of_lt (by simp;omega),Array.getElem?_setIfInBounds_ne hji,Array.getElem?_setIfInBounds_self_of_lt (by omega)]
      ·by_cases q2:j=k
       ·subst q2
        rw [Array.getElem?_setIfInBounds_ne q1,Array.getElem?_setIfInBounds_self_of_lt (by omega),Array.getElem?_setIfInBounds_self_of_lt (by simp;omega)]
       ·rw [Array.getElem?_setIfInBounds_ne q1,Array.getElem?_setIfInBounds_ne q2,Array.getElem?_setIfInBounds_ne q2,Array.getElem?_setIfInBounds_ne q1]
     rw [this];exact g3
 exact main m D L hC hv h
end
end Go.Lg
end
section
set_option linter.unusedVariables false
set_option linter.unusedSimpArgs false
set_option maxHeartbeats 8000000
set_option maxRecDepth 100000
attribute [local irreducible] Go.Lg.opsL Go.Lg.wpL Go.Lg.thenL Go.Lg.blockL
namespace Go.Proofs.YtgfbghoihhnahaaGreat
open Go.Lg
def ksF (l:List Int) (j:Nat):Rat:=((1+nxV l j 3:Int):Rat)/((1+nxV l (nxK l j) 2:Int):Rat)
def ksJ (l:List Int) (d:Nat) (k:List Rat) (j:Nat):Nat:=if k.length=d+1 then j else nxK l j
def ksB (l:List Int) (d:Nat) (k:List Rat) (t:Rat) (j:Nat):Prop:=k.length=d+1∨0<nxV l j 3∨t=k.getD (k.length-d) 0
instance (l:List Int) (d:Nat) (k:List Rat) (t:Rat) (j:Nat):Decidable (ksB l d k t j):=by unfold ksB;infer_instance
def kiV (l:List Int) (d:Nat):Nat→List Rat→Rat→Nat→List Rat × Rat × Nat
 | 0,k,t,j=>(k,t,j)
 | n+1,k,t,j=>if ksB l d k t j then kiV l d n (k++[t+ksF l (ksJ l d k j)]) (t+ksF l (ksJ l d k j)) (nxK l (nxK l (ksJ l d k j))) else kiV l d n (k++[t]) t (ksJ l d k j)
theorem ksF_in (l:List Int) (j:Nat):0<ksF l j∧rl (ksF l j)≤2:=by
 have h1:=nxV_lt (l:=l) (k:=j) (n:=3) (by decide)
 have h2:=nxV_lt (l:=l) (k:=nxK l j) (n:=2) (by decide)
 have r1:rl ((1+nxV l j 3:Int):Rat)≤1:=rl_int (by omega)
 have r2:rl ((1+nxV l (nxK l j) 2:Int):Rat)≤1:=rl_int (by omega)
 have r3:=rl_div ((1+nxV l j 3:Int):Rat) ((1+nxV l (nxK l j) 2:Int):Rat)
 refine⟨?_,by unfold ksF;omega⟩
 unfold ksF
 rw [Rat.div_def]
 exact Rat.mul_pos (Rat.intCast_pos.2 (by omega)) (Rat.inv_pos.2 (Rat.intCast_pos.2 (by omega)))
theorem ki_in (l:List Int) {d n:Nat} {T:Rat} (hd:1≤d) (hn:n≤2) (hT:rl T≤1) (j:Nat) :
  ∃ inn t j',kiV l d n (List.replicate (d+1) T) T j=(List.replicate (d+1) T++inn,t,j')∧inn.length=n∧inOK d T inn (t+1)∧rl t≤7∧T<t+1:=by
 have hr1:rl 1=1:=rfl
 match n,hn with
 | 0,_ =>
  refine⟨[],T,j,by rw [List.append_nil];rfl,rfl,⟨fun x hx=>(by cases hx),fun i hi=>(by simp at hi),fun x hx=>(by cases hx),by decide,fun x hx=>(by cases hx)⟩,by omega,by grind⟩
 | 1,_ =>
  have hF:=ksF_in l (ksJ l d (List.replicate (d+1) T) j)
  have hb:ksB l d (List.replicate (d+1) T) T j:=.inl (by simp)
  refine⟨[T+ksF l (ksJ l d (List.replicate (d+1) T) j)],T+ksF l (ksJ l d (List.replicate (d+1) T) j),nxK l (nxK l (ksJ l d (List.replicate (d+1) T) j)),by rw [kiV,if_pos hb,kiV],rfl,?_,?_,?_⟩
  ·generalize ksF l _=f at hF
   have:=rl_add T f
   refine⟨fun x hx=>?_,fun i hi=>(by simp at hi),fun x hx=>?_,by simp,fun x hx=>?_⟩
   ·rw [List.mem_singleton.1 hx];constructor<;>grind
   ·show tmN _ x 1≤d
    have:=tmN_le [T+f] x 1
    omega
   ·rw [List.mem_singleton.1 hx];omega
  ·have:=rl_add T (ksF l (ksJ l d (List.replicate (d+1) T) j));omega
  ·grind
 | 2,_ =>
  have hb:ksB l d (List.replicate (d+1) T) T j:=.inl (by simp)
  have hF:=ksF_in l (ksJ l d (List.replicate (d+1) T) j)
  rw [kiV,if_pos hb]
  generalize nxK l (nxK l (ksJ l d (List.replicate (d+1) T) j))=j1
  generalize ksF l (ksJ l d (List.replicate (d+1) T) j)=f at *
  have a1:=rl_add T f
  rw [kiV]
  by_cases hb2:ksB l d (List.replicate (d+1) T++[T+f]) (T+f) j1
  ·rw [if_pos hb2,kiV]
   have hG:=ksF_in l (ksJ l d (List.replicate (d+1) T++[T+f]) j1)
   generalize nxK l (nxK l (ksJ l d (List.replicate (d+1) T++[T+f]) j1))=j2
   generalize ksF l (ksJ l d (List.replicate (d+1) T++[T+f]) j1)=g at *
   have a2:=rl_add (T+f) g
   refine⟨[T+f,T+f+g],T+f+g,j2,by rw [List.append_assoc];rfl,rfl,⟨fun x hx=>?_,fun i hi=>?_,fun x hx=>?_,by simp,fun x hx=>?_⟩,by omega,by grind⟩
   ·simp only [List.mem_cons,List.not_mem_nil,or_false] at hx
    rcases hx with rfl | rfl<;>constructor<;>grind
   ·obtain rfl:i=0:=by simp at hi;omega
    show T+f≤T+f+g
    grind
   ·show tmN _ x 2≤d
    have hne:T+f≠T+f+g:=by grind
    have e:tmN [T+f,T+f+g] x 2=0+(if T+f=x then 1 else 0)+(if T+f+g=x then 1 else 0):=rfl
    rw [e]
    by_cases c:T+f=x
    ·rw [if_pos c,if_neg (fun e=>hne (c.trans e.symm))];omega
    ·rw [if_neg c];split<;>omega
   ·simp only [List.mem_cons,List.not_mem_nil,or_false] at hx
    rcases hx with rfl | rfl<;>omega
  ·rw [if_neg hb2,kiV]
   have hd2:2≤d:=by
    rcases Nat.lt_or_ge d 2 with c | c
    ·exfalso
     obtain rfl:d=1:=by omega
     refine hb2 (.inr (.inr ?_))
     rw [show (List.replicate (1+1) T++[T+f]).length-1=2 by simp,gD2 (by simp)];simp
    ·exact c
   refine⟨[T+f,T+f],T+f,ksJ l d (List.replicate (d+1) T++[T+f]) j1,by rw [List.append_assoc];rfl,rfl,⟨fun x hx=>?_,fun i hi=>?_,fun x hx=>?_,by simp,fun x hx=>?_⟩,by omega,by grind⟩
   ·simp only [List.mem_cons,List.not_mem_nil,or_false,or_self] at hx
    subst hx;constructor<;>grind
   ·obtain rfl:i=0:=by simp at hi;omega
    exact Rat.le_refl
   ·show tmN _ x 2≤d
    have:=tmN_le [T+f,T+f] x 2
    omega
   ·simp only [List.mem_cons,List.not_mem_nil,or_false,or_self] at hx
    subst hx;omega
def kiN (l:List Int) (k n:Nat):Nat:=(nxV l (nxK l k) ((n+1:Nat):Int)).toNat
def kiR (l:List Int) (d k n:Nat):List Rat × Rat × Nat:=kiV l d (kiN l k n) (List.replicate (d+1) (dtV l k)) (dtV l k) (nxK l (nxK l k))
def knX (l:List Int) (d k n:Nat):List Rat:=(kiR l d k n).1++List.replicate (d+1) ((kiR l d k n).2.1+1)
theorem kiN_in (l:List Int) (k n:Nat):(kiN l k n:Int)=nxV l (nxK l k) ((n+1:Nat):Int)∧kiN l k n≤n:=by
 have h:=nxV_lt (l:=l) (k:=nxK l k) (n:=((n+1:Nat):Int)) (by omega)
 unfold kiN
 omega
structure kiI (l:List Int) (d N c:Nat) (K:List Rat) (t:Rat) (j:Nat) (R:List Rat × Rat × Nat):Prop where
 hj:j≤500
 hl:K.length+c=d+1+N
 ht:rl t+3*c≤1+3*N
 hK:∀ x∈K,rl x≤7
 hR:kiV l d c K t j=R
theorem mem_snoc {K:List Rat} {t:Rat} {R:Nat} (h:∀ x∈K,rl x≤R) (ht:rl t≤R):∀ x∈K++[t],rl x≤R:=fun x hx=>by
 rcases List.mem_append.1 hx with h1 | h1
 ·exact h x h1
 ·rw [List.mem_singleton.1 h1];exact ht
theorem ksJ_le {l:List Int} {d j:Nat} {K:List Rat} (hl:l.length≤500) (hj:j≤500):ksJ l d K j≤500:=by
 unfold ksJ;split
 ·exact hj
 ·exact nxK_le hl hj
theorem kiI.yes {l:List Int} {d N c:Nat} {K:List Rat} {t:Rat} {j:Nat} {R:List Rat × Rat × Nat} (hl:l.length≤500) (hN:N≤2) (h:kiI l d N (c+1) K t j R) (hb:ksB l d K t j) :
  kiI l d N c (K++[t+ksF l (ksJ l d K j)]) (t+ksF l (ksJ l d K j)) (nxK l (nxK l (ksJ l d K j))) R:=by
 have hF:=(ksF_in l (ksJ l d K j)).2
 have h1:=rl_add t (ksF l (ksJ l d K j))
 have h2:=h.ht
 have h3:=h.hl
 have h4:=h.hR
 rw [kiV,if_pos hb] at h4
 exact⟨nxK_le hl (nxK_le hl (ksJ_le hl h.hj)),by simp;omega,by omega,mem_snoc h.hK (by omega),h4⟩
theorem kiI.no {l:List Int} {d N c:Nat} {K:List Rat} {t:Rat} {j:Nat} {R:List Rat × Rat × Nat} (hl:l.length≤500) (hN:N≤2) (h:kiI l d N (c+1) K t j R) (hb:¬ksB l d K t j) :
  kiI l d N c (K++[t]) t (ksJ l d K j) R:=by
 have h2:=h.ht
 have h3:=h.hl
 have h4:=h.hR
 rw [kiV,if_neg hb] at h4
 exact⟨ksJ_le hl h.hj,by simp;omega,by omega,mem_snoc h.hK (by omega),h4⟩
namespace H_c_DKnotsI
theorem zSm {p q:Prop} (k:q) (e:p=q:=by simp only [e1,e2,e3,e4,p1,p2,p3,q1,q2,q3,l1,t0,t1,r1,r2,r3,r4,Nat.zero_add,Nat.reduceMul,Nat.reduceAdd,b1,b2,b3,b4,b5,b6,i1,i2,i3,i4,i5,i6,Nat.reduceBEq,l1,etkA,etkB,etkC,ers,ers2,ekb,ekj,eix,dfq,List.length_map,List.append_nil,List.replicate_zero,Nat.add_zero,take_map_len,map_snoc,len_snoc,List.length_cons,List.length_nil,List.nil_append,List.length_append,List.length_replicate,List.set_cons_zero,List.set_cons_succ,Nat.reduceEqDiff,reduceIte,if_true,if_false,ptL_kill,poL_kill,kills_map poE,kills_map ratE,ratL_kill,spL_kill,LV.kill,kills,dice_kill];exact rfl):p:=e.mpr k
end H_c_DKnotsI
open H_c_DKnotsI in
theorem c_DKnotsI (l:List Int) (k:Nat) (hl:l.length≤500) (d:Nat) (hd1:1≤d) (hd:d≤6) (n:Nat) (hn:n≤2) (hk:k≤500):CallOKM Tryz.prog 101 ⟨2,[diceL l k],true⟩ [.eptr 0 2 0 0,nI64 d,nI64 n] (.list 3 ((knX l d k n).map ratL)) ⟨2,[diceL l (kiR l d k n).2.2],true⟩:=by
 have k1:=nxK_le (l:=l) hl hk
 have k2:=nxK_le (l:=l) hl k1
 have hb:=nxV_lt (l:=l) (k:=k) (n:=4) (by decide)
 obtain⟨hn1,hn2⟩:=kiN_in l k n
 obtain⟨ht1,ht2⟩:=dt_rl l k
 have h1r:rl 1=1:=rfl
 refine fnM Tryz.func101 ?_
 have etkA:True:=trivial
 have etkB:True:=trivial
 have etkC:True:=trivial
 have ers:True:=trivial
 have ers2:True:=trivial
 have ekb:True:=trivial
 have ekj:True:=trivial
 have eix:True:=trivial
 refine zg8 ?_
 refine st_callMp 0 rfl rfl rfl (dice_pure l _) (.cons .ptr (.cons (.imm (.pure rfl)) .nil)) .ptr (c_Next l k 4 (by omega) (by omega) (by omega) (by omega)) rfl (dice_pure l _) rfl ?_
 refine st_pure rfl (.bin rfl rfl (sub64 (by omega) (by omega))) ?_
 refine cp am1 (c_FInt (nxV l k 4-2) (by omega) (by omega)) ?_
 refine zg16 ?_
 refine wl_weak (Weak.own (t:=8) 24 3 rfl rfl) ?_
 refine lp1 (fun(i:Nat) L=>(((((((St.mk L.slot (hp [(0,⟨2,[diceL l (nxK l k)],true⟩),(7,⟨3,[ratL (dtV l k)],true⟩),(24,⟨3,(List.replicate i (dtV l k)).map ratL,true⟩)])).put (some 0) (.eptr 0 2 0 0)).put (some 1) (nI64 d)).put (some 7) (.eptr 7 3 0 0)).put (some 2) (nI64 n)).put (some 8) (.ref 24 3 0 i)).put (some 9) (nI64 i))) (fun i=>i≤d+1) (fun i=>d+1-i) 0 (Nat.zero_le _) ?_
 rintro i L1 hi
 refine zg8 ?_
 refine wl_if rfl (fun h18r h18=>?_) (fun h18r h18=>?_)
 ·have hi2:i≤d:=by omega
  have ers:=rep_snoc i (dtV l k)
  have etkA:((List.replicate i (dtV l k)).map ratL).take i=(List.replicate i (dtV l k)).map ratL:=List.take_of_length_le (by simp)
  refine zg8 ?_
  refine st_store rfl (.appX (d:=24) (news:=[ratL ((dtV l k))]) rfl rfl rfl rfl (by simp) (.inl rfl) (by decide) Tryz.underlying33 Tryz.underlying33 Z29a T29 rfl B29 (.inl ⟨23,0,_,rfl,by decide,rfl,rfl,by simp,rfl,by simp [pures,ratE.pure]⟩) (by simp;omega) (by simp;omega) (by decide)) ?_
  refine zg4 ?_
  refine wl_regW (Weak.kill _ 23) ?_
  refine zg1 ?_
  refine st_pure rfl (.bin rfl rfl (add1N (by omega))) ?_
  refine zg3 ?_
  exact nx1 (i+1) (by omega)
 ·obtain rfl:i=d+1:=by omega
  refine zg10 ?_
  refine st_pure rfl (.bin rfl rfl (add1N (by omega))) ?_
  refine st_callMp 0 rfl rfl rfl (dice_pure l _) (.cons .ptr (.cons (.imm (.pure rfl)) .nil)) .ptr (c_Next l (nxK l k) ((n+1:Nat):Int) (by omega) (by omega) (by omega) (by omega)) rfl (dice_pure l _) rfl ?_
  rw [←hn1]
  refine zg4 ?_
  refine lp4 (fun(c:Nat) (K:List Rat) (t:Rat) (j:Nat) L=>((((((St.mk L.slot (hp [(0,⟨2,[diceL l j],true⟩),(7,⟨3,[ratL t],true⟩),(24,⟨3,K.map ratL,true⟩)])).put (some 0) (.eptr 0 2 0 0)).put (some 1) (nI64 d)).put (some 7) (.eptr 7 3 0 0)).put (some 8) (.ref 24 3 0 K.length)).put (some 10) (nI64 c))) (fun c K t j=>kiI l d (kiN l k n) c K t j (kiR l d k n)) (fun c K t j=>c) (kiN l k n) (List.replicate (d+1) (dtV l k)) (dtV l k) (nxK l (nxK l k)) ⟨k2,by simp,by omega,fun x hx=>by rw [(List.mem_replicate.1 hx).2];omega,rfl⟩ ?_
  rintro c K t j L2 hI
  refine zg7 ?_
  refine wl_if rfl (fun h30r h30=>?_) (fun h30r h30=>?_)
  ·obtain⟨e,rfl⟩:∃ e,c=e+1:=⟨c-1,by omega⟩
   have hj5:=hI.hj
   have hjl:=nxK_le (l:=l) hl hj5
   have hKl:=hI.hl
   have hrt:=hI.ht
   have hrK:=hI.hK _ (getD_mem (p:=K) (i:=K.length-d) (by omega))
   have etkC:(K.map ratL).take K.length=K.map ratL:=List.take_of_length_le (by simp)
   have hb3:=nxV_lt (l:=l) (k:=j) (n:=3) (by decide)
   refine zg6 ?_
   refine wl_cut (fun L=>∃  (L1:St),(True)∧L=(((((((St.mk L1.slot (hp [(0,⟨2,[diceL l (ksJ l d K j)],true⟩),(7,⟨3,[ratL t],true⟩),(24,⟨3,K.map ratL,true⟩)])).put (some 0) (.eptr 0 2 0 0)).put (some 1) (nI64 d)).put (some 7) (.eptr 7 3 0 0)).put (some 8) (.ref 24 3 0 K.length)).put (some 10) (nI64 (e+1))).put (some 53) (bL (decide (ksB l d K t j))))) ?_ ?_
   ·refine wl_regA ?_
    refine any_segm 0 6 15 rfl (by decide +kernel) (by decide +kernel) ?_
    simp only [List.drop_zero,List.drop_succ_cons,List.take_succ_cons,List.take_zero]
    refine zg3 ?_
    refine st_pure rfl (.bin rfl rfl (add1N (by omega))) ?_
    refine zg2 ?_
    refine st_nil ?_
    refine any_1 6 _ (by decide +kernel) rfl ?_
    refine op_if 38 rfl (fun h38r h38=>?_) (fun h38r h38=>?_)
    ·have hL:K.length=d+1:=by omega
     have ekb:decide (ksB l d K t j)=true:=decide_eq_true (.inl hL)
     have ekj:(ksJ l d K j)=j:=if_pos hL
     refine zg1 ?_
     refine st_nil ?_
     refine any_1 7 _ (by decide +kernel) rfl ?_
     refine zg1 ?_
     refine st_nil ?_
     refine any_1 8 _ (by decide +kernel) rfl ?_
     refine zg1 ?_
     refine st_nil ?_
     refine any_1 9 _ (by decide +kernel) rfl ?_
     refine zg1 ?_
     refine st_nil ?_
     refine any_1 10 _ (by decide +kernel) rfl ?_
     refine zg1 ?_
     refine st_nil ?_
     refine any_segm 11 19 2 rfl (by decide +kernel) (by decide +kernel) ?_
     simp only [List.drop_zero,List.drop_succ_cons,List.take_succ_cons,List.take_zero]
     refine zg8 ?_
     refine st_nil ?_
     refine any_1 19 _ (by decide +kernel) rfl ?_
     try simp only [t1,dfq,Int.toNat_natCast,Nat.zero_add]
     refine zg1 ?_
     refine st_nil ?_
     refine any_1 20 _ (by decide +kernel) rfl ?_
     refine zg1 ?_
     refine st_nil ?_
     refine any_0 (by decide +kernel) ?_
     refine zg1 ?_
     exact⟨_,trivial,((put_id' (put_id' (put_id' (put_id' (put_id' (put_id' (mk_id' cl) cl) cl) cl) cl) cl) cl)).symm⟩
    ·have hL:¬K.length=d+1:=by omega
     have ekj:(ksJ l d K j)=nxK l j:=if_neg hL
     refine zg1 ?_
     refine st_nil ?_
     refine any_1 7 _ (by decide +kernel) rfl ?_
     refine st_callMp 0 (guardX (v:=false) rfl rfl (h38r) rfl) rfl rfl (dice_pure l _) (.cons .ptr (.cons (.imm (.pure rfl)) .nil)) .ptr (c_Next l j 3 (by omega) (by omega) (by omega) (by omega)) rfl (dice_pure l _) rfl ?_
     refine st_nil ?_
     refine any_1 8 _ (by decide +kernel) rfl ?_
     refine zg1 ?_
     refine st_nil ?_
     refine any_1 9 _ (by decide +kernel) rfl ?_
     refine zg1 ?_
     refine st_nil ?_
     refine any_1 10 _ (by decide +kernel) rfl ?_
     refine zg1 ?_
     refine st_nil ?_
     refine any_segm 11 19 2 rfl (by decide +kernel) (by decide +kernel) ?_
     simp only [List.drop_zero,List.drop_succ_cons,List.take_succ_cons,List.take_zero]
     refine op_if 43 rfl (fun h43r h43=>?_) (fun h43r h43=>?_)
     ·have ekb:decide (ksB l d K t j)=true:=decide_eq_true (.inr (.inl (by omega)))
      refine zg8 ?_
      refine st_nil ?_
      refine any_1 19 _ (by decide +kernel) rfl ?_
      try simp only [t1,dfq,Int.toNat_natCast,Nat.zero_add]
      refine zg1 ?_
      refine st_nil ?_
      refine any_1 20 _ (by decide +kernel) rfl ?_
      refine zg1 ?_
      refine st_nil ?_
      refine any_0 (by decide +kernel) ?_
      refine zg1 ?_
      exact⟨_,trivial,((put_id' (put_id' (put_id' (put_id' (put_id' (put_id' (mk_id' cl) cl) cl) cl) cl) cl) cl)).symm⟩
     ·refine zg5 ?_
      refine st_pure (guardX (v:=false) rfl rfl (h43r) rfl) (.bin rfl rfl (subNN (c:=K.length-d) (by omega) (by omega))) ?_
      refine zg2 ?_
      refine st_nil ?_
      refine any_1 19 _ (by decide +kernel) rfl ?_
      try simp only [t1,dfq,Int.toNat_natCast,Nat.zero_add]
      refine cp am2 (c_FSame t (K.getD (K.length-d) 0) (by omega)) ?_
      refine st_nil ?_
      refine any_1 20 _ (by decide +kernel) rfl ?_
      have ekb:decide (ksB l d K t j)=decide (t=K.getD (K.length-d) 0):=decide_eq_decide.2 ⟨fun h=>by rcases h with h | h | h<;>first | exact h | (exfalso;omega),fun h=>.inr (.inr h)⟩
      refine zg1 ?_
      refine st_nil ?_
      refine any_0 (by decide +kernel) ?_
      refine zg1 ?_
      exact⟨_,trivial,((put_id' (put_id' (put_id' (put_id' (put_id' (put_id' (mk_id' cl) cl) cl) cl) cl) cl) cl)).symm⟩
   ·rintro _ ⟨LR10,-,rfl⟩
    refine zg1 ?_
    refine wl_if rfl (fun h53r h53=>?_) (fun h53r h53=>?_)
    ·have hB:ksB l d K t j:=by simpa using h53
     have hJ:=ksJ_le (l:=l) (d:=d) (j:=j) (K:=K) hl hj5
     have hJ2:=nxK_le (l:=l) hl hJ
     have hF:=ksF_in l (ksJ l d K j)
     have hbA:=nxV_lt (l:=l) (k:=(ksJ l d K j)) (n:=3) (by decide)
     have hbB:=nxV_lt (l:=l) (k:=nxK l (ksJ l d K j)) (n:=2) (by decide)
     have haF:=rl_add t (ksF l (ksJ l d K j))
     refine wl_cut (fun L=>∃  (L1:St),(True)∧L=((((((St.mk L1.slot (hp [(0,⟨2,[diceL l (nxK l (nxK l (ksJ l d K j)))],true⟩),(7,⟨3,[ratL (t+ksF l (ksJ l d K j))],true⟩),(24,⟨3,K.map ratL,true⟩)])).put (some 0) (.eptr 0 2 0 0)).put (some 1) (nI64 d)).put (some 7) (.eptr 7 3 0 0)).put (some 8) (.ref 24 3 0 K.length)).put (some 10) (nI64 (e+1)))) ?_ ?_
     ·refine wl_regA ?_
      refine any_hoist 1 rfl rfl (by decide +kernel) (.move _) ?_
      refine any_hoist 4 rfl rfl (by decide +kernel) (.move _) ?_
      refine any_2 0 2 _ _ (by decide +kernel) rfl rfl ?_ ?_
      ·refine zg1 ?_
       refine st_nil ?_
       refine any_1 2 _ (by decide +kernel) rfl ?_
       refine st_callMp 0 rfl rfl rfl (dice_pure l _) (.cons .ptr (.cons (.imm (.pure rfl)) .nil)) .ptr (c_Next l (ksJ l d K j) 3 (by omega) (by omega) (by omega) (by omega)) rfl (dice_pure l _) rfl ?_
       refine st_nil ?_
       refine any_hoist 3 rfl rfl (by decide +kernel) (.bin rfl rfl (add64 (by omega) (by omega))) ?_
       refine any_1 5 _ (by decide +kernel) rfl ?_
       refine st_callMp 0 rfl rfl rfl (dice_pure l _) (.cons .ptr (.cons (.imm (.pure rfl)) .nil)) .ptr (c_Next l (nxK l (ksJ l d K j)) 2 (by omega) (by omega) (by omega) (by omega)) rfl (dice_pure l _) rfl ?_
       refine st_nil ?_
       refine any_1 6 _ (by decide +kernel) rfl ?_
       refine st_pure rfl (.bin rfl rfl (add64 (by omega) (by omega))) ?_
       refine st_nil ?_
       refine any_1 7 _ (by decide +kernel) rfl ?_
       refine cp am2 (c_FFrac (1+nxV l (ksJ l d K j) 3) (1+nxV l (nxK l (ksJ l d K j)) 2) (by omega) (by omega) (by omega) (by omega) (by omega)) ?_
       refine st_nil ?_
       refine any_1 8 _ (by decide +kernel) rfl ?_
       refine cp am2 (c_FRAdd t (ksF l (ksJ l d K j)) (by omega)) ?_
       refine st_nil ?_
       refine any_1 9 _ (by decide +kernel) rfl ?_
       refine zg1 ?_
       refine st_nil ?_
       refine any_0 (by decide +kernel) ?_
       refine zg1 ?_
       exact⟨_,trivial,((put_id' (put_id' (put_id' (put_id' (put_id' (mk_id' cl) cl) cl) cl) cl) cl)).symm⟩
      ·refine st_callMp 0 rfl rfl rfl (dice_pure l _) (.cons .ptr (.cons (.imm (.pure rfl)) .nil)) .ptr (c_Next l (ksJ l d K j) 3 (by omega) (by omega) (by omega) (by omega)) rfl (dice_pure l _) rfl ?_
       refine st_nil ?_
       refine any_hoist 3 rfl rfl (by decide +kernel) (.bin rfl rfl (add64 (by omega) (by omega))) ?_
       refine any_2 0 5 _ _ (by decide +kernel) rfl rfl ?_ ?_
       ·refine zg1 ?_
        refine st_nil ?_
        refine any_1 5 _ (by decide +kernel) rfl ?_
        refine st_callMp 0 rfl rfl rfl (dice_pure l _) (.cons .ptr (.cons (.imm (.pure rfl)) .nil)) .ptr (c_Next l (nxK l (ksJ l d K j)) 2 (by omega) (by omega) (by omega) (by omega)) rfl (dice_pure l _) rfl ?_
        refine st_nil ?_
        refine any_1 6 _ (by decide +kernel) rfl ?_
        refine st_pure rfl (.bin rfl rfl (add64 (by omega) (by omega))) ?_
        refine st_nil ?_
        refine any_1 7 _ (by decide +kernel) rfl ?_
        refine cp am2 (c_FFrac (1+nxV l (ksJ l d K j) 3) (1+nxV l (nxK l (ksJ l d K j)) 2) (by omega) (by omega) (by omega) (by omega) (by omega)) ?_
        refine st_nil ?_
        refine any_1 8 _ (by decide +kernel) rfl ?_
        refine cp am2 (c_FRAdd t (ksF l (ksJ l d K j)) (by omega)) ?_
        refine st_nil ?_
        refine any_1 9 _ (by decide +kernel) rfl ?_
        refine zg1 ?_
        refine st_nil ?_
        refine any_0 (by decide +kernel) ?_
        refine zg1 ?_
        exact⟨_,trivial,((put_id' (put_id' (put_id' (put_id' (put_id' (mk_id' cl) cl) cl) cl) cl) cl)).symm⟩
       ·refine st_callMp 0 rfl rfl rfl (dice_pure l _) (.cons .ptr (.cons (.imm (.pure rfl)) .nil)) .ptr (c_Next l (nxK l (ksJ l d K j)) 2 (by omega) (by omega) (by omega) (by omega)) rfl (dice_pure l _) rfl ?_
        refine st_nil ?_
        refine any_hoist 6 rfl rfl (by decide +kernel) (.bin rfl rfl (add64 (by omega) (by omega))) ?_
        refine any_2 0 7 _ _ (by decide +kernel) rfl rfl ?_ ?_
        ·refine zg1 ?_
         refine st_nil ?_
         refine any_1 7 _ (by decide +kernel) rfl ?_
         refine cp am2 (c_FFrac (1+nxV l (ksJ l d K j) 3) (1+nxV l (nxK l (ksJ l d K j)) 2) (by omega) (by omega) (by omega) (by omega) (by omega)) ?_
         refine st_nil ?_
         refine any_1 8 _ (by decide +kernel) rfl ?_
         refine cp am2 (c_FRAdd t (ksF l (ksJ l d K j)) (by omega)) ?_
         refine st_nil ?_
         refine any_1 9 _ (by decide +kernel) rfl ?_
         refine zg1 ?_
         refine st_nil ?_
         refine any_0 (by decide +kernel) ?_
         refine zg1 ?_
         exact⟨_,trivial,((put_id' (put_id' (put_id' (put_id' (put_id' (mk_id' cl) cl) cl) cl) cl) cl)).symm⟩
        ·refine cp am2 (c_FFrac (1+nxV l (ksJ l d K j) 3) (1+nxV l (nxK l (ksJ l d K j)) 2) (by omega) (by omega) (by omega) (by omega) (by omega)) ?_
         refine st_nil ?_
         refine any_1 0 _ (by decide +kernel) rfl ?_
         refine zg1 ?_
         refine st_nil ?_
         refine any_1 8 _ (by decide +kernel) rfl ?_
         refine cp am2 (c_FRAdd t (ksF l (ksJ l d K j)) (by omega)) ?_
         refine st_nil ?_
         refine any_1 9 _ (by decide +kernel) rfl ?_
         refine zg1 ?_
         refine st_nil ?_
         refine any_0 (by decide +kernel) ?_
         refine zg1 ?_
         exact⟨_,trivial,((put_id' (put_id' (put_id' (put_id' (put_id' (mk_id' cl) cl) cl) cl) cl) cl)).symm⟩
     ·rintro _ ⟨LR11,-,rfl⟩
      refine zg5 ?_
      first | refine st_store rfl (.appX (d:=24) (news:=[ratL ((t+ksF l (ksJ l d K j)))]) rfl rfl rfl rfl (by simp) (.inl rfl) (by decide) Tryz.underlying33 Tryz.underlying33 Z29a T29 rfl B29 (.inl ⟨65,0,_,rfl,by decide,rfl,rfl,by simp,rfl,by simp [pures,ratE.pure]⟩) (by simp;omega) (by simp;omega) (by decide)) ?_ | refine st_store rfl (.appX (d:=24) (news:=[ratL (t)]) rfl rfl rfl rfl (by simp) (.inl rfl) (by decide) Tryz.underlying33 Tryz.underlying33 Z29a T29 rfl B29 (.inl ⟨65,0,_,rfl,by decide,rfl,rfl,by simp,rfl,by simp [pures,ratE.pure]⟩) (by simp;omega) (by simp;omega) (by decide)) ?_
      refine zg4 ?_
      refine wl_regW (Weak.kill _ 65) ?_
      refine zg1 ?_
      refine st_pure rfl (.bin rfl rfl (sub1N (by omega) (by omega))) ?_
      refine zg3 ?_
      exact nx4 e (K++[(t+ksF l (ksJ l d K j))]) (t+ksF l (ksJ l d K j)) (nxK l (nxK l (ksJ l d K j))) (hI.yes hl (by omega) hB)
    ·have hB:¬ksB l d K t j:=by simpa using h53
     refine zg6 ?_
     first | refine st_store rfl (.appX (d:=24) (news:=[ratL ((t+ksF l (ksJ l d K j)))]) rfl rfl rfl rfl (by simp) (.inl rfl) (by decide) Tryz.underlying33 Tryz.underlying33 Z29a T29 rfl B29 (.inl ⟨65,0,_,rfl,by decide,rfl,rfl,by simp,rfl,by simp [pures,ratE.pure]⟩) (by simp;omega) (by simp;omega) (by decide)) ?_ | refine st_store rfl (.appX (d:=24) (news:=[ratL (t)]) rfl rfl rfl rfl (by simp) (.inl rfl) (by decide) Tryz.underlying33 Tryz.underlying33 Z29a T29 rfl B29 (.inl ⟨65,0,_,rfl,by decide,rfl,rfl,by simp,rfl,by simp [pures,ratE.pure]⟩) (by simp;omega) (by simp;omega) (by decide)) ?_
     refine zg4 ?_
     refine wl_regW (Weak.kill _ 65) ?_
     refine zg1 ?_
     refine st_pure rfl (.bin rfl rfl (sub1N (by omega) (by omega))) ?_
     refine zg3 ?_
     exact nx4 e (K++[t]) t (ksJ l d K j) (hI.no hl (by omega) hB)
  ·obtain rfl:c=0:=by omega
   have hV:=hI.hR
   rw [kiV] at hV
   have hj5:=hI.hj
   have hKl:=hI.hl
   have hrt:=hI.ht
   have hrt1:=rl_add t 1
   refine zg6 ?_
   refine wl_regD 3 (by decide +kernel) ?_
   refine zg1 ?_
   refine cp am1 (c_FInt 1 (by decide) (by decide)) ?_
   refine cp am2 (c_FRAdd t 1 (by omega)) ?_
   refine zg10 ?_
   refine lp1 (fun(i:Nat) L=>(((((St.mk L.slot (hp [(0,⟨2,[diceL l j],true⟩),(7,⟨3,[ratL (t+1)],true⟩),(24,⟨3,(K++List.replicate i (t+1)).map ratL,true⟩)])).put (some 1) (nI64 d)).put (some 7) (.eptr 7 3 0 0)).put (some 8) (.ref 24 3 0 (K.length+i))).put (some 11) (nI64 i))) (fun i=>i≤d+1) (fun i=>d+1-i) 0 (Nat.zero_le _) ?_
   rintro i L3 hi
   refine zg8 ?_
   refine wl_if rfl (fun h72r h72=>?_) (fun h72r h72=>?_)
   ·have hi2:i≤d:=by omega
    have ers2:K++List.replicate i (t+1)++[t+1]=K++List.replicate (i+1) (t+1):=by rw [List.append_assoc,rep_snoc]
    have etkB:((K++List.replicate i (t+1)).map ratL).take (K.length+i)=(K++List.replicate i (t+1)).map ratL:=List.take_of_length_le (by simp)
    refine zg8 ?_
    refine st_store rfl (.appX (d:=24) (news:=[ratL (t+1)]) rfl rfl rfl rfl (by simp) (.inl rfl) (by decide) Tryz.underlying33 Tryz.underlying33 Z29a T29 rfl B29 (.inl ⟨77,0,_,rfl,by decide,rfl,rfl,by simp,rfl,by simp [pures,ratE.pure]⟩) (by simp;omega) (by simp;omega) (by decide)) ?_
    refine zg4 ?_
    refine wl_regW (Weak.kill _ 77) ?_
    refine zg1 ?_
    refine st_pure rfl (.bin rfl rfl (add1N (by omega))) ?_
    refine zg3 ?_
    exact nx1 (i+1) (by omega)
   ·obtain rfl:i=d+1:=by omega
    refine zg12 ?_
    have hE:K++List.replicate (d+1) (t+1)=knX l d k n:=by unfold knX;rw [←hV]
    have hE2:j=(kiR l d k n).2.2:=by rw [←hV]
    rw [←hE,←hE2]
    exact retMf [24] rfl rfl (imm_refm ratE rfl rfl (by simp)) rfl rfl (dice_pure l _)
end Go.Proofs.YtgfbghoihhnahaaGreat
end
section
set_option linter.unusedVariables false
set_option linter.unusedSimpArgs false
set_option maxHeartbeats 8000000
set_option maxRecDepth 100000
attribute [local irreducible] Go.Lg.opsL Go.Lg.wpL Go.Lg.thenL Go.Lg.blockL
namespace Go.Proofs.YtgfbghoihhnahaaGreat
open Go.Lg
def xN (l:List Int) (k m:Nat):Nat:=kiN l (nxK l k) m
def xK (l:List Int) (k n m:Nat):List Rat:=knX l (cD l k n) (nxK l k) m
def xJ (l:List Int) (k n m:Nat):Nat:=(kiR l (cD l k n) (nxK l k) m).2.2
def xP (l:List Int) (k n m:Nat):List PoR:=dqV l (xJ l k n m) (cD l k n+1+xN l k m)
def xE (l:List Int) (k n m:Nat):Nat:=dqK l (xJ l k n m) (cD l k n+1+xN l k m)
theorem xP_len (l:List Int) (k n m:Nat):(xP l k n m).length=cD l k n+1+xN l k m:=dqV_len _ _ _
theorem xP_ok (l:List Int) (k n m:Nat):∀ q∈xP l k n m,okP 1 q:=dqV_ok _ _ _
theorem xK_in (l:List Int) (k:Nat) {n m:Nat} (hl:l.length≤500) (hk:k≤500) (hn:0<n) (hn6:n≤6) (hm:m≤2):kOK (xK l k n m) (cD l k n)∧(xK l k n m).length=2*(cD l k n+1)+xN l k m∧xJ l k n m≤500∧∀ x∈xK l k n m,rl x≤64:=by
 obtain⟨hd1,hd2,hd3⟩:=cD_in l k hn
 obtain⟨hN1,hN2⟩:=kiN_in l (nxK l k) m
 obtain⟨hT,hT1⟩:=dt_rl l (nxK l k)
 have hr1:rl 1=1:=rfl
 obtain⟨inn,t,j',e,hil,hin,hrt,hlt⟩:=ki_in l (d:=cD l k n) (n:=kiN l (nxK l k) m) (T:=dtV l (nxK l k)) hd1 (by omega) hT (nxK l (nxK l (nxK l k)))
 have ht1:=rl_add t 1
 have eK:xK l k n m=kx (cD l k n) (dtV l (nxK l k)) inn (t+1):=by
  unfold xK knX kiR kx
  rw [e,List.append_assoc]
 have hok:kOK (xK l k n m) (cD l k n):=by rw [eK];exact kx_ok hd1 (by omega) (by omega) (by omega) hlt hin
 refine⟨hok,?_,?_,hok.sz⟩
 ·rw [eK,kx_len,hil];rfl
 ·have k1:=nxK_le (l:=l) hl hk
  have k2:=nxK_le (l:=l) hl k1
  have k3:=nxK_le (l:=l) hl k2
  have gen:∀ (c:Nat) (K:List Rat) (t:Rat) (j:Nat),j≤500→(kiV l (cD l k n) c K t j).2.2≤500:=by
   intro c
   induction c with
   | zero=>intro K t j hj;exact hj
   | succ c ih =>
    intro K t j hj
    rw [kiV]
    split
    ·exact ih _ _ _ (nxK_le hl (nxK_le hl (ksJ_le hl hj)))
    ·exact ih _ _ _ (ksJ_le hl hj)
  exact gen _ _ _ _ k3
namespace H_c_DCurveI
theorem zSm {p q:Prop} (k:q) (e:p=q:=by simp only [e1,e2,e3,e4,p1,p2,p3,q1,q2,q3,l1,t0,t1,r1,r2,r3,r4,Nat.zero_add,Nat.reduceMul,Nat.reduceAdd,b1,b2,b3,b4,b5,b6,i1,i2,i3,i4,i5,i6,Nat.reduceBEq,l1,frz_nil,hkl,List.length_map,take_map_len,map_snoc,len_snoc,List.length_cons,List.length_nil,List.length_map,List.set_cons_zero,List.set_cons_succ,Nat.reduceEqDiff,reduceIte,if_true,if_false,ptL_kill,poL_kill,kills_map poE,kills_map ratE,ratL_kill,spL_kill,LV.kill,kills,dice_kill];exact rfl):p:=e.mpr k
end H_c_DCurveI
open H_c_DCurveI in
theorem c_DCurveI (l:List Int) (k:Nat) (hl:l.length≤500) (n:Nat) (hn:0<n) (hn6:n≤6) (m:Nat) (hm:m≤2) (hk:k≤500):CallOKM Tryz.prog 18 ⟨2,[diceL l k],true⟩ [.eptr 0 2 0 0,nI64 n,nI64 m,bL false] (.agg [nI64 (cD l k n),.list 3 ((xK l k n m).map ratL),.list 12 ((xP l k n m).map poL)]) ⟨2,[diceL l (xE l k n m)],true⟩:=by
 have k1:=nxK_le (l:=l) hl hk
 have k2:=nxK_le (l:=l) hl k1
 obtain⟨hd1,hd2,hd3⟩:=cD_in l k hn
 have hb:=nxV_lt (l:=l) (k:=k) (n:=(n:Int)) (by omega)
 have gD:1+nxV l k (n:Int)=(((cD l k n):Nat):Int):=hd3.symm
 have hA:binI .add .i64 1 (nxV l k (n:Int))=some (.int .i64 (((cD l k n):Nat):Int)):=by rw [←gD];exact add64 (by omega) (by omega)
 obtain⟨hok,hkl,k3,hksz⟩:=xK_in l k (n:=n) (m:=m) hl hk hn hn6 hm
 obtain⟨hN1,hN2⟩:=kiN_in l (nxK l k) m
 have hxN:xN l k m≤2:=by unfold xN;omega
 have hkp:=pure_lst ratE 3 (xK l k n m)
 refine fnM Tryz.func18 ?_
 refine zg9 ?_
 refine st_callMp 0 rfl rfl rfl (dice_pure l _) (.cons .ptr (.cons (.imm (.pure rfl)) .nil)) .ptr (c_Next l k n (by omega) (by omega) (by omega) (by omega)) rfl (dice_pure l _) rfl ?_
 refine st_pure rfl (.bin rfl rfl (hA)) ?_
 refine zg11 ?_
 refine st_callMp 0 rfl rfl rfl (dice_pure l _) (.cons .ptr (.cons (.imm (.pure rfl)) (.cons (.imm (.pure rfl)) .nil))) .ptr (c_DKnotsI l (nxK l k) (by omega) (cD l k n) (by omega) (by omega) m hm (by omega)) rfl (dice_pure l _) hkp ?_
 refine zg11 ?_
 refine wl_weak ((Weak.cell 9 rfl (fun Z μ w cs h=>rep_net 39 12 _ _ Z μ w cs h)).trans (Weak.newB _ 39 12 rfl)) ?_
 refine lp3 (fun(c j:Nat) (o:List PoR) L=>((((((St.mk L.slot (hp [(0,⟨2,[diceL l j],true⟩),(8,⟨3,[.agg [.v (.int .i64 0),.v (.slice none 0 0),.v (.slice none 0 0)]],true⟩),(9,⟨3,[.agg [nI64 (cD l k n),.list 3 ((xK l k n m).map ratL),.ref 39 12 0 o.length]],true⟩),(39,⟨12,o.map poL,true⟩)])).put (some 0) (.eptr 0 2 0 0)).put (some 3) (bL false)).put (some 8) (.eptr 8 3 0 0)).put (some 9) (.eptr 9 3 0 0)).put (some 10) (nI64 o.length))) (fun c j o=>j≤500∧o.length+c=(cD l k n)+1+xN l k m∧o++dqV l j c=xP l k n m∧dqK l j c=xE l k n m) (fun c j o=>c) ((cD l k n)+1+xN l k m) (xJ l k n m) ([]) ⟨k3,by simp,rfl,rfl⟩ ?_
 rintro c j o L1 ⟨hj,ho,hV,hK⟩
 refine zg9 ?_
 refine st_pure rfl (.bin rfl rfl (sub64 (by omega) (by omega))) ?_
 refine st_pure rfl (.bin rfl rfl (sub64 (by omega) (by omega))) ?_
 refine zg3 ?_
 refine wl_if rfl (fun h30r h30=>?_) (fun h30r h30=>?_)
 ·obtain⟨e,rfl⟩:∃ e,c=e+1:=⟨c-1,by omega⟩
  refine zg4 ?_
  refine wl_cut (fun L=>∃  (L1:St),(True)∧L=((((((St.mk L1.slot (hp [(0,⟨2,[diceL l (dpK l j)],true⟩),(8,⟨3,[.agg [.v (.int .i64 0),.v (.slice none 0 0),.v (.slice none 0 0)]],true⟩),(9,⟨3,[.agg [nI64 (cD l k n),.list 3 ((xK l k n m).map ratL),.ref 39 12 0 (o.length+1)]],true⟩),(38,⟨12,[dpV l j].map poL,true⟩),(39,⟨12,(o++[dpV l j]).map poL,true⟩)])).put (some 0) (.eptr 0 2 0 0)).put (some 3) (bL false)).put (some 8) (.eptr 8 3 0 0)).put (some 9) (.eptr 9 3 0 0)).put (some 10) (nI64 o.length))) ?_ ?_
  ·refine wl_regA ?_
   refine any_3 0 2 3 _ _ _ (by decide +kernel) rfl rfl rfl ?_ ?_ ?_
   ·refine zg1 ?_
    refine st_nil ?_
    refine any_3 1 2 3 _ _ _ (by decide +kernel) rfl rfl rfl ?_ ?_ ?_
    ·refine zg1 ?_
     refine st_nil ?_
     refine any_2 2 3 _ _ (by decide +kernel) rfl rfl ?_ ?_
     ·refine zg1 ?_
      refine st_nil ?_
      refine any_1 3 _ (by decide +kernel) rfl ?_
      refine zg1 ?_
      refine st_nil ?_
      refine any_1 4 _ (by decide +kernel) rfl ?_
      refine st_callMp 0 rfl rfl rfl (dice_pure l _) (.cons .ptr (.cons (.imm (.pure rfl)) .nil)) .ptr (c_Dpole l j (by omega) (by omega)) rfl (dice_pure l _) (poE.pure _) ?_
      refine st_nil ?_
      refine any_1 5 _ (by decide +kernel) rfl ?_
      refine zg1 ?_
      refine st_nil ?_
      refine any_1 6 _ (by decide +kernel) rfl ?_
      refine st_store rfl (.appX (d:=39) (news:=[poL (dpV l j)]) rfl rfl rfl rfl (by simp) (.inl rfl) (by decide) Tryz.underlying34 Tryz.underlying34 Z100 T100 cs B100 (.inl ⟨38,0,_,rfl,by decide,rfl,rfl,by simp,rfl,by simp [pures,poE.pure]⟩) (by simp;omega) (by simp;omega) (by decide)) ?_
      refine st_nil ?_
      refine any_1 7 _ (by decide +kernel) rfl ?_
      refine zg1 ?_
      refine st_nil ?_
      refine any_1 8 _ (by decide +kernel) rfl ?_
      refine zg1 ?_
      refine st_nil ?_
      refine any_0 (by decide +kernel) ?_
      refine zg1 ?_
      exact⟨_,trivial,((put_id' (put_id' (put_id' (put_id' (put_id' (mk_id' cl) cl) cl) cl) cl) cl)).symm⟩
     ·refine zg1 ?_
      refine st_nil ?_
      refine any_1 2 _ (by decide +kernel) rfl ?_
      refine zg1 ?_
      refine st_nil ?_
      refine any_1 4 _ (by decide +kernel) rfl ?_
      refine st_callMp 0 rfl rfl rfl (dice_pure l _) (.cons .ptr (.cons (.imm (.pure rfl)) .nil)) .ptr (c_Dpole l j (by omega) (by omega)) rfl (dice_pure l _) (poE.pure _) ?_
      refine st_nil ?_
      refine any_1 5 _ (by decide +kernel) rfl ?_
      refine zg1 ?_
      refine st_nil ?_
      refine any_1 6 _ (by decide +kernel) rfl ?_
      refine st_store rfl (.appX (d:=39) (news:=[poL (dpV l j)]) rfl rfl rfl rfl (by simp) (.inl rfl) (by decide) Tryz.underlying34 Tryz.underlying34 Z100 T100 cs B100 (.inl ⟨38,0,_,rfl,by decide,rfl,rfl,by simp,rfl,by simp [pures,poE.pure]⟩) (by simp;omega) (by simp;omega) (by decide)) ?_
      refine st_nil ?_
      refine any_1 7 _ (by decide +kernel) rfl ?_
      refine zg1 ?_
      refine st_nil ?_
      refine any_1 8 _ (by decide +kernel) rfl ?_
      refine zg1 ?_
      refine st_nil ?_
      refine any_0 (by decide +kernel) ?_
      refine zg1 ?_
      exact⟨_,trivial,((put_id' (put_id' (put_id' (put_id' (put_id' (mk_id' cl) cl) cl) cl) cl) cl)).symm⟩
    ·refine zg1 ?_
     refine st_nil ?_
     refine any_2 1 3 _ _ (by decide +kernel) rfl rfl ?_ ?_
     ·refine zg1 ?_
      refine st_nil ?_
      refine any_1 3 _ (by decide +kernel) rfl ?_
      refine zg1 ?_
      refine st_nil ?_
      refine any_1 4 _ (by decide +kernel) rfl ?_
      refine st_callMp 0 rfl rfl rfl (dice_pure l _) (.cons .ptr (.cons (.imm (.pure rfl)) .nil)) .ptr (c_Dpole l j (by omega) (by omega)) rfl (dice_pure l _) (poE.pure _) ?_
      refine st_nil ?_
      refine any_1 5 _ (by decide +kernel) rfl ?_
      refine zg1 ?_
      refine st_nil ?_
      refine any_1 6 _ (by decide +kernel) rfl ?_
      refine st_store rfl (.appX (d:=39) (news:=[poL (dpV l j)]) rfl rfl rfl rfl (by simp) (.inl rfl) (by decide) Tryz.underlying34 Tryz.underlying34 Z100 T100 cs B100 (.inl ⟨38,0,_,rfl,by decide,rfl,rfl,by simp,rfl,by simp [pures,poE.pure]⟩) (by simp;omega) (by simp;omega) (by decide)) ?_
      refine st_nil ?_
      refine any_1 7 _ (by decide +kernel) rfl ?_
      refine zg1 ?_
      refine st_nil ?_
      refine any_1 8 _ (by decide +kernel) rfl ?_
      refine zg1 ?_
      refine st_nil ?_
      refine any_0 (by decide +kernel) ?_
      refine zg1 ?_
      exact⟨_,trivial,((put_id' (put_id' (put_id' (put_id' (put_id' (mk_id' cl) cl) cl) cl) cl) cl)).symm⟩
     ·refine zg1 ?_
      refine st_nil ?_
      refine any_2 1 4 _ _ (by decide +kernel) rfl rfl ?_ ?_
      ·refine zg1 ?_
       refine st_nil ?_
       refine any_1 4 _ (by decide +kernel) rfl ?_
       refine st_callMp 0 rfl rfl rfl (dice_pure l _) (.cons .ptr (.cons (.imm (.pure rfl)) .nil)) .ptr (c_Dpole l j (by omega) (by omega)) rfl (dice_pure l _) (poE.pure _) ?_
       refine st_nil ?_
       refine any_1 5 _ (by decide +kernel) rfl ?_
       refine zg1 ?_
       refine st_nil ?_
       refine any_1 6 _ (by decide +kernel) rfl ?_
       refine st_store rfl (.appX (d:=39) (news:=[poL (dpV l j)]) rfl rfl rfl rfl (by simp) (.inl rfl) (by decide) Tryz.underlying34 Tryz.underlying34 Z100 T100 cs B100 (.inl ⟨38,0,_,rfl,by decide,rfl,rfl,by simp,rfl,by simp [pures,poE.pure]⟩) (by simp;omega) (by simp;omega) (by decide)) ?_
       refine st_nil ?_
       refine any_1 7 _ (by decide +kernel) rfl ?_
       refine zg1 ?_
       refine st_nil ?_
       refine any_1 8 _ (by decide +kernel) rfl ?_
       refine zg1 ?_
       refine st_nil ?_
       refine any_0 (by decide +kernel) ?_
       refine zg1 ?_
       exact⟨_,trivial,((put_id' (put_id' (put_id' (put_id' (put_id' (mk_id' cl) cl) cl) cl) cl) cl)).symm⟩
      ·refine st_callMp 0 rfl rfl rfl (dice_pure l _) (.cons .ptr (.cons (.imm (.pure rfl)) .nil)) .ptr (c_Dpole l j (by omega) (by omega)) rfl (dice_pure l _) (poE.pure _) ?_
       refine st_nil ?_
       refine any_2 1 5 _ _ (by decide +kernel) rfl rfl ?_ ?_
       ·refine zg1 ?_
        refine st_nil ?_
        refine any_1 5 _ (by decide +kernel) rfl ?_
        refine zg1 ?_
        refine st_nil ?_
        refine any_1 6 _ (by decide +kernel) rfl ?_
        refine st_store rfl (.appX (d:=39) (news:=[poL (dpV l j)]) rfl rfl rfl rfl (by simp) (.inl rfl) (by decide) Tryz.underlying34 Tryz.underlying34 Z100 T100 cs B100 (.inl ⟨38,0,_,rfl,by decide,rfl,rfl,by simp,rfl,by simp [pures,poE.pure]⟩) (by simp;omega) (by simp;omega) (by decide)) ?_
        refine st_nil ?_
        refine any_1 7 _ (by decide +kernel) rfl ?_
        refine zg1 ?_
        refine st_nil ?_
        refine any_1 8 _ (by decide +kernel) rfl ?_
        refine zg1 ?_
        refine st_nil ?_
        refine any_0 (by decide +kernel) ?_
        refine zg1 ?_
        exact⟨_,trivial,((put_id' (put_id' (put_id' (put_id' (put_id' (mk_id' cl) cl) cl) cl) cl) cl)).symm⟩
       ·refine zg1 ?_
        refine st_nil ?_
        refine any_1 1 _ (by decide +kernel) rfl ?_
        refine zg1 ?_
        refine st_nil ?_
        refine any_1 6 _ (by decide +kernel) rfl ?_
        refine st_store rfl (.appX (d:=39) (news:=[poL (dpV l j)]) rfl rfl rfl rfl (by simp) (.inl rfl) (by decide) Tryz.underlying34 Tryz.underlying34 Z100 T100 cs B100 (.inl ⟨38,0,_,rfl,by decide,rfl,rfl,by simp,rfl,by simp [pures,poE.pure]⟩) (by simp;omega) (by simp;omega) (by decide)) ?_
        refine st_nil ?_
        refine any_1 7 _ (by decide +kernel) rfl ?_
        refine zg1 ?_
        refine st_nil ?_
        refine any_1 8 _ (by decide +kernel) rfl ?_
        refine zg1 ?_
        refine st_nil ?_
        refine any_0 (by decide +kernel) ?_
        refine zg1 ?_
        exact⟨_,trivial,((put_id' (put_id' (put_id' (put_id' (put_id' (mk_id' cl) cl) cl) cl) cl) cl)).symm⟩
    ·refine zg1 ?_
     refine st_nil ?_
     refine any_2 1 2 _ _ (by decide +kernel) rfl rfl ?_ ?_
     ·refine zg1 ?_
      refine st_nil ?_
      refine any_1 2 _ (by decide +kernel) rfl ?_
      refine zg1 ?_
      refine st_nil ?_
      refine any_1 4 _ (by decide +kernel) rfl ?_
      refine st_callMp 0 rfl rfl rfl (dice_pure l _) (.cons .ptr (.cons (.imm (.pure rfl)) .nil)) .ptr (c_Dpole l j (by omega) (by omega)) rfl (dice_pure l _) (poE.pure _) ?_
      refine st_nil ?_
      refine any_1 5 _ (by decide +kernel) rfl ?_
      refine zg1 ?_
      refine st_nil ?_
      refine any_1 6 _ (by decide +kernel) rfl ?_
      refine st_store rfl (.appX (d:=39) (news:=[poL (dpV l j)]) rfl rfl rfl rfl (by simp) (.inl rfl) (by decide) Tryz.underlying34 Tryz.underlying34 Z100 T100 cs B100 (.inl ⟨38,0,_,rfl,by decide,rfl,rfl,by simp,rfl,by simp [pures,poE.pure]⟩) (by simp;omega) (by simp;omega) (by decide)) ?_
      refine st_nil ?_
      refine any_1 7 _ (by decide +kernel) rfl ?_
      refine zg1 ?_
      refine st_nil ?_
      refine any_1 8 _ (by decide +kernel) rfl ?_
      refine zg1 ?_
      refine st_nil ?_
      refine any_0 (by decide +kernel) ?_
      refine zg1 ?_
      exact⟨_,trivial,((put_id' (put_id' (put_id' (put_id' (put_id' (mk_id' cl) cl) cl) cl) cl) cl)).symm⟩
     ·refine zg1 ?_
      refine st_nil ?_
      refine any_2 1 4 _ _ (by decide +kernel) rfl rfl ?_ ?_
      ·refine zg1 ?_
       refine st_nil ?_
       refine any_1 4 _ (by decide +kernel) rfl ?_
       refine st_callMp 0 rfl rfl rfl (dice_pure l _) (.cons .ptr (.cons (.imm (.pure rfl)) .nil)) .ptr (c_Dpole l j (by omega) (by omega)) rfl (dice_pure l _) (poE.pure _) ?_
       refine st_nil ?_
       refine any_1 5 _ (by decide +kernel) rfl ?_
       refine zg1 ?_
       refine st_nil ?_
       refine any_1 6 _ (by decide +kernel) rfl ?_
       refine st_store rfl (.appX (d:=39) (news:=[poL (dpV l j)]) rfl rfl rfl rfl (by simp) (.inl rfl) (by decide) Tryz.underlying34 Tryz.underlying34 Z100 T100 cs B100 (.inl ⟨38,0,_,rfl,by decide,rfl,rfl,by simp,rfl,by simp [pures,poE.pure]⟩) (by simp;omega) (by simp;omega) (by decide)) ?_
       refine st_nil ?_
       refine any_1 7 _ (by decide +kernel) rfl ?_
       refine zg1 ?_
       refine st_nil ?_
       refine any_1 8 _ (by decide +kernel) rfl ?_
       refine zg1 ?_
       refine st_nil ?_
       refine any_0 (by decide +kernel) ?_
       refine zg1 ?_
       exact⟨_,trivial,((put_id' (put_id' (put_id' (put_id' (put_id' (mk_id' cl) cl) cl) cl) cl) cl)).symm⟩
      ·refine st_callMp 0 rfl rfl rfl (dice_pure l _) (.cons .ptr (.cons (.imm (.pure rfl)) .nil)) .ptr (c_Dpole l j (by omega) (by omega)) rfl (dice_pure l _) (poE.pure _) ?_
       refine st_nil ?_
       refine any_2 1 5 _ _ (by decide +kernel) rfl rfl ?_ ?_
       ·refine zg1 ?_
        refine st_nil ?_
        refine any_1 5 _ (by decide +kernel) rfl ?_
        refine zg1 ?_
        refine st_nil ?_
        refine any_1 6 _ (by decide +kernel) rfl ?_
        refine st_store rfl (.appX (d:=39) (news:=[poL (dpV l j)]) rfl rfl rfl rfl (by simp) (.inl rfl) (by decide) Tryz.underlying34 Tryz.underlying34 Z100 T100 cs B100 (.inl ⟨38,0,_,rfl,by decide,rfl,rfl,by simp,rfl,by simp [pures,poE.pure]⟩) (by simp;omega) (by simp;omega) (by decide)) ?_
        refine st_nil ?_
        refine any_1 7 _ (by decide +kernel) rfl ?_
        refine zg1 ?_
        refine st_nil ?_
        refine any_1 8 _ (by decide +kernel) rfl ?_
        refine zg1 ?_
        refine st_nil ?_
        refine any_0 (by decide +kernel) ?_
        refine zg1 ?_
        exact⟨_,trivial,((put_id' (put_id' (put_id' (put_id' (put_id' (mk_id' cl) cl) cl) cl) cl) cl)).symm⟩
       ·refine zg1 ?_
        refine st_nil ?_
        refine any_1 1 _ (by decide +kernel) rfl ?_
        refine zg1 ?_
        refine st_nil ?_
        refine any_1 6 _ (by decide +kernel) rfl ?_
        refine st_store rfl (.appX (d:=39) (news:=[poL (dpV l j)]) rfl rfl rfl rfl (by simp) (.inl rfl) (by decide) Tryz.underlying34 Tryz.underlying34 Z100 T100 cs B100 (.inl ⟨38,0,_,rfl,by decide,rfl,rfl,by simp,rfl,by simp [pures,poE.pure]⟩) (by simp;omega) (by simp;omega) (by decide)) ?_
        refine st_nil ?_
        refine any_1 7 _ (by decide +kernel) rfl ?_
        refine zg1 ?_
        refine st_nil ?_
        refine any_1 8 _ (by decide +kernel) rfl ?_
        refine zg1 ?_
        refine st_nil ?_
        refine any_0 (by decide +kernel) ?_
        refine zg1 ?_
        exact⟨_,trivial,((put_id' (put_id' (put_id' (put_id' (put_id' (mk_id' cl) cl) cl) cl) cl) cl)).symm⟩
   ·refine zg1 ?_
    refine st_nil ?_
    refine any_2 0 3 _ _ (by decide +kernel) rfl rfl ?_ ?_
    ·refine zg1 ?_
     refine st_nil ?_
     refine any_2 1 3 _ _ (by decide +kernel) rfl rfl ?_ ?_
     ·refine zg1 ?_
      refine st_nil ?_
      refine any_1 3 _ (by decide +kernel) rfl ?_
      refine zg1 ?_
      refine st_nil ?_
      refine any_1 4 _ (by decide +kernel) rfl ?_
      refine st_callMp 0 rfl rfl rfl (dice_pure l _) (.cons .ptr (.cons (.imm (.pure rfl)) .nil)) .ptr (c_Dpole l j (by omega) (by omega)) rfl (dice_pure l _) (poE.pure _) ?_
      refine st_nil ?_
      refine any_1 5 _ (by decide +kernel) rfl ?_
      refine zg1 ?_
      refine st_nil ?_
      refine any_1 6 _ (by decide +kernel) rfl ?_
      refine st_store rfl (.appX (d:=39) (news:=[poL (dpV l j)]) rfl rfl rfl rfl (by simp) (.inl rfl) (by decide) Tryz.underlying34 Tryz.underlying34 Z100 T100 cs B100 (.inl ⟨38,0,_,rfl,by decide,rfl,rfl,by simp,rfl,by simp [pures,poE.pure]⟩) (by simp;omega) (by simp;omega) (by decide)) ?_
      refine st_nil ?_
      refine any_1 7 _ (by decide +kernel) rfl ?_
      refine zg1 ?_
      refine st_nil ?_
      refine any_1 8 _ (by decide +kernel) rfl ?_
      refine zg1 ?_
      refine st_nil ?_
      refine any_0 (by decide +kernel) ?_
      refine zg1 ?_
      exact⟨_,trivial,((put_id' (put_id' (put_id' (put_id' (put_id' (mk_id' cl) cl) cl) cl) cl) cl)).symm⟩
     ·refine zg1 ?_
      refine st_nil ?_
      refine any_2 1 4 _ _ (by decide +kernel) rfl rfl ?_ ?_
      ·refine zg1 ?_
       refine st_nil ?_
       refine any_1 4 _ (by decide +kernel) rfl ?_
       refine st_callMp 0 rfl rfl rfl (dice_pure l _) (.cons .ptr (.cons (.imm (.pure rfl)) .nil)) .ptr (c_Dpole l j (by omega) (by omega)) rfl (dice_pure l _) (poE.pure _) ?_
       refine st_nil ?_
       refine any_1 5 _ (by decide +kernel) rfl ?_
       refine zg1 ?_
       refine st_nil ?_
       refine any_1 6 _ (by decide +kernel) rfl ?_
       refine st_store rfl (.appX (d:=39) (news:=[poL (dpV l j)]) rfl rfl rfl rfl (by simp) (.inl rfl) (by decide) Tryz.underlying34 Tryz.underlying34 Z100 T100 cs B100 (.inl ⟨38,0,_,rfl,by decide,rfl,rfl,by simp,rfl,by simp [pures,poE.pure]⟩) (by simp;omega) (by simp;omega) (by decide)) ?_
       refine st_nil ?_
       refine any_1 7 _ (by decide +kernel) rfl ?_
       refine zg1 ?_
       refine st_nil ?_
       refine any_1 8 _ (by decide +kernel) rfl ?_
       refine zg1 ?_
       refine st_nil ?_
       refine any_0 (by decide +kernel) ?_
       refine zg1 ?_
       exact⟨_,trivial,((put_id' (put_id' (put_id' (put_id' (put_id' (mk_id' cl) cl) cl) cl) cl) cl)).symm⟩
      ·refine st_callMp 0 rfl rfl rfl (dice_pure l _) (.cons .ptr (.cons (.imm (.pure rfl)) .nil)) .ptr (c_Dpole l j (by omega) (by omega)) rfl (dice_pure l _) (poE.pure _) ?_
       refine st_nil ?_
       refine any_2 1 5 _ _ (by decide +kernel) rfl rfl ?_ ?_
       ·refine zg1 ?_
        refine st_nil ?_
        refine any_1 5 _ (by decide +kernel) rfl ?_
        refine zg1 ?_
        refine st_nil ?_
        refine any_1 6 _ (by decide +kernel) rfl ?_
        refine st_store rfl (.appX (d:=39) (news:=[poL (dpV l j)]) rfl rfl rfl rfl (by simp) (.inl rfl) (by decide) Tryz.underlying34 Tryz.underlying34 Z100 T100 cs B100 (.inl ⟨38,0,_,rfl,by decide,rfl,rfl,by simp,rfl,by simp [pures,poE.pure]⟩) (by simp;omega) (by simp;omega) (by decide)) ?_
        refine st_nil ?_
        refine any_1 7 _ (by decide +kernel) rfl ?_
        refine zg1 ?_
        refine st_nil ?_
        refine any_1 8 _ (by decide +kernel) rfl ?_
        refine zg1 ?_
        refine st_nil ?_
        refine any_0 (by decide +kernel) ?_
        refine zg1 ?_
        exact⟨_,trivial,((put_id' (put_id' (put_id' (put_id' (put_id' (mk_id' cl) cl) cl) cl) cl) cl)).symm⟩
       ·refine zg1 ?_
        refine st_nil ?_
        refine any_1 1 _ (by decide +kernel) rfl ?_
        refine zg1 ?_
        refine st_nil ?_
        refine any_1 6 _ (by decide +kernel) rfl ?_
        refine st_store rfl (.appX (d:=39) (news:=[poL (dpV l j)]) rfl rfl rfl rfl (by simp) (.inl rfl) (by decide) Tryz.underlying34 Tryz.underlying34 Z100 T100 cs B100 (.inl ⟨38,0,_,rfl,by decide,rfl,rfl,by simp,rfl,by simp [pures,poE.pure]⟩) (by simp;omega) (by simp;omega) (by decide)) ?_
        refine st_nil ?_
        refine any_1 7 _ (by decide +kernel) rfl ?_
        refine zg1 ?_
        refine st_nil ?_
        refine any_1 8 _ (by decide +kernel) rfl ?_
        refine zg1 ?_
        refine st_nil ?_
        refine any_0 (by decide +kernel) ?_
        refine zg1 ?_
        exact⟨_,trivial,((put_id' (put_id' (put_id' (put_id' (put_id' (mk_id' cl) cl) cl) cl) cl) cl)).symm⟩
    ·refine zg1 ?_
     refine st_nil ?_
     refine any_2 0 4 _ _ (by decide +kernel) rfl rfl ?_ ?_
     ·refine zg1 ?_
      refine st_nil ?_
      refine any_2 1 4 _ _ (by decide +kernel) rfl rfl ?_ ?_
      ·refine zg1 ?_
       refine st_nil ?_
       refine any_1 4 _ (by decide +kernel) rfl ?_
       refine st_callMp 0 rfl rfl rfl (dice_pure l _) (.cons .ptr (.cons (.imm (.pure rfl)) .nil)) .ptr (c_Dpole l j (by omega) (by omega)) rfl (dice_pure l _) (poE.pure _) ?_
       refine st_nil ?_
       refine any_1 5 _ (by decide +kernel) rfl ?_
       refine zg1 ?_
       refine st_nil ?_
       refine any_1 6 _ (by decide +kernel) rfl ?_
       refine st_store rfl (.appX (d:=39) (news:=[poL (dpV l j)]) rfl rfl rfl rfl (by simp) (.inl rfl) (by decide) Tryz.underlying34 Tryz.underlying34 Z100 T100 cs B100 (.inl ⟨38,0,_,rfl,by decide,rfl,rfl,by simp,rfl,by simp [pures,poE.pure]⟩) (by simp;omega) (by simp;omega) (by decide)) ?_
       refine st_nil ?_
       refine any_1 7 _ (by decide +kernel) rfl ?_
       refine zg1 ?_
       refine st_nil ?_
       refine any_1 8 _ (by decide +kernel) rfl ?_
       refine zg1 ?_
       refine st_nil ?_
       refine any_0 (by decide +kernel) ?_
       refine zg1 ?_
       exact⟨_,trivial,((put_id' (put_id' (put_id' (put_id' (put_id' (mk_id' cl) cl) cl) cl) cl) cl)).symm⟩
      ·refine st_callMp 0 rfl rfl rfl (dice_pure l _) (.cons .ptr (.cons (.imm (.pure rfl)) .nil)) .ptr (c_Dpole l j (by omega) (by omega)) rfl (dice_pure l _) (poE.pure _) ?_
       refine st_nil ?_
       refine any_2 1 5 _ _ (by decide +kernel) rfl rfl ?_ ?_
       ·refine zg1 ?_
        refine st_nil ?_
        refine any_1 5 _ (by decide +kernel) rfl ?_
        refine zg1 ?_
        refine st_nil ?_
        refine any_1 6 _ (by decide +kernel) rfl ?_
        refine st_store rfl (.appX (d:=39) (news:=[poL (dpV l j)]) rfl rfl rfl rfl (by simp) (.inl rfl) (by decide) Tryz.underlying34 Tryz.underlying34 Z100 T100 cs B100 (.inl ⟨38,0,_,rfl,by decide,rfl,rfl,by simp,rfl,by simp [pures,poE.pure]⟩) (by simp;omega) (by simp;omega) (by decide)) ?_
        refine st_nil ?_
        refine any_1 7 _ (by decide +kernel) rfl ?_
        refine zg1 ?_
        refine st_nil ?_
        refine any_1 8 _ (by decide +kernel) rfl ?_
        refine zg1 ?_
        refine st_nil ?_
        refine any_0 (by decide +kernel) ?_
        refine zg1 ?_
        exact⟨_,trivial,((put_id' (put_id' (put_id' (put_id' (put_id' (mk_id' cl) cl) cl) cl) cl) cl)).symm⟩
       ·refine zg1 ?_
        refine st_nil ?_
        refine any_1 1 _ (by decide +kernel) rfl ?_
        refine zg1 ?_
        refine st_nil ?_
        refine any_1 6 _ (by decide +kernel) rfl ?_
        refine st_store rfl (.appX (d:=39) (news:=[poL (dpV l j)]) rfl rfl rfl rfl (by simp) (.inl rfl) (by decide) Tryz.underlying34 Tryz.underlying34 Z100 T100 cs B100 (.inl ⟨38,0,_,rfl,by decide,rfl,rfl,by simp,rfl,by simp [pures,poE.pure]⟩) (by simp;omega) (by simp;omega) (by decide)) ?_
        refine st_nil ?_
        refine any_1 7 _ (by decide +kernel) rfl ?_
        refine zg1 ?_
        refine st_nil ?_
        refine any_1 8 _ (by decide +kernel) rfl ?_
        refine zg1 ?_
        refine st_nil ?_
        refine any_0 (by decide +kernel) ?_
        refine zg1 ?_
        exact⟨_,trivial,((put_id' (put_id' (put_id' (put_id' (put_id' (mk_id' cl) cl) cl) cl) cl) cl)).symm⟩
     ·refine st_callMp 0 rfl rfl rfl (dice_pure l _) (.cons .ptr (.cons (.imm (.pure rfl)) .nil)) .ptr (c_Dpole l j (by omega) (by omega)) rfl (dice_pure l _) (poE.pure _) ?_
      refine st_nil ?_
      refine any_2 0 5 _ _ (by decide +kernel) rfl rfl ?_ ?_
      ·refine zg1 ?_
       refine st_nil ?_
       refine any_2 1 5 _ _ (by decide +kernel) rfl rfl ?_ ?_
       ·refine zg1 ?_
        refine st_nil ?_
        refine any_1 5 _ (by decide +kernel) rfl ?_
        refine zg1 ?_
        refine st_nil ?_
        refine any_1 6 _ (by decide +kernel) rfl ?_
        refine st_store rfl (.appX (d:=39) (news:=[poL (dpV l j)]) rfl rfl rfl rfl (by simp) (.inl rfl) (by decide) Tryz.underlying34 Tryz.underlying34 Z100 T100 cs B100 (.inl ⟨38,0,_,rfl,by decide,rfl,rfl,by simp,rfl,by simp [pures,poE.pure]⟩) (by simp;omega) (by simp;omega) (by decide)) ?_
        refine st_nil ?_
        refine any_1 7 _ (by decide +kernel) rfl ?_
        refine zg1 ?_
        refine st_nil ?_
        refine any_1 8 _ (by decide +kernel) rfl ?_
        refine zg1 ?_
        refine st_nil ?_
        refine any_0 (by decide +kernel) ?_
        refine zg1 ?_
        exact⟨_,trivial,((put_id' (put_id' (put_id' (put_id' (put_id' (mk_id' cl) cl) cl) cl) cl) cl)).symm⟩
       ·refine zg1 ?_
        refine st_nil ?_
        refine any_1 1 _ (by decide +kernel) rfl ?_
        refine zg1 ?_
        refine st_nil ?_
        refine any_1 6 _ (by decide +kernel) rfl ?_
        refine st_store rfl (.appX (d:=39) (news:=[poL (dpV l j)]) rfl rfl rfl rfl (by simp) (.inl rfl) (by decide) Tryz.underlying34 Tryz.underlying34 Z100 T100 cs B100 (.inl ⟨38,0,_,rfl,by decide,rfl,rfl,by simp,rfl,by simp [pures,poE.pure]⟩) (by simp;omega) (by simp;omega) (by decide)) ?_
        refine st_nil ?_
        refine any_1 7 _ (by decide +kernel) rfl ?_
        refine zg1 ?_
        refine st_nil ?_
        refine any_1 8 _ (by decide +kernel) rfl ?_
        refine zg1 ?_
        refine st_nil ?_
        refine any_0 (by decide +kernel) ?_
        refine zg1 ?_
        exact⟨_,trivial,((put_id' (put_id' (put_id' (put_id' (put_id' (mk_id' cl) cl) cl) cl) cl) cl)).symm⟩
      ·refine zg1 ?_
       refine st_nil ?_
       refine any_1 0 _ (by decide +kernel) rfl ?_
       refine zg1 ?_
       refine st_nil ?_
       refine any_1 1 _ (by decide +kernel) rfl ?_
       refine zg1 ?_
       refine st_nil ?_
       refine any_1 6 _ (by decide +kernel) rfl ?_
       refine st_store rfl (.appX (d:=39) (news:=[poL (dpV l j)]) rfl rfl rfl rfl (by simp) (.inl rfl) (by decide) Tryz.underlying34 Tryz.underlying34 Z100 T100 cs B100 (.inl ⟨38,0,_,rfl,by decide,rfl,rfl,by simp,rfl,by simp [pures,poE.pure]⟩) (by simp;omega) (by simp;omega) (by decide)) ?_
       refine st_nil ?_
       refine any_1 7 _ (by decide +kernel) rfl ?_
       refine zg1 ?_
       refine st_nil ?_
       refine any_1 8 _ (by decide +kernel) rfl ?_
       refine zg1 ?_
       refine st_nil ?_
       refine any_0 (by decide +kernel) ?_
       refine zg1 ?_
       exact⟨_,trivial,((put_id' (put_id' (put_id' (put_id' (put_id' (mk_id' cl) cl) cl) cl) cl) cl)).symm⟩
   ·refine zg1 ?_
    refine st_nil ?_
    refine any_2 0 2 _ _ (by decide +kernel) rfl rfl ?_ ?_
    ·refine zg1 ?_
     refine st_nil ?_
     refine any_2 1 2 _ _ (by decide +kernel) rfl rfl ?_ ?_
     ·refine zg1 ?_
      refine st_nil ?_
      refine any_1 2 _ (by decide +kernel) rfl ?_
      refine zg1 ?_
      refine st_nil ?_
      refine any_1 4 _ (by decide +kernel) rfl ?_
      refine st_callMp 0 rfl rfl rfl (dice_pure l _) (.cons .ptr (.cons (.imm (.pure rfl)) .nil)) .ptr (c_Dpole l j (by omega) (by omega)) rfl (dice_pure l _) (poE.pure _) ?_
      refine st_nil ?_
      refine any_1 5 _ (by decide +kernel) rfl ?_
      refine zg1 ?_
      refine st_nil ?_
      refine any_1 6 _ (by decide +kernel) rfl ?_
      refine st_store rfl (.appX (d:=39) (news:=[poL (dpV l j)]) rfl rfl rfl rfl (by simp) (.inl rfl) (by decide) Tryz.underlying34 Tryz.underlying34 Z100 T100 cs B100 (.inl ⟨38,0,_,rfl,by decide,rfl,rfl,by simp,rfl,by simp [pures,poE.pure]⟩) (by simp;omega) (by simp;omega) (by decide)) ?_
      refine st_nil ?_
      refine any_1 7 _ (by decide +kernel) rfl ?_
      refine zg1 ?_
      refine st_nil ?_
      refine any_1 8 _ (by decide +kernel) rfl ?_
      refine zg1 ?_
      refine st_nil ?_
      refine any_0 (by decide +kernel) ?_
      refine zg1 ?_
      exact⟨_,trivial,((put_id' (put_id' (put_id' (put_id' (put_id' (mk_id' cl) cl) cl) cl) cl) cl)).symm⟩
     ·refine zg1 ?_
      refine st_nil ?_
      refine any_2 1 4 _ _ (by decide +kernel) rfl rfl ?_ ?_
      ·refine zg1 ?_
       refine st_nil ?_
       refine any_1 4 _ (by decide +kernel) rfl ?_
       refine st_callMp 0 rfl rfl rfl (dice_pure l _) (.cons .ptr (.cons (.imm (.pure rfl)) .nil)) .ptr (c_Dpole l j (by omega) (by omega)) rfl (dice_pure l _) (poE.pure _) ?_
       refine st_nil ?_
       refine any_1 5 _ (by decide +kernel) rfl ?_
       refine zg1 ?_
       refine st_nil ?_
       refine any_1 6 _ (by decide +kernel) rfl ?_
       refine st_store rfl (.appX (d:=39) (news:=[poL (dpV l j)]) rfl rfl rfl rfl (by simp) (.inl rfl) (by decide) Tryz.underlying34 Tryz.underlying34 Z100 T100 cs B100 (.inl ⟨38,0,_,rfl,by decide,rfl,rfl,by simp,rfl,by simp [pures,poE.pure]⟩) (by simp;omega) (by simp;omega) (by decide)) ?_
       refine st_nil ?_
       refine any_1 7 _ (by decide +kernel) rfl ?_
       refine zg1 ?_
       refine st_nil ?_
       refine any_1 8 _ (by decide +kernel) rfl ?_
       refine zg1 ?_
       refine st_nil ?_
       refine any_0 (by decide +kernel) ?_
       refine zg1 ?_
       exact⟨_,trivial,((put_id' (put_id' (put_id' (put_id' (put_id' (mk_id' cl) cl) cl) cl) cl) cl)).symm⟩
      ·refine st_callMp 0 rfl rfl rfl (dice_pure l _) (.cons .ptr (.cons (.imm (.pure rfl)) .nil)) .ptr (c_Dpole l j (by omega) (by omega)) rfl (dice_pure l _) (poE.pure _) ?_
       refine st_nil ?_
       refine any_2 1 5 _ _ (by decide +kernel) rfl rfl ?_ ?_
       ·refine zg1 ?_
        refine st_nil ?_
        refine any_1 5 _ (by decide +kernel) rfl ?_
        refine zg1 ?_
        refine st_nil ?_
        refine any_1 6 _ (by decide +kernel) rfl ?_
        refine st_store rfl (.appX (d:=39) (news:=[poL (dpV l j)]) rfl rfl rfl rfl (by simp) (.inl rfl) (by decide) Tryz.underlying34 Tryz.underlying34 Z100 T100 cs B100 (.inl ⟨38,0,_,rfl,by decide,rfl,rfl,by simp,rfl,by simp [pures,poE.pure]⟩) (by simp;omega) (by simp;omega) (by decide)) ?_
        refine st_nil ?_
        refine any_1 7 _ (by decide +kernel) rfl ?_
        refine zg1 ?_
        refine st_nil ?_
        refine any_1 8 _ (by decide +kernel) rfl ?_
        refine zg1 ?_
        refine st_nil ?_
        refine any_0 (by decide +kernel) ?_
        refine zg1 ?_
        exact⟨_,trivial,((put_id' (put_id' (put_id' (put_id' (put_id' (mk_id' cl) cl) cl) cl) cl) cl)).symm⟩
       ·refine zg1 ?_
        refine st_nil ?_
        refine any_1 1 _ (by decide +kernel) rfl ?_
        refine zg1 ?_
        refine st_nil ?_
        refine any_1 6 _ (by decide +kernel) rfl ?_
        refine st_store rfl (.appX (d:=39) (news:=[poL (dpV l j)]) rfl rfl rfl rfl (by simp) (.inl rfl) (by decide) Tryz.underlying34 Tryz.underlying34 Z100 T100 cs B100 (.inl ⟨38,0,_,rfl,by decide,rfl,rfl,by simp,rfl,by simp [pures,poE.pure]⟩) (by simp;omega) (by simp;omega) (by decide)) ?_
        refine st_nil ?_
        refine any_1 7 _ (by decide +kernel) rfl ?_
        refine zg1 ?_
        refine st_nil ?_
        refine any_1 8 _ (by decide +kernel) rfl ?_
        refine zg1 ?_
        refine st_nil ?_
        refine any_0 (by decide +kernel) ?_
        refine zg1 ?_
        exact⟨_,trivial,((put_id' (put_id' (put_id' (put_id' (put_id' (mk_id' cl) cl) cl) cl) cl) cl)).symm⟩
    ·refine zg1 ?_
     refine st_nil ?_
     refine any_2 0 4 _ _ (by decide +kernel) rfl rfl ?_ ?_
     ·refine zg1 ?_
      refine st_nil ?_
      refine any_2 1 4 _ _ (by decide +kernel) rfl rfl ?_ ?_
      ·refine zg1 ?_
       refine st_nil ?_
       refine any_1 4 _ (by decide +kernel) rfl ?_
       refine st_callMp 0 rfl rfl rfl (dice_pure l _) (.cons .ptr (.cons (.imm (.pure rfl)) .nil)) .ptr (c_Dpole l j (by omega) (by omega)) rfl (dice_pure l _) (poE.pure _) ?_
       refine st_nil ?_
       refine any_1 5 _ (by decide +kernel) rfl ?_
       refine zg1 ?_
       refine st_nil ?_
       refine any_1 6 _ (by decide +kernel) rfl ?_
       refine st_store rfl (.appX (d:=39) (news:=[poL (dpV l j)]) rfl rfl rfl rfl (by simp) (.inl rfl) (by decide) Tryz.underlying34 Tryz.underlying34 Z100 T100 cs B100 (.inl ⟨38,0,_,rfl,by decide,rfl,rfl,by simp,rfl,by simp [pures,poE.pure]⟩) (by simp;omega) (by simp;omega) (by decide)) ?_
       refine st_nil ?_
       refine any_1 7 _ (by decide +kernel) rfl ?_
       refine zg1 ?_
       refine st_nil ?_
       refine any_1 8 _ (by decide +kernel) rfl ?_
       refine zg1 ?_
       refine st_nil ?_
       refine any_0 (by decide +kernel) ?_
       refine zg1 ?_
       exact⟨_,trivial,((put_id' (put_id' (put_id' (put_id' (put_id' (mk_id' cl) cl) cl) cl) cl) cl)).symm⟩
      ·refine st_callMp 0 rfl rfl rfl (dice_pure l _) (.cons .ptr (.cons (.imm (.pure rfl)) .nil)) .ptr (c_Dpole l j (by omega) (by omega)) rfl (dice_pure l _) (poE.pure _) ?_
       refine st_nil ?_
       refine any_2 1 5 _ _ (by decide +kernel) rfl rfl ?_ ?_
       ·refine zg1 ?_
        refine st_nil ?_
        refine any_1 5 _ (by decide +kernel) rfl ?_
        refine zg1 ?_
        refine st_nil ?_
        refine any_1 6 _ (by decide +kernel) rfl ?_
        refine st_store rfl (.appX (d:=39) (news:=[poL (dpV l j)]) rfl rfl rfl rfl (by simp) (.inl rfl) (by decide) Tryz.underlying34 Tryz.underlying34 Z100 T100 cs B100 (.inl ⟨38,0,_,rfl,by decide,rfl,rfl,by simp,rfl,by simp [pures,poE.pure]⟩) (by simp;omega) (by simp;omega) (by decide)) ?_
        refine st_nil ?_
        refine any_1 7 _ (by decide +kernel) rfl ?_
        refine zg1 ?_
        refine st_nil ?_
        refine any_1 8 _ (by decide +kernel) rfl ?_
        refine zg1 ?_
        refine st_nil ?_
        refine any_0 (by decide +kernel) ?_
        refine zg1 ?_
        exact⟨_,trivial,((put_id' (put_id' (put_id' (put_id' (put_id' (mk_id' cl) cl) cl) cl) cl) cl)).symm⟩
       ·refine zg1 ?_
        refine st_nil ?_
        refine any_1 1 _ (by decide +kernel) rfl ?_
        refine zg1 ?_
        refine st_nil ?_
        refine any_1 6 _ (by decide +kernel) rfl ?_
        refine st_store rfl (.appX (d:=39) (news:=[poL (dpV l j)]) rfl rfl rfl rfl (by simp) (.inl rfl) (by decide) Tryz.underlying34 Tryz.underlying34 Z100 T100 cs B100 (.inl ⟨38,0,_,rfl,by decide,rfl,rfl,by simp,rfl,by simp [pures,poE.pure]⟩) (by simp;omega) (by simp;omega) (by decide)) ?_
        refine st_nil ?_
        refine any_1 7 _ (by decide +kernel) rfl ?_
        refine zg1 ?_
        refine st_nil ?_
        refine any_1 8 _ (by decide +kernel) rfl ?_
        refine zg1 ?_
        refine st_nil ?_
        refine any_0 (by decide +kernel) ?_
        refine zg1 ?_
        exact⟨_,trivial,((put_id' (put_id' (put_id' (put_id' (put_id' (mk_id' cl) cl) cl) cl) cl) cl)).symm⟩
     ·refine st_callMp 0 rfl rfl rfl (dice_pure l _) (.cons .ptr (.cons (.imm (.pure rfl)) .nil)) .ptr (c_Dpole l j (by omega) (by omega)) rfl (dice_pure l _) (poE.pure _) ?_
      refine st_nil ?_
      refine any_2 0 5 _ _ (by decide +kernel) rfl rfl ?_ ?_
      ·refine zg1 ?_
       refine st_nil ?_
       refine any_2 1 5 _ _ (by decide +kernel) rfl rfl ?_ ?_
       ·refine zg1 ?_
        refine st_nil ?_
        refine any_1 5 _ (by decide +kernel) rfl ?_
        refine zg1 ?_
        refine st_nil ?_
        refine any_1 6 _ (by decide +kernel) rfl ?_
        refine st_store rfl (.appX (d:=39) (news:=[poL (dpV l j)]) rfl rfl rfl rfl (by simp) (.inl rfl) (by decide) Tryz.underlying34 Tryz.underlying34 Z100 T100 cs B100 (.inl ⟨38,0,_,rfl,by decide,rfl,rfl,by simp,rfl,by simp [pures,poE.pure]⟩) (by simp;omega) (by simp;omega) (by decide)) ?_
        refine st_nil ?_
        refine any_1 7 _ (by decide +kernel) rfl ?_
        refine zg1 ?_
        refine st_nil ?_
        refine any_1 8 _ (by decide +kernel) rfl ?_
        refine zg1 ?_
        refine st_nil ?_
        refine any_0 (by decide +kernel) ?_
        refine zg1 ?_
        exact⟨_,trivial,((put_id' (put_id' (put_id' (put_id' (put_id' (mk_id' cl) cl) cl) cl) cl) cl)).symm⟩
       ·refine zg1 ?_
        refine st_nil ?_
        refine any_1 1 _ (by decide +kernel) rfl ?_
        refine zg1 ?_
        refine st_nil ?_
        refine any_1 6 _ (by decide +kernel) rfl ?_
        refine st_store rfl (.appX (d:=39) (news:=[poL (dpV l j)]) rfl rfl rfl rfl (by simp) (.inl rfl) (by decide) Tryz.underlying34 Tryz.underlying34 Z100 T100 cs B100 (.inl ⟨38,0,_,rfl,by decide,rfl,rfl,by simp,rfl,by simp [pures,poE.pure]⟩) (by simp;omega) (by simp;omega) (by decide)) ?_
        refine st_nil ?_
        refine any_1 7 _ (by decide +kernel) rfl ?_
        refine zg1 ?_
        refine st_nil ?_
        refine any_1 8 _ (by decide +kernel) rfl ?_
        refine zg1 ?_
        refine st_nil ?_
        refine any_0 (by decide +kernel) ?_
        refine zg1 ?_
        exact⟨_,trivial,((put_id' (put_id' (put_id' (put_id' (put_id' (mk_id' cl) cl) cl) cl) cl) cl)).symm⟩
      ·refine zg1 ?_
       refine st_nil ?_
       refine any_1 0 _ (by decide +kernel) rfl ?_
       refine zg1 ?_
       refine st_nil ?_
       refine any_1 1 _ (by decide +kernel) rfl ?_
       refine zg1 ?_
       refine st_nil ?_
       refine any_1 6 _ (by decide +kernel) rfl ?_
       refine st_store rfl (.appX (d:=39) (news:=[poL (dpV l j)]) rfl rfl rfl rfl (by simp) (.inl rfl) (by decide) Tryz.underlying34 Tryz.underlying34 Z100 T100 cs B100 (.inl ⟨38,0,_,rfl,by decide,rfl,rfl,by simp,rfl,by simp [pures,poE.pure]⟩) (by simp;omega) (by simp;omega) (by decide)) ?_
       refine st_nil ?_
       refine any_1 7 _ (by decide +kernel) rfl ?_
       refine zg1 ?_
       refine st_nil ?_
       refine any_1 8 _ (by decide +kernel) rfl ?_
       refine zg1 ?_
       refine st_nil ?_
       refine any_0 (by decide +kernel) ?_
       refine zg1 ?_
       exact⟨_,trivial,((put_id' (put_id' (put_id' (put_id' (put_id' (mk_id' cl) cl) cl) cl) cl) cl)).symm⟩
  ·rintro _ ⟨LR6,-,rfl⟩
   refine zg2 ?_
   refine wl_regW (Weak.kill _ 38) ?_
   refine zg1 ?_
   refine st_pure rfl (.bin rfl rfl (add1N (by omega))) ?_
   refine zg3 ?_
   exact nx3 e (dpK l j) (o++[dpV l j]) ⟨dpK_le hl hj,by simp;omega,by rw [List.append_assoc];exact hV,hK⟩
 ·obtain rfl:c=0:=by omega
  rw [dqV,List.append_nil] at hV
  rw [dqK] at hK
  refine zg12 ?_
  rw [←hV,←hK]
  exact retMCf [39] rfl rfl rfl rfl rfl T36 (.agg (.cons (.pure rfl) (.cons (.pure hkp) (.cons (imm_refm poE rfl rfl rfl) .nil)))) rfl rfl (dice_pure l _)
end Go.Proofs.YtgfbghoihhnahaaGreat
end
section
set_option linter.unusedVariables false
set_option linter.unusedSimpArgs false
set_option maxHeartbeats 8000000
set_option maxRecDepth 100000
attribute [local irreducible] Go.Lg.opsL Go.Lg.wpL Go.Lg.thenL Go.Lg.blockL
namespace Go.Proofs.YtgfbghoihhnahaaGreat
open Go.Lg
theorem hp_swap2 (a b:Nat × Blk) (h:a.1≠b.1):∀ l:List (Nat × Blk),hp (l++[a,b])=hp (l++[b,a])
 | []=>by
  funext c
  obtain⟨a1,a2⟩:=a
  obtain⟨b1,b2⟩:=b
  have h:a1≠b1:=h
  simp only [List.nil_append,hp]
  by_cases ha:c=a1
  ·subst ha
   have:Nat.beq c b1=false:=by rw [←Bool.not_eq_true,Nat.beq_eq];exact h
   simp [this]
  ·have:Nat.beq c a1=false:=by rw [←Bool.not_eq_true,Nat.beq_eq];exact ha
   simp [this]
 | (d,x) :: l=>by
  funext c
  simp only [List.cons_append,hp]
  rw [hp_swap2 a b h l]
namespace H_c_FSameL0
theorem zSm {p q:Prop} (k:q) (e:p=q:=by simp only [e1,e2,e3,e4,p1,p2,p3,q1,q2,q3,l1,t0,t1,r1,r2,r3,r4,Nat.zero_add,Nat.reduceMul,Nat.reduceAdd,b1,b2,b3,b4,b5,b6,i1,i2,i3,i4,i5,i6,Nat.reduceBEq,List.set_cons_zero,List.set_cons_succ,Nat.reduceEqDiff,reduceIte,if_true,if_false,ptL_kill,poL_kill,kills_map ptE,kills_map poE,kills_map ratE,ratL_kill,spL_kill,LV.kill,kills];exact rfl):p:=e.mpr k
end H_c_FSameL0
open H_c_FSameL0 in
theorem c_FSameL0 :CallP Tryz.prog 157 [.v (.slice none 0 0),.v (.slice none 0 0)] (bL true):=by
 refine fnP Tryz.func157 ?_
 refine zg15 ?_
 refine wl_condY (b:=_) rfl (rfl) ?_
 refine zg9 ?_
 refine wl_unroll ?_
 refine zg9 ?_
 refine wl_condY (b:=_) rfl (by decide) ?_
 refine zg11 ?_
 exact ret1 rfl (.pure rfl)
namespace H_c_FSameP0
theorem zSm {p q:Prop} (k:q) (e:p=q:=by simp only [e1,e2,e3,e4,p1,p2,p3,q1,q2,q3,l1,t0,t1,r1,r2,r3,r4,Nat.zero_add,Nat.reduceMul,Nat.reduceAdd,b1,b2,b3,b4,b5,b6,i1,i2,i3,i4,i5,i6,Nat.reduceBEq,List.set_cons_zero,List.set_cons_succ,Nat.reduceEqDiff,reduceIte,if_true,if_false,ptL_kill,poL_kill,kills_map ptE,kills_map poE,kills_map ratE,ratL_kill,spL_kill,LV.kill,kills];exact rfl):p:=e.mpr k
end H_c_FSameP0
open H_c_FSameP0 in
theorem c_FSameP0 :CallP Tryz.prog 161 [.v (.slice none 0 0),.v (.slice none 0 0)] (bL true):=by
 refine fnP Tryz.func161 ?_
 refine zg15 ?_
 refine wl_condY (b:=_) rfl (rfl) ?_
 refine zg9 ?_
 refine wl_unroll ?_
 refine zg9 ?_
 refine wl_condY (b:=_) rfl (by decide) ?_
 refine zg11 ?_
 exact ret1 rfl (.pure rfl)
namespace H_c_FCvSame0
theorem zSm {p q:Prop} (k:q) (e:p=q:=by simp only [e1,e2,e3,e4,p1,p2,p3,q1,q2,q3,l1,t0,t1,r1,r2,r3,r4,Nat.zero_add,Nat.reduceMul,Nat.reduceAdd,b1,b2,b3,b4,b5,b6,i1,i2,i3,i4,i5,i6,Nat.reduceBEq,List.set_cons_zero,List.set_cons_succ,Nat.reduceEqDiff,reduceIte,if_true,if_false,ptL_kill,poL_kill,kills_map ptE,kills_map poE,kills_map ratE,ratL_kill,spL_kill,LV.kill,kills];exact rfl):p:=e.mpr k
end H_c_FCvSame0
open H_c_FCvSame0 in
theorem c_FCvSame0 :CallP Tryz.prog 62 [.agg [.v (.int .i64 0),.v (.slice none 0 0),.v (.slice none 0 0)],.agg [.v (.int .i64 0),.v (.slice none 0 0),.v (.slice none 0 0)]] (bL true):=by
 refine fnP Tryz.func62 ?_
 refine zg15 ?_
 refine st_pure (guardX (v:=true) rfl rfl ((rfl)) rfl) faA ?_
 refine st_pure (guardX (v:=true) rfl rfl ((rfl)) rfl) ldA ?_
 refine st_pure (guardX (v:=true) rfl rfl ((rfl)) rfl) faA ?_
 refine st_pure (guardX (v:=true) rfl rfl ((rfl)) rfl) ldA ?_
 refine st_callP (guardX (v:=true) rfl rfl ((rfl)) rfl) (.cons im0 (.cons im0 .nil)) (c_FSameL0) ?_
 refine st_pure rfl (.pickT rfl ((rfl))) ?_
 refine zg1 ?_
 refine st_pure (guardX (v:=true) rfl rfl ((rfl)) rfl) faA ?_
 refine st_pure (guardX (v:=true) rfl rfl ((rfl)) rfl) ldA ?_
 refine st_pure (guardX (v:=true) rfl rfl ((rfl)) rfl) faA ?_
 refine st_pure (guardX (v:=true) rfl rfl ((rfl)) rfl) ldA ?_
 refine st_callP (guardX (v:=true) rfl rfl ((rfl)) rfl) (.cons im0 (.cons im0 .nil)) (c_FSameP0) ?_
 refine st_pure rfl (.pickT rfl ((rfl))) ?_
 refine zg4 ?_
 exact ret1 rfl (.pure rfl)
namespace H_c_samePo
theorem zSm {p q:Prop} (k:q) (e:p=q:=by simp only [e1,e2,e3,e4,p1,p2,p3,q1,q2,q3,l1,t0,t1,r1,r2,r3,r4,Nat.zero_add,Nat.reduceMul,Nat.reduceAdd,b1,b2,b3,b4,b5,b6,i1,i2,i3,i4,i5,i6,Nat.reduceBEq,dfq,List.getD_cons_zero,List.getD_cons_succ,List.set_cons_zero,List.set_cons_succ,Nat.reduceEqDiff,reduceIte,if_true,if_false,ptL_kill,poL_kill,kills_map ptE,kills_map poE,kills_map ratE,ratL_kill,spL_kill,LV.kill,kills];exact rfl):p:=e.mpr k
end H_c_samePo
open H_c_samePo in
theorem c_samePo (po:List PoR) (hl:po.length≤1000) (hN:∀ k,∀ z∈nmP po k,rl z≤100000) (hW:∀ z∈wtP po,rl z≤100000):CallP Tryz.prog 59 [.agg [.list 3 ((nmP po 0).map ratL),.list 3 ((nmP po 1).map ratL),.list 3 ((nmP po 2).map ratL),.list 3 ((wtP po).map ratL)],.agg [.list 3 ((nmP po 0).map ratL),.list 3 ((nmP po 1).map ratL),.list 3 ((nmP po 2).map ratL),.list 3 ((wtP po).map ratL)]] (bL true):=by
 have hpu:∀ l:List Rat,pures (l.map ratL)=true:=fun l=>pures_map ratE l
 have hS0:CallP Tryz.prog 157 [.list 3 ((nmP po 0).map ratL),.list 3 ((nmP po 0).map ratL)] (bL true):=by
  have hlen:(nmP po 0).length≤1000:=by simpa [nmP_len,wtP_len] using hl
  have:=c_FSameL (nmP po 0) (nmP po 0) (by omega) (by omega) (fun z hz=>Nat.le_trans (hN 0 z hz) (by decide)) (fun z hz=>Nat.le_trans (hN 0 z hz) (by decide))
  rwa [decide_eq_true rfl] at this
 have hS1:CallP Tryz.prog 157 [.list 3 ((nmP po 1).map ratL),.list 3 ((nmP po 1).map ratL)] (bL true):=by
  have hlen:(nmP po 1).length≤1000:=by simpa [nmP_len,wtP_len] using hl
  have:=c_FSameL (nmP po 1) (nmP po 1) (by omega) (by omega) (fun z hz=>Nat.le_trans (hN 1 z hz) (by decide)) (fun z hz=>Nat.le_trans (hN 1 z hz) (by decide))
  rwa [decide_eq_true rfl] at this
 have hS2:CallP Tryz.prog 157 [.list 3 ((nmP po 2).map ratL),.list 3 ((nmP po 2).map ratL)] (bL true):=by
  have hlen:(nmP po 2).length≤1000:=by simpa [nmP_len,wtP_len] using hl
  have:=c_FSameL (nmP po 2) (nmP po 2) (by omega) (by omega) (fun z hz=>Nat.le_trans (hN 2 z hz) (by decide)) (fun z hz=>Nat.le_trans (hN 2 z hz) (by decide))
  rwa [decide_eq_true rfl] at this
 have hS3:CallP Tryz.prog 157 [.list 3 ((wtP po).map ratL),.list 3 ((wtP po).map ratL)] (bL true):=by
  have hlen:(wtP po).length≤1000:=by simpa [nmP_len,wtP_len] using hl
  have:=c_FSameL (wtP po) (wtP po) (by omega) (by omega) (fun z hz=>Nat.le_trans (hW z hz) (by decide)) (fun z hz=>Nat.le_trans (hW z hz) (by decide))
  rwa [decide_eq_true rfl] at this
 refine fnP Tryz.func59 ?_
 refine zg14 ?_
 refine wl_unroll ?_
 refine zg7 ?_
 refine wl_condX (b:=_) rfl (by decide) ?_
 refine zg5 ?_
 refine wl_regD 8 (by decide +kernel) ?_
 refine zg6 ?_
 refine cp am2 (hS0) ?_
 refine zg3 ?_
 refine wl_condY (b:=_) rfl (rfl) ?_
 refine zg9 ?_
 refine wl_unroll ?_
 refine zg7 ?_
 refine wl_condX (b:=_) rfl (by decide) ?_
 refine zg5 ?_
 refine wl_regD 8 (by decide +kernel) ?_
 refine zg6 ?_
 refine cp am2 (hS1) ?_
 refine zg3 ?_
 refine wl_condY (b:=_) rfl (rfl) ?_
 refine zg9 ?_
 refine wl_unroll ?_
 refine zg7 ?_
 refine wl_condX (b:=_) rfl (by decide) ?_
 refine zg5 ?_
 refine wl_regD 8 (by decide +kernel) ?_
 refine zg6 ?_
 refine cp am2 (hS2) ?_
 refine zg3 ?_
 refine wl_condY (b:=_) rfl (rfl) ?_
 refine zg9 ?_
 refine wl_unroll ?_
 refine zg7 ?_
 refine wl_condX (b:=_) rfl (by decide) ?_
 refine zg5 ?_
 refine wl_regD 8 (by decide +kernel) ?_
 refine zg6 ?_
 refine cp am2 (hS3) ?_
 refine zg3 ?_
 refine wl_condY (b:=_) rfl (rfl) ?_
 refine zg9 ?_
 refine wl_unroll ?_
 refine zg7 ?_
 refine wl_condY (b:=_) rfl (by decide) ?_
 refine zg11 ?_
 exact ret1 rfl (.pure rfl)
namespace H_c_FCut
theorem zSm {p q:Prop} (k:q) (e:p=q:=by simp only [e1,e2,e3,e4,p1,p2,p3,q1,q2,q3,l1,t0,t1,r1,r2,r3,r4,Nat.zero_add,Nat.reduceMul,Nat.reduceAdd,b1,b2,b3,b4,b5,b6,i1,i2,i3,i4,i5,i6,Nat.reduceBEq,List.append_nil,List.replicate_zero,Nat.add_zero,List.length_append,List.length_replicate,List.take_zero,etkA,etkB,ersA,ersB,ersP,dfq,hn0,hn1,hn2,hn3,List.length_map,take_map_len,map_snoc,len_snoc,List.length_cons,List.length_nil,List.nil_append,List.map_nil,List.take_nil,List.append_nil,List.set_cons_zero,List.set_cons_succ,Nat.reduceEqDiff,reduceIte,if_true,if_false,ptL_kill,poL_kill,kills_map ptE,kills_map poE,kills_map ratE,ratL_kill,spL_kill,LV.kill,kills];exact rfl):p:=e.mpr k
end H_c_FCut
open H_c_FCut in
theorem c_FCut (d:Nat) (T:Rat) (po:List PoR) (hT:rl T≤1) (hT1:rl (T+1)≤1) (h9:d≤6) (lo hi:Rat) (hlo0:rl lo≤3) (hhi0:rl hi≤3) (k1:T≤lo) (k2:lo<hi) (k3:hi≤T+1) (h:cvF po d):CallP Tryz.prog 56 [.agg [nI64 d,.list 3 ((kn0 d T).map ratL),.list 12 (po.map poL)],ratL lo,ratL hi] (.tup [.agg [nI64 d,.list 3 ((kn2 d lo hi).map ratL),.list 12 ((cutP po (lo-T) (hi-T)).map poL)],iL 0]):=by
 have hl:=h.hl
 have hd:=h.hd
 have h6:=h.h6
 have hcp:LV.pure (.agg [nI64 d,.list 3 ((kn0 d T).map ratL),.list 12 (po.map poL)])=true:=by simp [LV.pure,pures,pures_map ratE,pures_map poE]
 have k4:lo≤T+1:=by grind
 have k5:T≤hi:=by grind
 have hHa:CallP Tryz.prog 53 [spL (T,T+1),ratL lo] (bL true):=by
  have:=c_FHas (T,T+1) lo (by show rl T+rl lo≤_;omega) (by show rl lo+rl (T+1)≤_;omega)
  rwa [has_in k1 k4] at this
 have hHb:CallP Tryz.prog 53 [spL (T,T+1),ratL hi] (bL true):=by
  have:=c_FHas (T,T+1) hi (by show rl T+rl hi≤_;omega) (by show rl hi+rl (T+1)≤_;omega)
  rwa [has_in k5 k3] at this
 have hcm:¬cmpR lo hi≥0:=fun e=>by have:=cmpR_ge.1 e;grind
 have hOx:=c_Fown d T po hT hT1 h9 lo (by omega)
 have hOy:=c_Fown d T po hT hT1 h9 hi (by omega)
 have hcr:=h.r
 have hx0:0≤(lo-T):=by grind
 have hx1:(lo-T)<1:=by grind
 have hy0:0≤(hi-T):=by grind
 have hy1:(hi-T)≤1:=by grind
 have hr1:rl 1=1:=rfl
 have hsx:=rl_sub lo T
 have hsy:=rl_sub hi T
 have hsx1:=rl_sub 1 (lo-T)
 have hsy1:=rl_sub 1 (hi-T)
 have hdv:=rl_div ((hi-T)-(lo-T)) (1-(lo-T))
 have hsyx:=rl_sub (hi-T) (lo-T)
 have hne:(lo-T)≠1:=by grind
 have hw3:=h.w.1
 have hq0:=(h.n 0).1
 have hq1:=(h.n 1).1
 have hq2:=(h.n 2).1
 have hn0:(partF (nmP po 0) (lo-T) (hi-T)).length=d+1:=by rw [partF_len];omega
 have hn1:(partF (nmP po 1) (lo-T) (hi-T)).length=d+1:=by rw [partF_len];omega
 have hn2:(partF (nmP po 2) (lo-T) (hi-T)).length=d+1:=by rw [partF_len];omega
 have hn3:(partF (wtP po) (lo-T) (hi-T)).length=d+1:=by rw [partF_len];omega
 have hpu:∀ l:List Rat,pures (l.map ratL)=true:=fun l=>pures_map ratE l
 have hcp4:∀ q0 q1' q2' q3':Rat,LV.pure (.agg [ratL q0,ratL q1',ratL q2',ratL q3'])=true:=fun _ _ _ _=>by simp [LV.pure,pures,ratE.pure]
 have hP:∀ p:List Rat,p.length=d+1→(∀ z∈p,rl z≤2)→CallP Tryz.prog 154 [.list 3 (p.map ratL),ratL (lo-T),ratL (hi-T)] (.list 3 ((partF p (lo-T) (hi-T)).map ratL)):=fun p hp hz =>
  c_FPart p (lo-T) (hi-T) (by omega) (by omega) (fun _=>⟨hs_ofL (by omega) (fun z hh=>Nat.le_trans (hz z hh) (by decide)) (by omega),hs_ofL (by rw [hiP_len];omega) (fun z hh=>Nat.le_trans (hi_rl (S:=20) (by omega) hz (by decide) (by omega) z hh) (by decide)) (by omega)⟩) (fun e=>absurd e hne)
 have hP0:=hP (nmP po 0) (h.n 0).1 (h.n 0).2
 have hP1:=hP (nmP po 1) (h.n 1).1 (h.n 1).2
 have hP2:=hP (nmP po 2) (h.n 2).1 (h.n 2).2
 have hP3:=hP (wtP po) h.w.1 h.w.2
 refine fnP Tryz.func56 (ht:=(tame2 (by simp [LV.pure,pures,pures_map ratE,pures_map poE]) rfl)) ?_
 have etkA:True:=trivial
 have etkB:True:=trivial
 have ersA:True:=trivial
 have ersB:True:=trivial
 have ersP:True:=trivial
 refine zg12 ?_
 refine cp am1 (c_FDom d T po hT hT1 h9) ?_
 refine zg9 ?_
 refine cp am2 (c_FRCmp lo hi (by omega)) ?_
 refine zg2 ?_
 refine st_pure (guardX (v:=false) rfl rfl ((decide_eq_false hcm)) rfl) ldA ?_
 refine st_pure (guardX (v:=false) rfl rfl ((decide_eq_false hcm)) rfl) ldA ?_
 refine st_callP (guardX (v:=false) rfl rfl ((decide_eq_false hcm)) rfl) (.cons im0 (.cons im0 .nil)) (hHa) ?_
 refine st_pure (guardX (v:=false) rfl rfl ((decide_eq_false hcm)) rfl) (.not rfl) ?_
 refine st_pure rfl (.pickF rfl ((decide_eq_false hcm))) ?_
 refine zg1 ?_
 refine st_pure (guardX (v:=false) rfl rfl ((rfl)) rfl) ldA ?_
 refine st_pure (guardX (v:=false) rfl rfl ((rfl)) rfl) ldA ?_
 refine st_callP (guardX (v:=false) rfl rfl ((rfl)) rfl) (.cons im0 (.cons im0 .nil)) (hHb) ?_
 refine st_pure (guardX (v:=false) rfl rfl ((rfl)) rfl) (.not rfl) ?_
 refine st_pure rfl (.pickF rfl ((rfl))) ?_
 refine zg2 ?_
 refine wl_condY (b:=_) rfl (rfl) ?_
 refine zg5 ?_
 refine cp am1 (c_FNum d (kn0 d T) po h) ?_
 refine zg11 ?_
 refine wl_unroll ?_
 refine zg7 ?_
 refine wl_condX (b:=_) rfl (by decide) ?_
 refine zg4 ?_
 refine wl_regD 12 (by decide +kernel) ?_
 refine zg6 ?_
 refine cp am2 (hOx) ?_
 refine zg2 ?_
 refine cp am2 (hOy) ?_
 refine cp am3 (hP0) ?_
 refine zg11 ?_
 refine wl_unroll ?_
 refine zg7 ?_
 refine wl_condX (b:=_) rfl (by decide) ?_
 refine zg4 ?_
 refine wl_regD 12 (by decide +kernel) ?_
 refine zg6 ?_
 refine cp am2 (hOx) ?_
 refine zg2 ?_
 refine cp am2 (hOy) ?_
 refine cp am3 (hP1) ?_
 refine zg11 ?_
 refine wl_unroll ?_
 refine zg7 ?_
 refine wl_condX (b:=_) rfl (by decide) ?_
 refine zg4 ?_
 refine wl_regD 12 (by decide +kernel) ?_
 refine zg6 ?_
 refine cp am2 (hOx) ?_
 refine zg2 ?_
 refine cp am2 (hOy) ?_
 refine cp am3 (hP2) ?_
 refine zg11 ?_
 refine wl_unroll ?_
 refine zg7 ?_
 refine wl_condX (b:=_) rfl (by decide) ?_
 refine zg4 ?_
 refine wl_regD 12 (by decide +kernel) ?_
 refine zg6 ?_
 refine cp am2 (hOx) ?_
 refine zg2 ?_
 refine cp am2 (hOy) ?_
 refine cp am3 (hP3) ?_
 refine zg11 ?_
 refine wl_unroll ?_
 refine zg7 ?_
 refine wl_condY (b:=_) rfl (by decide) ?_
 refine zg21 ?_
 refine wl_weak (((Weak.cell 11 rfl (fun Z μ w cs h=>rep_crv2 64 3 _ _ Z μ w cs h)).trans (Weak.newB _ 64 3 rfl)).trans ((Weak.cell 11 rfl (fun Z μ w cs h=>rep_net 91 12 _ _ Z μ w cs h)).trans (Weak.newB _ 91 12 rfl))) ?_
 refine lp1 (fun(i:Nat) L=>((((((((St.mk L.slot (hp [(3,⟨3,[.agg [nI64 d,.list 3 ((kn0 d T).map ratL),.list 12 (po.map poL)]],true⟩),(4,⟨3,[ratL lo],true⟩),(5,⟨3,[ratL hi],true⟩),(6,⟨3,[.agg [.v (.int .i64 0),.v (.slice none 0 0),.v (.slice none 0 0)]],true⟩),(8,⟨6,[spL (T,T+1)],true⟩),(9,⟨4,[.agg [.list 3 ((partF (nmP po 0) (lo-T) (hi-T)).map ratL),.list 3 ((partF (nmP po 1) (lo-T) (hi-T)).map ratL),.list 3 ((partF (nmP po 2) (lo-T) (hi-T)).map ratL),.list 3 ((partF (wtP po) (lo-T) (hi-T)).map ratL)]],true⟩),(11,⟨3,[.agg [nI64 d,.ref 64 3 0 i,.ref 91 12 0 i]],true⟩),(64,⟨3,(List.replicate i lo).map ratL,true⟩),(91,⟨12,((cutP po (lo-T) (hi-T)).take i).map poL,true⟩)])).put (some 3) (.eptr 3 3 0 0)).put (some 4) (.eptr 4 3 0 0)).put (some 5) (.eptr 5 3 0 0)).put (some 6) (.eptr 6 3 0 0)).put (some 9) (.eptr 9 4 0 0)).put (some 11) (.eptr 11 3 0 0)).put (some 12) (nI64 i))) (fun i=>i≤d+1) (fun i=>d+1-i) 0 (Nat.zero_le _) ?_
 rintro i L2 hi2
 refine zg9 ?_
 refine wl_if rfl (fun h57r h57=>?_) (fun h57r h57=>?_)
 ·have hi3:i<d+1:=by omega
  have ersA:=rep_snoc i lo
  have etkA:((List.replicate i lo).map ratL).take i=(List.replicate i lo).map ratL:=List.take_of_length_le (by simp)
  have hpj:=cut_pos hcr hx0 hx1 hy0 hy1 (j:=i) (by omega)
  have hdt:((cutP po (lo-T) (hi-T)).take i).length=i:=by rw [List.length_take,cutP_len];omega
  have etkB:(((cutP po (lo-T) (hi-T)).take i).map poL).take i=((cutP po (lo-T) (hi-T)).take i).map poL:=List.take_of_length_le (by rw [List.length_map];omega)
  have ersP:(cutP po (lo-T) (hi-T)).take i++[cpQ po (lo-T) (hi-T) i]=(cutP po (lo-T) (hi-T)).take (i+1):=by
   rw [←cutP_get (x:=(lo-T)) (y:=(hi-T)) (show i<po.length by omega),List.take_add_one,List.getD_eq_getElem?_getD,List.getElem?_eq_getElem (by rw [cutP_len];omega)];rfl
  have hcw:rl ((partF (wtP po) (lo-T) (hi-T)).getD i 0)≤100000000:=by
   rw [cut_w hcr hx1 (by omega)]
   exact Nat.le_trans (pc_rl (R:=2) (S:=20) (by omega) (by omega) h6 (by omega) fun i=>getD_rl (by decide) h.w.2 i) (by decide)
  have hcn0:rl ((partF (nmP po 0) (lo-T) (hi-T)).getD i 0)≤100000000:=by
   rw [cut_n hcr hx1 0 (by omega)]
   exact Nat.le_trans (pc_rl (R:=2) (S:=20) (by omega) (by omega) h6 (by omega) fun i=>getD_rl (by decide) (h.n 0).2 i) (by decide)
  have hcn1:rl ((partF (nmP po 1) (lo-T) (hi-T)).getD i 0)≤100000000:=by
   rw [cut_n hcr hx1 1 (by omega)]
   exact Nat.le_trans (pc_rl (R:=2) (S:=20) (by omega) (by omega) h6 (by omega) fun i=>getD_rl (by decide) (h.n 1).2 i) (by decide)
  have hcn2:rl ((partF (nmP po 2) (lo-T) (hi-T)).getD i 0)≤100000000:=by
   rw [cut_n hcr hx1 2 (by omega)]
   exact Nat.le_trans (pc_rl (R:=2) (S:=20) (by omega) (by omega) h6 (by omega) fun i=>getD_rl (by decide) (h.n 2).2 i) (by decide)
  have hDr:CallP Tryz.prog 121 [.agg [ratL ((partF (nmP po 0) (lo-T) (hi-T)).getD i 0),ratL ((partF (nmP po 1) (lo-T) (hi-T)).getD i 0),ratL ((partF (nmP po 2) (lo-T) (hi-T)).getD i 0),ratL ((partF (wtP po) (lo-T) (hi-T)).getD i 0)]] (poL (cpQ po (lo-T) (hi-T) i)):=by
   have:=c_FDrop _ _ _ _ 100000000 (by decide) hcn0 hcn1 hcn2 hcw
   have hne2:(partF (wtP po) (lo-T) (hi-T)).getD i 0≠0:=by grind
   have hr:1/(partF (wtP po) (lo-T) (hi-T)).getD i 0*(partF (wtP po) (lo-T) (hi-T)).getD i 0=1:=Rat.div_mul_cancel hne2
   have eq:v3m (1/(partF (wtP po) (lo-T) (hi-T)).getD i 0) ⟨(partF (nmP po 0) (lo-T) (hi-T)).getD i 0,(partF (nmP po 1) (lo-T) (hi-T)).getD i 0,(partF (nmP po 2) (lo-T) (hi-T)).getD i 0⟩=(cpQ po (lo-T) (hi-T) i).p:=by
    unfold v3m cpQ
    congr 1
    ·exact((div_inv1 hr _).trans (Rat.mul_comm _ _)).symm
    ·exact((div_inv1 hr _).trans (Rat.mul_comm _ _)).symm
    ·exact((div_inv1 hr _).trans (Rat.mul_comm _ _)).symm
   rw [eq] at this
   exact this
  have hcp5:=hcp4 ((partF (nmP po 0) (lo-T) (hi-T)).getD i 0) ((partF (nmP po 1) (lo-T) (hi-T)).getD i 0) ((partF (nmP po 2) (lo-T) (hi-T)).getD i 0) ((partF (wtP po) (lo-T) (hi-T)).getD i 0)
  refine zg10 ?_
  refine st_store rfl (.appX (d:=64) (news:=[ratL lo]) rfl rfl rfl rfl (by simp) (.inl rfl) (by decide) Tryz.underlying33 Tryz.underlying33 Z29a T29 rfl B29 (.inl ⟨63,0,_,rfl,by decide,rfl,rfl,by simp,rfl,by simp [pures,ratE.pure]⟩) (by simp;omega) (by simp;omega) (by decide)) ?_
  refine zg4 ?_
  refine wl_regD 25 (by decide +kernel) ?_
  refine zg23 ?_
  refine cp am1 (hDr) ?_
  refine zg1 ?_
  refine st_store rfl (.app (news:=[poL (cpQ po (lo-T) (hi-T) i)]) rfl rfl rfl rfl rfl (by rw [List.length_map];omega) (.inl rfl) (by decide) Tryz.underlying34 Tryz.underlying34 Z100 T100 cs B100 (.inl ⟨90,0,_,rfl,by decide,rfl,rfl,by simp,rfl,by simp [pures,poE.pure]⟩) (by simp;omega) (by simp;omega) (by decide)) ?_
  refine zg5 ?_
  refine wl_regW ((Weak.kill _ 63).trans (Weak.kill _ 90)) ?_
  refine zg1 ?_
  refine st_pure rfl (.bin rfl rfl (add1N (by omega))) ?_
  refine zg3 ?_
  exact nx1 (i+1) (by omega)
 ·obtain rfl:i=d+1:=by omega
  have hEp:(cutP po (lo-T) (hi-T)).take (d+1)=(cutP po (lo-T) (hi-T)):=List.take_of_length_le (by rw [cutP_len];omega)
  simp only [hEp]
  refine zg12 ?_
  refine lp1 (fun(i:Nat) L=>((((((((St.mk L.slot (hp [(3,⟨3,[.agg [nI64 d,.list 3 ((kn0 d T).map ratL),.list 12 (po.map poL)]],true⟩),(4,⟨3,[ratL lo],true⟩),(5,⟨3,[ratL hi],true⟩),(6,⟨3,[.agg [.v (.int .i64 0),.v (.slice none 0 0),.v (.slice none 0 0)]],true⟩),(8,⟨6,[spL (T,T+1)],true⟩),(9,⟨4,[.agg [.list 3 ((partF (nmP po 0) (lo-T) (hi-T)).map ratL),.list 3 ((partF (nmP po 1) (lo-T) (hi-T)).map ratL),.list 3 ((partF (nmP po 2) (lo-T) (hi-T)).map ratL),.list 3 ((partF (wtP po) (lo-T) (hi-T)).map ratL)]],true⟩),(11,⟨3,[.agg [nI64 d,.ref 64 3 0 (d+1+i),.ref 91 12 0 (d+1)]],true⟩),(91,⟨12,(cutP po (lo-T) (hi-T)).map poL,true⟩),(64,⟨3,(List.replicate (d+1) lo++List.replicate i hi).map ratL,true⟩)])).put (some 3) (.eptr 3 3 0 0)).put (some 4) (.eptr 4 3 0 0)).put (some 5) (.eptr 5 3 0 0)).put (some 6) (.eptr 6 3 0 0)).put (some 9) (.eptr 9 4 0 0)).put (some 11) (.eptr 11 3 0 0)).put (some 13) (nI64 i))) (fun i=>i≤d+1) (fun i=>d+1-i) 0 (Nat.zero_le _) (h0:=⟨_,Weak.of_eq (put_id' (put_id' (put_id' (put_id' (put_id' (put_id' (put_id' (mk_id' (Eq.trans (b:=hp ([(3,⟨3,[.agg [nI64 d,.list 3 ((kn0 d T).map ratL),.list 12 (po.map poL)]],true⟩),(4,⟨3,[ratL lo],true⟩),(5,⟨3,[ratL hi],true⟩),(6,⟨3,[.agg [.v (.int .i64 0),.v (.slice none 0 0),.v (.slice none 0 0)]],true⟩),(8,⟨6,[spL (T,T+1)],true⟩),(9,⟨4,[.agg [.list 3 ((partF (nmP po 0) (lo-T) (hi-T)).map ratL),.list 3 ((partF (nmP po 1) (lo-T) (hi-T)).map ratL),.list 3 ((partF (nmP po 2) (lo-T) (hi-T)).map ratL),.list 3 ((partF (wtP po) (lo-T) (hi-T)).map ratL)]],true⟩),(11,⟨3,[.agg [nI64 d,.ref 64 3 0 (d+1+0),.ref 91 12 0 (d+1)]],true⟩)]++[(64,⟨3,(List.replicate (d+1) lo++List.replicate 0 hi).map ratL,true⟩),(91,⟨12,(cutP po (lo-T) (hi-T)).map poL,true⟩)])) cl (hp_swap2 (64,⟨3,(List.replicate (d+1) lo++List.replicate 0 hi).map ratL,true⟩) (91,⟨12,(cutP po (lo-T) (hi-T)).map poL,true⟩) (show (64:Nat)≠91 by decide) [(3,⟨3,[.agg [nI64 d,.list 3 ((kn0 d T).map ratL),.list 12 (po.map poL)]],true⟩),(4,⟨3,[ratL lo],true⟩),(5,⟨3,[ratL hi],true⟩),(6,⟨3,[.agg [.v (.int .i64 0),.v (.slice none 0 0),.v (.slice none 0 0)]],true⟩),(8,⟨6,[spL (T,T+1)],true⟩),(9,⟨4,[.agg [.list 3 ((partF (nmP po 0) (lo-T) (hi-T)).map ratL),.list 3 ((partF (nmP po 1) (lo-T) (hi-T)).map ratL),.list 3 ((partF (nmP po 2) (lo-T) (hi-T)).map ratL),.list 3 ((partF (wtP po) (lo-T) (hi-T)).map ratL)]],true⟩),(11,⟨3,[.agg [nI64 d,.ref 64 3 0 (d+1+0),.ref 91 12 0 (d+1)]],true⟩)]))) cl) cl) cl) cl) cl) cl) cl)⟩) ?_
  rintro i L3 hi2
  refine zg9 ?_
  refine wl_if rfl (fun h96r h96=>?_) (fun h96r h96=>?_)
  ·have hi3:i<d+1:=by omega
   have ersB:List.replicate (d+1) lo++List.replicate i hi++[hi]=List.replicate (d+1) lo++List.replicate (i+1) hi:=by rw [List.append_assoc,rep_snoc]
   have etkA:((List.replicate (d+1) lo++List.replicate i hi).map ratL).take (d+1+i)=(List.replicate (d+1) lo++List.replicate i hi).map ratL:=List.take_of_length_le (by simp)
   refine zg9 ?_
   refine st_store rfl (.appX (d:=64) (news:=[ratL hi]) rfl rfl rfl rfl (by simp) (.inl rfl) (by decide) Tryz.underlying33 Tryz.underlying33 Z29a T29 rfl B29 (.inl ⟨102,0,_,rfl,by decide,rfl,rfl,by simp,rfl,by simp [pures,ratE.pure]⟩) (by simp;omega) (by simp;omega) (by decide)) ?_
   refine zg5 ?_
   refine wl_regW (Weak.kill _ 102) ?_
   refine zg1 ?_
   refine st_pure rfl (.bin rfl rfl (add1N (by omega))) ?_
   refine zg3 ?_
   exact nx1 (i+1) (by omega)
  ·obtain rfl:i=d+1:=by omega
   refine zg13 ?_
   exact retCT [64,91] rfl rfl rfl cs (at_all cs rfl) T36 (.agg (.cons (.pure rfl) (.cons (imm_refm (l:=kn2 d lo hi) ratE rfl rfl (by simp [kn2])) (.cons (imm_refm (l:=(cutP po (lo-T) (hi-T))) poE rfl rfl (by rw [cutP_len];omega)) .nil)))) rfl (.pure rfl)
end Go.Proofs.YtgfbghoihhnahaaGreat
end
section
set_option linter.unusedVariables false
set_option linter.unusedSimpArgs false
set_option maxHeartbeats 8000000
set_option maxRecDepth 100000
attribute [local irreducible] Go.Lg.opsL Go.Lg.wpL Go.Lg.thenL Go.Lg.blockL
namespace Go.Proofs.YtgfbghoihhnahaaGreat
open Go.Lg
namespace H_c_FCutE
theorem zSm {p q:Prop} (k:q) (e:p=q:=by simp only [e1,e2,e3,e4,p1,p2,p3,q1,q2,q3,l1,t0,t1,r1,r2,r3,r4,Nat.zero_add,Nat.reduceMul,Nat.reduceAdd,b1,b2,b3,b4,b5,b6,i1,i2,i3,i4,i5,i6,Nat.reduceBEq,List.set_cons_zero,List.set_cons_succ,Nat.reduceEqDiff,reduceIte,if_true,if_false,ptL_kill,poL_kill,kills_map ptE,kills_map poE,kills_map ratE,ratL_kill,spL_kill,LV.kill,kills];exact rfl):p:=e.mpr k
end H_c_FCutE
open H_c_FCutE in
theorem c_FCutE (d:Nat) (T:Rat) (po:List PoR) (hT:rl T≤1) (hT1:rl (T+1)≤1) (h9:d≤6) (lo hi:Rat) (hlo0:rl lo≤3) (hhi0:rl hi≤3) (k1:T≤lo) (k4:lo≤T+1) (hp0:0<po.length) (hbad:cmpR lo hi≥0∨hasR (T,T+1) hi=false):CallP Tryz.prog 56 [.agg [nI64 d,.list 3 ((kn0 d T).map ratL),.list 12 (po.map poL)],ratL lo,ratL hi] (.tup [.agg [.v (.int .i64 0),.v (.slice none 0 0),.v (.slice none 0 0)],iL 7]):=by
 have hcp:LV.pure (.agg [nI64 d,.list 3 ((kn0 d T).map ratL),.list 12 (po.map poL)])=true:=by simp [LV.pure,pures,pures_map ratE,pures_map poE]
 have hHa:CallP Tryz.prog 53 [spL (T,T+1),ratL lo] (bL true):=by
  have:=c_FHas (T,T+1) lo (by show rl T+rl lo≤_;omega) (by show rl lo+rl (T+1)≤_;omega)
  rwa [has_in k1 k4] at this
 have hHb:=c_FHas (T,T+1) hi (by show rl T+rl hi≤_;omega) (by show rl hi+rl (T+1)≤_;omega)
 refine fnP Tryz.func56 (ht:=(tame2 (by simp [LV.pure,pures]) rfl)) ?_
 refine zg12 ?_
 refine cp am1 (c_FDom d T po hT hT1 h9) ?_
 refine zg9 ?_
 refine cp am2 (c_FRCmp lo hi (by omega)) ?_
 refine zg2 ?_
 refine op_if 20 rfl (fun h20r h20=>?_) (fun h20r h20=>?_)
 ·refine zg23 ?_
  exact retCT [] rfl rfl rfl cs (at_all cs rfl) T36 (.pure (by simp [LV.pure,pures,buildL])) rfl (.pure rfl)
 ·refine zg2 ?_
  refine cp am2 (hHa) ?_
  refine zg3 ?_
  refine st_pure (guardX (v:=false) rfl rfl ((rfl)) rfl) ldA ?_
  refine st_pure (guardX (v:=false) rfl rfl ((rfl)) rfl) ldA ?_
  refine st_callP (guardX (v:=false) rfl rfl ((rfl)) rfl) (.cons im0 (.cons im0 .nil)) (hHb) ?_
  refine st_pure (guardX (v:=false) rfl rfl ((rfl)) rfl) (.not rfl) ?_
  refine st_pure rfl (.pickF rfl ((rfl))) ?_
  refine zg2 ?_
  refine wl_if rfl (fun h31r h31=>?_) (fun h31r h31=>?_)
  ·refine zg9 ?_
   exact retCT [] rfl rfl rfl cs (at_all cs rfl) T36 (.pure (by simp [LV.pure,pures,buildL])) rfl (.pure rfl)
  ·exfalso
   rcases hbad with c | c
   ·omega
   ·rw [c] at h31r;cases h31r
namespace H_c_CutE2
theorem zSm {p q:Prop} (k:q) (e:p=q:=by simp only [e1,e2,e3,e4,p1,p2,p3,q1,q2,q3,l1,t0,t1,r1,r2,r3,r4,Nat.zero_add,Nat.reduceMul,Nat.reduceAdd,b1,b2,b3,b4,b5,b6,i1,i2,i3,i4,i5,i6,Nat.reduceBEq,List.set_cons_zero,List.set_cons_succ,Nat.reduceEqDiff,reduceIte,if_true,if_false,ptL_kill,poL_kill,kills_map ptE,kills_map poE,kills_map ratE,ratL_kill,spL_kill,LV.kill,kills];exact rfl):p:=e.mpr k
end H_c_CutE2
open H_c_CutE2 in
theorem c_CutE2 (d:Nat) (T:Rat) (po:List PoR) (hT:rl T≤1) (hT1:rl (T+1)≤1) (h9:d≤6) (lo hi:Rat) (hlo0:rl lo≤3) (hhi0:rl hi≤3) (k1:T≤lo) (k4:lo≤T+1) (hp0:0<po.length) (hout:hasR (T,T+1) hi=false):CallP Tryz.prog 55 [.agg [nI64 d,.list 3 ((kn0 d T).map ratL),.list 12 (po.map poL)],ratL lo,ratL hi] (.tup [.agg [.v (.int .i64 0),.v (.slice none 0 0),.v (.slice none 0 0)],iL 7]):=by
 have hcp:LV.pure (.agg [nI64 d,.list 3 ((kn0 d T).map ratL),.list 12 (po.map poL)])=true:=by simp [LV.pure,pures,pures_map ratE,pures_map poE]
 have hTT:T<T+1:=by grind
 have hOx:CallP Tryz.prog 123 [.agg [nI64 d,.list 3 ((kn0 d T).map ratL),.list 12 (po.map poL)],ratL lo] (.tup [ratL ((lo-T)/(T+1-T)),ratL (T+1-T),bL true]):=by
  have:=c_own2 d T (T+1) po (by omega) (by omega) hTT h9 lo _ (by omega) k1 k4 rfl hp0
  rwa [kn2_0] at this
 have hOy:=c_ownE d T po hT hT1 h9 hi (by omega) hout hp0
 refine fnP Tryz.func55 (ht:=(tame2 (by simp [LV.pure,pures]) rfl)) ?_
 refine zg13 ?_
 refine cp am2 (hOx) ?_
 refine zg15 ?_
 refine cp am2 (hOy) ?_
 refine zg17 ?_
 refine st_pure (guardX (v:=false) rfl rfl ((rfl)) rfl) (.move _) ?_
 refine st_pure (guardX (v:=false) rfl rfl ((rfl)) rfl) (.not rfl) ?_
 refine st_pure rfl (.pickF rfl ((rfl))) ?_
 refine zg1 ?_
 refine st_skip (guardX (v:=true) rfl rfl ((rfl)) rfl) ?_
 refine st_skip (guardX (v:=true) rfl rfl ((rfl)) rfl) ?_
 refine st_skip (guardX (v:=true) rfl rfl ((rfl)) rfl) ?_
 refine st_skip (guardX (v:=true) rfl rfl ((rfl)) rfl) ?_
 refine st_pure rfl (.pickT rfl ((rfl))) ?_
 refine zg2 ?_
 refine wl_condX (b:=_) rfl (rfl) ?_
 refine zg9 ?_
 exact retCT [] rfl rfl rfl cs (at_all cs rfl) T36 (.pure (by simp [LV.pure,pures,buildL])) rfl (.pure rfl)
theorem cut_any (d:Nat) (T:Rat) (po:List PoR) (hT:rl T≤1) (hT1:rl (T+1)≤1) (h:cvF po d) (hd5:d≤5) (lo hi:Rat) (hlo0:rl lo≤3) (hhi0:rl hi≤3) (k1:T≤lo) (k4:lo≤T+1) (hrx:rl (1-(lo-T))+rl (lo-T)+1≤20) (hry:rl (1-(hi-T))+rl (hi-T)+1≤20) :
  ∃ (C:LV) (e:Int),(C.pure=true∧C.csize=3∧C.isAgg=true)∧CallP Tryz.prog 55 [.agg [nI64 d,.list 3 ((kn0 d T).map ratL),.list 12 (po.map poL)],ratL lo,ratL hi] (.tup [C,iL e])∧CallP Tryz.prog 56 [.agg [nI64 d,.list 3 ((kn0 d T).map ratL),.list 12 (po.map poL)],ratL lo,ratL hi] (.tup [C,iL e])∧CallP Tryz.prog 62 [C,C] (bL true):=by
 have h9:d≤6:=by omega
 have hp0:0<po.length:=by have:=h.hl;omega
 have hTT:T<T+1:=by grind
 by_cases hin:hasR (T,T+1) hi=true
 ·have hin':=hin
  unfold hasR at hin'
  simp only [Bool.and_eq_true,decide_eq_true_eq] at hin'
  by_cases hlt:lo<hi
  ·have hx0:0≤lo-T:=by grind
   have hx1:lo-T<1:=by grind
   have hy0:0≤hi-T:=by grind
   have hy1:hi-T≤1:=by grind
   have o1:∀ z:Rat,(z-T)/(T+1-T)=z-T:=fun z=>by rw [show T+1-T=1 by grind,div1]
   have g1:=c_Cut2 d T (T+1) po (by omega) (by omega) hTT h9 lo hi (lo-T) (hi-T) (by omega) (by omega) k1 hlt hin'.2 (o1 _) (o1 _) hx1 hrx hry 1 (by decide) h.r (fun k z hz=>Nat.le_trans ((h.n k).2 z hz) (by decide)) (fun z hz=>Nat.le_trans (h.w.2 z hz) (by decide)) hx0 hy0 hy1
   rw [kn2_0] at g1
   have hc:=cut_ok h.r hx0 hx1 hy0 hy1 (S:=20) hrx hry (by decide)
   refine⟨_,_,?_,g1,c_FCut d T po hT hT1 h9 lo hi hlo0 hhi0 k1 hlt hin'.2 h,c_FCvSame d (kn2 d lo hi) (cutP po (lo-T) (hi-T)) (by rw [kn2_len];omega) (kn2_rl (by omega) (by omega)) (by have:=hc.hl;omega) (fun q hq=>?_)⟩
   ·exact⟨by simp [LV.pure,pures,pures_map ratE,pures_map poE],rfl,rfl⟩
   ·obtain⟨z1,z2,z3⟩:=hc.ok q hq
    exact⟨z1.le (by decide),by omega,z3⟩
  ·have hge:hi≤lo:=by grind
   have g1:=c_CutE d T (T+1) po (by omega) (by omega) hTT h9 lo hi (by omega) (by omega) k1 hin'.1 hge hin'.2 k4 hp0
   rw [kn2_0] at g1
   exact⟨_,_,⟨by simp [LV.pure,pures],rfl,rfl⟩,g1,c_FCutE d T po hT hT1 h9 lo hi hlo0 hhi0 k1 k4 hp0 (.inl (cmpR_ge.2 hge)),c_FCvSame0⟩
 ·have hout:hasR (T,T+1) hi=false:=by simpa using hin
  exact⟨_,_,⟨by simp [LV.pure,pures],rfl,rfl⟩,c_CutE2 d T po hT hT1 h9 lo hi hlo0 hhi0 k1 k4 hp0 hout,c_FCutE d T po hT hT1 h9 lo hi hlo0 hhi0 k1 k4 hp0 (.inr hout),c_FCvSame0⟩
namespace H_c_BzChk
theorem zSm {p q:Prop} (k:q) (e:p=q:=by simp only [e1,e2,e3,e4,p1,p2,p3,q1,q2,q3,l1,t0,t1,r1,r2,r3,r4,Nat.zero_add,Nat.reduceMul,Nat.reduceAdd,b1,b2,b3,b4,b5,b6,i1,i2,i3,i4,i5,i6,Nat.reduceBEq,List.set_cons_zero,List.set_cons_succ,Nat.reduceEqDiff,reduceIte,if_true,if_false,ptL_kill,poL_kill,kills_map ptE,kills_map poE,kills_map ratE,ratL_kill,spL_kill,LV.kill,kills];exact rfl):p:=e.mpr k
end H_c_BzChk
open H_c_BzChk in
theorem c_BzChk (d:Nat) (kn:List Rat) (po:List PoR) (hk:kOK kn d) (hpo:po.length=kn.length-d-1) (hq1:∀ q∈po,okP 1 q):CallP Tryz.prog 57 [.agg [nI64 d,.list 3 (kn.map ratL),.list 12 (po.map poL)]] (iL (if po.length=d+1 then 0 else 5)):=by
 have hcp:LV.pure (.agg [nI64 d,.list 3 (kn.map ratL),.list 12 (po.map poL)])=true:=by simp [LV.pure,pures,pures_map ratE,pures_map poE]
 have hd6:=hk.d6
 have hmax:=hk.max
 have hq:∀ q∈po,okP 64 q:=fun q hx=>by obtain⟨a,b,c⟩:=hq1 q hx;exact⟨a.le (by decide),by omega,c⟩
 refine fnP Tryz.func57 ?_
 refine zg10 ?_
 refine cp am1 (c_CCheck d kn po hk hpo hq) ?_
 refine zg9 ?_
 refine wl_if rfl (fun h7r h7=>?_) (fun h7r h7=>?_)
 ·first | exact h7.elim | cases h7r | exact absurd h7r (by decide)
 ·refine zg10 ?_
  refine st_pure rfl (.bin rfl rfl (add64 (by omega) (by omega))) ?_
  refine zg3 ?_
  refine wl_if rfl (fun h15r h15=>?_) (fun h15r h15=>?_)
  ·have hV:¬po.length=d+1:=by omega
   refine zg7 ?_
   first | (rw [if_pos hV];exact ret1 rfl (.pure rfl)) | (rw [if_neg hV];exact ret1 rfl (.pure rfl))
  ·have hV:po.length=d+1:=by omega
   refine zg8 ?_
   first | (rw [if_pos hV];exact ret1 rfl (.pure rfl)) | (rw [if_neg hV];exact ret1 rfl (.pure rfl))
theorem chk_any (d:Nat) (kn:List Rat) (po:List PoR) (hk:kOK kn d) (hpo:po.length=kn.length-d-1) (hq1:∀ q∈po,okP 1 q):∃ e:Int,CallP Tryz.prog 57 [.agg [nI64 d,.list 3 (kn.map ratL),.list 12 (po.map poL)]] (iL e)∧CallP Tryz.prog 58 [.agg [nI64 d,.list 3 (kn.map ratL),.list 12 (po.map poL)]] (iL e):=by
 refine⟨_,c_BzChk d kn po hk hpo hq1,?_⟩
 have:=c_FCk11 d kn po hk hpo (fun q hx=>by obtain⟨a,b,c⟩:=hq1 q hx;exact⟨a.le (by decide),by omega,c⟩)
 rwa [if_pos ⟨shL_ok (R:=64) (by decide) hk.sz,shP_ok (R:=1) (by decide) hq1⟩] at this
namespace H_c_BezierReads
theorem zSm {p q:Prop} (k:q) (e:p=q:=by simp only [e1,e2,e3,e4,p1,p2,p3,q1,q2,q3,l1,t0,t1,r1,r2,r3,r4,Nat.zero_add,Nat.reduceMul,Nat.reduceAdd,b1,b2,b3,b4,b5,b6,i1,i2,i3,i4,i5,i6,Nat.reduceBEq,fz0,dfq,eCk,List.set_cons_zero,List.set_cons_succ,Nat.reduceEqDiff,reduceIte,if_true,if_false,ptL_kill,poL_kill,kills_map ptE,kills_map poE,kills_map ratE,ratL_kill,spL_kill,LV.kill,kills,dice_kill];exact rfl):p:=e.mpr k
end H_c_BezierReads
open H_c_BezierReads in
theorem c_BezierReads (l:List Int) (inner i j:Int) (hl:l.length≤9223372036854775807∧∀ n∈l,-9223372036854775808≤n∧n≤9223372036854775807) (hn:-9223372036854775808≤inner∧inner≤9223372036854775807) (hi:-9223372036854775808≤i∧i≤9223372036854775807) (hj:-9223372036854775808≤j∧j≤9223372036854775807):CallP Tryz.prog 8 [.list 1 (l.map i64L),iL inner,iL i,iL j] (bL true):=by
 have hlt:=hl.1
 obtain⟨hd1,hd2,hd3⟩:=cD_in (n:=5) l 0 (by decide)
 obtain⟨hT,hT1⟩:rl (cT l 0)≤1∧rl ((cT l 0)+1)≤1:=dt_rl l (nxK l 0)
 have hcv:cvF (cP l 0 5) (cD l 0 5):=⟨cP_len l 0 5,hd1,by omega,cP_ok l 0 5⟩
 have hcp:LV.pure (.agg [nI64 (cD l 0 5),.list 3 ((kn0 (cD l 0 5) (cT l 0)).map ratL),.list 12 ((cP l 0 5).map poL)])=true:=by simp [LV.pure,pures,pures_map ratE,pures_map poE]
 have hxp:LV.pure (.agg [nI64 (cD l 0 3),.list 3 ((xK l 0 3 (1+inner % 2).toNat).map ratL),.list 12 ((xP l 0 3 (1+inner % 2).toNat).map poL)])=true:=by simp [LV.pure,pures,pures_map ratE,pures_map poE]
 have h9:(cD l 0 5)≤6:=by omega
 have hS3:bdS 1 ((cT l 0),(cT l 0)+1):=⟨hT,hT1⟩
 have hpi:rl ((cT l 0)+ptV i)≤3:=wi_rl hT i
 have hpj:rl ((cT l 0)+ptV j)≤3:=wi_rl hT j
 obtain⟨wi1,wi2⟩:=wi_in (cT l 0) i
 have rli:=ptV_rl i
 have hr1:rl 1=1:=rfl
 have hpl:=hcv.hl
 have hm2:0≤inner % 2∧inner % 2<2:=⟨Int.emod_nonneg _ (by decide),Int.emod_lt_of_pos _ (by decide)⟩
 have eM:(((1+inner % 2).toNat:Nat):Int)=1+inner % 2:=by omega
 have hmM:(1+inner % 2).toNat≤2:=by omega
 have hAM:binI .add .i64 1 (inner % 2)=some (.int .i64 (((1+inner % 2).toNat:Nat):Int)):=by rw [eM];exact add64 (by omega) (by omega)
 have hrx:rl (1-(((cT l 0)+ptV i)-(cT l 0)))+rl (((cT l 0)+ptV i)-(cT l 0))+1≤20:=by
  rw [show ((cT l 0)+ptV i)-(cT l 0)=ptV i by grind]
  have:=rl_sub 1 (ptV i)
  omega
 have hpA:LV.pure (.agg [.list 3 ((nmP (cP l 0 5) 0).map ratL),.list 3 ((nmP (cP l 0 5) 1).map ratL),.list 3 ((nmP (cP l 0 5) 2).map ratL),.list 3 ((wtP (cP l 0 5)).map ratL)])=true:=by simp [LV.pure,pures,pures_map ratE]
 have hNP:∀ n,∀ z∈nmP (cP l 0 5) n,rl z≤100000:=fun n z hz=>Nat.le_trans ((hcv.n n).2 z hz) (by decide)
 have hWP:∀ z∈wtP (cP l 0 5),rl z≤100000:=fun z hz=>Nat.le_trans (hcv.w.2 z hz) (by decide)
 have hpb:∀ i,i<((cP l 0 5).map (·.p)).length→bd3 1 (((cP l 0 5).map (·.p)).getD i default):=fun i hi=>ps_bd hcv.ok (by rw [List.length_map] at hi;exact hi)
 have hBx:bdB 1000000 (bxP ((cP l 0 5).map (·.p))):=⟨bdS.le (bxN_bd hpb 0 _ (by rw [List.length_map];omega)) (by decide),bdS.le (bxN_bd hpb 1 _ (by rw [List.length_map];omega)) (by decide),bdS.le (bxN_bd hpb 2 _ (by rw [List.length_map];omega)) (by decide)⟩
 have hWi:CallP Tryz.prog 25 [spL ((cT l 0),(cT l 0)+1),iL i] (ratL ((cT l 0)+ptV i)):=by
  have:=c_Within ((cT l 0),(cT l 0)+1) i 1 (by decide) hS3 hi
  rwa [wi_one] at this
 have hWj:CallP Tryz.prog 25 [spL ((cT l 0),(cT l 0)+1),iL j] (ratL ((cT l 0)+ptV j)):=by
  have:=c_Within ((cT l 0),(cT l 0)+1) j 1 (by decide) hS3 hj
  rwa [wi_one] at this
 have hKn:kOK (kn0 (cD l 0 5) (cT l 0)) (cD l 0 5):=kn0_ok hd1 h9 (by omega) (by omega)
 have hCk0:=c_BzCheck (cD l 0 5) (kn0 (cD l 0 5) (cT l 0)) (cP l 0 5) hcv hKn (kn0_len _ _)
 refine fnP Tryz.func8 ?_
 have eCk:True:=trivial
 refine zg9 ?_
 refine cp am1 (c_Light l hlt) ?_
 refine zg3 ?_
 refine wl_if rfl (fun h20r h20=>?_) (fun h20r h20=>?_)
 ·refine zg2 ?_
  refine cp am0 (c_awake11) ?_
  refine zg5 ?_
  exact ret1 rfl (.pure rfl)
 ·have hl5:l.length≤500:=by simpa using h20
  obtain⟨hKx,hKxl,_,_⟩:=xK_in l 0 (n:=3) (m:=(1+inner % 2).toNat) hl5 (by omega) (by decide) (by decide) hmM
  obtain⟨e1v,hE1,hE2⟩:=chk_any (cD l 0 3) (xK l 0 3 (1+inner % 2).toNat) (xP l 0 3 (1+inner % 2).toNat) hKx (by rw [xP_len];omega) (xP_ok l 0 3 _)
  refine zg5 ?_
  refine st_call1 [] rfl rfl (.cons im0 .nil) (c_Roll l) (dice_pure l 0) rfl ?_
  refine zg1 ?_
  refine cp am2 (c_Mod inner 2 (by decide) (by decide)) ?_
  refine st_pure rfl (.bin rfl rfl (hAM)) ?_
  refine st_callMp 1000369 rfl rfl rfl (dice_pure l _) (.cons .ptr (.cons (.imm (.pure rfl)) (.cons (.imm (.pure rfl)) (.cons (.imm (.pure rfl)) .nil)))) .ptr (c_DCurveI l 0 hl5 3 (by decide) (by decide) (1+inner % 2).toNat hmM (Nat.zero_le _)) rfl (dice_pure l _) hxp ?_
  refine zg7 ?_
  refine cp am1 (c_made11 l hl5) ?_
  refine zg7 ?_
  refine cp am1 (c_FDom (cD l 0 5) (cT l 0) (cP l 0 5) hT hT1 h9) ?_
  refine zg5 ?_
  refine wl_regD 8 (by decide +kernel) ?_
  refine zg2 ?_
  refine cp am2 (hWi) ?_
  refine zg2 ?_
  refine cp am2 (hWj) ?_
  refine zg10 ?_
  refine cp am2 (c_Mod i 8 (by decide) (by decide)) ?_
  refine zg3 ?_
  refine wl_if rfl (fun h40r h40=>?_) (fun h40r h40=>?_)
  ·have hrt:=rtV_rl j i
   have hsj:=rl_sub (rtV j i) (cT l 0)
   have hsj1:=rl_sub 1 (rtV j i-(cT l 0))
   obtain⟨C,e,⟨hCp,hCs,hCa⟩,hC1,hC2,hC3⟩:=cut_any (cD l 0 5) (cT l 0) (cP l 0 5) hT hT1 hcv hd2 ((cT l 0)+ptV i) (rtV j i) hpi (by omega) wi1 wi2 hrx (by omega)
   have eCk:∀ b,C.kill b=C:=fun b=>LV.kill_pure b C hCp
   have hCt:=LV.pure_ne_tup hCp
   have hCn:=LV.pure_ne_any hCp
   refine zg3 ?_
   refine cp am2 (c_MRat j i hj hi) ?_
   refine zg8 ?_
   refine cp am3 (hC1) ?_
   refine zg1 ?_
   refine st_pure rfl (.extract (r:=C) rfl rfl hCt) ?_
   refine zg2 ?_
   refine st_store rfl (.store (y:=.agg [.v (.int .i64 0),.v (.slice none 0 0),.v (.slice none 0 0)]) (y':=C) rfl rfl rfl rfl rfl rfl (put_all (Eq.trans cs hCs.symm) rfl hCa) (by show TyIs _ _ C.csize C.isAgg;rw [hCs,hCa];exact T36) ⟨hCn,hCt⟩) ?_
   refine zg8 ?_
   refine cp am3 (hC2) ?_
   refine zg1 ?_
   refine st_pure rfl (.extract (r:=C) rfl rfl hCt) ?_
   refine zg2 ?_
   refine st_store rfl (.store (y:=.agg [.v (.int .i64 0),.v (.slice none 0 0),.v (.slice none 0 0)]) (y':=C) rfl rfl rfl rfl rfl rfl (put_all (Eq.trans cs hCs.symm) rfl hCa) (by show TyIs _ _ C.csize C.isAgg;rw [hCs,hCa];exact T36) ⟨hCn,hCt⟩) ?_
   refine zg4 ?_
   refine wl_regD 38 (by decide +kernel) ?_
   refine zg1 ?_
   refine cp am1 (hE1) ?_
   refine zg1 ?_
   refine cp am1 (hE2) ?_
   refine zg2 ?_
   refine st_pure (guardX (v:=true) rfl rfl ((beq_self_eq_true _)) rfl) ldA ?_
   refine st_callP (guardX (v:=true) rfl rfl ((beq_self_eq_true _)) rfl) (.cons im0 .nil) (hCk0) ?_
   refine st_pure (guardX (v:=true) rfl rfl ((beq_self_eq_true _)) rfl) (.bin rfl rfl rfl) ?_
   refine st_pure rfl (.pickT rfl ((beq_self_eq_true _))) ?_
   refine zg1 ?_
   refine st_pure (guardX (v:=true) rfl rfl ((rfl)) rfl) ldA ?_
   refine st_callP (guardX (v:=true) rfl rfl ((rfl)) rfl) (.cons im0 .nil) (c_BNum (cD l 0 5) (kn0 (cD l 0 5) (cT l 0)) (cP l 0 5) hcv) ?_
   refine st_pure (guardX (v:=true) rfl rfl ((rfl)) rfl) ldA ?_
   refine st_callP (guardX (v:=true) rfl rfl ((rfl)) rfl) (.cons im0 .nil) (c_FNum (cD l 0 5) (kn0 (cD l 0 5) (cT l 0)) (cP l 0 5) hcv) ?_
   refine st_callP (guardX (v:=true) rfl rfl ((rfl)) rfl) (.cons im0 (.cons im0 .nil)) (c_samePo (cP l 0 5) (by omega) hNP hWP) ?_
   refine st_pure rfl (.pickT rfl ((rfl))) ?_
   refine zg2 ?_
   refine cp am1 (c_Box (cD l 0 5) (kn0 (cD l 0 5) (cT l 0)) (cP l 0 5) hcv) ?_
   refine zg1 ?_
   refine cp am1 (c_FBox (cD l 0 5) (kn0 (cD l 0 5) (cT l 0)) (cP l 0 5) hcv) ?_
   refine st_callP (guardX (v:=true) rfl rfl (rfl) rfl) (.cons (.pure (bxE.pure _)) (.cons (.pure (bxE.pure _)) .nil)) (c_FBxSame _ hBx) ?_
   refine zg7 ?_
   refine st_pure (guardX (v:=true) rfl rfl ((beq_self_eq_true _)) rfl) (.loadE rfl rfl rfl rfl hCs (at_all hCs hCa) T36) ?_
   refine st_pure (guardX (v:=true) rfl rfl ((beq_self_eq_true _)) rfl) (.loadE rfl rfl rfl rfl hCs (at_all hCs hCa) T36) ?_
   refine st_callP (guardX (v:=true) rfl rfl ((beq_self_eq_true _)) rfl) (.cons im0 (.cons im0 .nil)) (hC3) ?_
   refine st_pure rfl (.pickT rfl ((beq_self_eq_true _))) ?_
   refine zg1 ?_
   refine cp am0 (c_awake11) ?_
   refine zg5 ?_
   exact ret1 rfl (.pure rfl)
  ·have hry:rl (1-(((cT l 0)+ptV j)-(cT l 0)))+rl (((cT l 0)+ptV j)-(cT l 0))+1≤20:=by
    rw [show ((cT l 0)+ptV j)-(cT l 0)=ptV j by grind]
    have:=ptV_rl j
    have:=rl_sub 1 (ptV j)
    omega
   obtain⟨C,e,⟨hCp,hCs,hCa⟩,hC1,hC2,hC3⟩:=cut_any (cD l 0 5) (cT l 0) (cP l 0 5) hT hT1 hcv hd2 ((cT l 0)+ptV i) ((cT l 0)+ptV j) hpi hpj wi1 wi2 hrx hry
   have eCk:∀ b,C.kill b=C:=fun b=>LV.kill_pure b C hCp
   have hCt:=LV.pure_ne_tup hCp
   have hCn:=LV.pure_ne_any hCp
   refine zg7 ?_
   refine cp am3 (hC1) ?_
   refine zg1 ?_
   refine st_pure rfl (.extract (r:=C) rfl rfl hCt) ?_
   refine zg2 ?_
   refine st_store rfl (.store (y:=.agg [.v (.int .i64 0),.v (.slice none 0 0),.v (.slice none 0 0)]) (y':=C) rfl rfl rfl rfl rfl rfl (put_all (Eq.trans cs hCs.symm) rfl hCa) (by show TyIs _ _ C.csize C.isAgg;rw [hCs,hCa];exact T36) ⟨hCn,hCt⟩) ?_
   refine zg8 ?_
   refine cp am3 (hC2) ?_
   refine zg1 ?_
   refine st_pure rfl (.extract (r:=C) rfl rfl hCt) ?_
   refine zg2 ?_
   refine st_store rfl (.store (y:=.agg [.v (.int .i64 0),.v (.slice none 0 0),.v (.slice none 0 0)]) (y':=C) rfl rfl rfl rfl rfl rfl (put_all (Eq.trans cs hCs.symm) rfl hCa) (by show TyIs _ _ C.csize C.isAgg;rw [hCs,hCa];exact T36) ⟨hCn,hCt⟩) ?_
   refine zg4 ?_
   refine wl_regD 38 (by decide +kernel) ?_
   refine zg1 ?_
   refine cp am1 (hE1) ?_
   refine zg1 ?_
   refine cp am1 (hE2) ?_
   refine zg2 ?_
   refine st_pure (guardX (v:=true) rfl rfl ((beq_self_eq_true _)) rfl) ldA ?_
   refine st_callP (guardX (v:=true) rfl rfl ((beq_self_eq_true _)) rfl) (.cons im0 .nil) (hCk0) ?_
   refine st_pure (guardX (v:=true) rfl rfl ((beq_self_eq_true _)) rfl) (.bin rfl rfl rfl) ?_
   refine st_pure rfl (.pickT rfl ((beq_self_eq_true _))) ?_
   refine zg1 ?_
   refine st_pure (guardX (v:=true) rfl rfl ((rfl)) rfl) ldA ?_
   refine st_callP (guardX (v:=true) rfl rfl ((rfl)) rfl) (.cons im0 .nil) (c_BNum (cD l 0 5) (kn0 (cD l 0 5) (cT l 0)) (cP l 0 5) hcv) ?_
   refine st_pure (guardX (v:=true) rfl rfl ((rfl)) rfl) ldA ?_
   refine st_callP (guardX (v:=true) rfl rfl ((rfl)) rfl) (.cons im0 .nil) (c_FNum (cD l 0 5) (kn0 (cD l 0 5) (cT l 0)) (cP l 0 5) hcv) ?_
   refine st_callP (guardX (v:=true) rfl rfl ((rfl)) rfl) (.cons im0 (.cons im0 .nil)) (c_samePo (cP l 0 5) (by omega) hNP hWP) ?_
   refine st_pure rfl (.pickT rfl ((rfl))) ?_
   refine zg2 ?_
   refine cp am1 (c_Box (cD l 0 5) (kn0 (cD l 0 5) (cT l 0)) (cP l 0 5) hcv) ?_
   refine zg1 ?_
   refine cp am1 (c_FBox (cD l 0 5) (kn0 (cD l 0 5) (cT l 0)) (cP l 0 5) hcv) ?_
   refine st_callP (guardX (v:=true) rfl rfl (rfl) rfl) (.cons (.pure (bxE.pure _)) (.cons (.pure (bxE.pure _)) .nil)) (c_FBxSame _ hBx) ?_
   refine zg7 ?_
   refine st_pure (guardX (v:=true) rfl rfl ((beq_self_eq_true _)) rfl) (.loadE rfl rfl rfl rfl hCs (at_all hCs hCa) T36) ?_
   refine st_pure (guardX (v:=true) rfl rfl ((beq_self_eq_true _)) rfl) (.loadE rfl rfl rfl rfl hCs (at_all hCs hCa) T36) ?_
   refine st_callP (guardX (v:=true) rfl rfl ((beq_self_eq_true _)) rfl) (.cons im0 (.cons im0 .nil)) (hC3) ?_
   refine st_pure rfl (.pickT rfl ((beq_self_eq_true _))) ?_
   refine zg1 ?_
   refine cp am0 (c_awake11) ?_
   refine zg5 ?_
   exact ret1 rfl (.pure rfl)
end Go.Proofs.YtgfbghoihhnahaaGreat
end
