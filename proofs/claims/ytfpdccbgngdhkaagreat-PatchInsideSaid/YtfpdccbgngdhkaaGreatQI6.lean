/- Texts LgS, K26, LgT, Y1, T1, T2, T3, T6, T7, T8, T9, T15, T16, Y2, Y3, Y0, Y4, Y5 of this proof, joined. -/
import Derived.Test.YtfpdccbgngdhkaaGreatQI5
set_option linter.unusedVariables false
set_option linter.unusedSimpArgs false
section
set_option linter.unusedVariables false
set_option linter.unusedSimpArgs false
namespace Go.Lg
def plainOp:Op→Bool
 | .move _=>true
 | .pick ..=>true
 | .binOp ..=>true
 | .load ..=>true
 | .fieldAddr ..=>true
 | .indexAddr ..=>true
 | .call ⟨.builtin .len,_,_⟩=>true
 | _=>false
theorem plain_tail {op:Op} (h:plainOp op=true):opTail op=false:=by
 unfold plainOp at h
 split at h<;>first | rfl | cases h
section
variable {P:Program} {H:Heap} {ρ ρ':Operand→LV}
theorem OpP.cong {op:Op} {r:LV} (h:OpP P H ρ op r) (hp:plainOp op=true) (hr:∀ x∈op.operands,ρ' x=ρ x):OpP P H ρ' op r:=by
 cases h with
 | move x=>rw [←hr x (by simp [Op.operands])];exact .move x
 | pick hc =>
  rename_i c x y t
  have e1:=hr x (by simp [Op.operands])
  have e2:=hr y (by simp [Op.operands])
  have:=OpP.pick (P:=P) (H:=H) (ρ:=ρ') (x:=x) (y:=y) ((hr _ (by simp [Op.operands])).trans hc)
  rw [e1,e2] at this
  exact this
 | bin hx hy h=>exact .bin ((hr _ (by simp [Op.operands])).trans hx) ((hr _ (by simp [Op.operands])).trans hy) h
 | sh hx hy h=>exact .sh ((hr _ (by simp [Op.operands])).trans hx) ((hr _ (by simp [Op.operands])).trans hy) h
 | beq hx hy hT=>exact .beq ((hr _ (by simp [Op.operands])).trans hx) ((hr _ (by simp [Op.operands])).trans hy) hT
 | bne hx hy hT=>exact .bne ((hr _ (by simp [Op.operands])).trans hx) ((hr _ (by simp [Op.operands])).trans hy) hT
 | addS hx hy h=>exact .addS ((hr _ (by simp [Op.operands])).trans hx) ((hr _ (by simp [Op.operands])).trans hy) h
 | eqS hx hy=>exact .eqS ((hr _ (by simp [Op.operands])).trans hx) ((hr _ (by simp [Op.operands])).trans hy)
 | eqN hx hy hT=>exact .eqN ((hr _ (by simp [Op.operands])).trans hx) ((hr _ (by simp [Op.operands])).trans hy) hT
 | eqNL hx hy hT=>exact .eqNL ((hr _ (by simp [Op.operands])).trans hx) ((hr _ (by simp [Op.operands])).trans hy) hT
 | fieldAddrB hq hT hr'=>exact .fieldAddrB ((hr _ (by simp [Op.operands])).trans hq) hT hr'
 | fieldAddrE hq hT hk=>exact .fieldAddrE ((hr _ (by simp [Op.operands])).trans hq) hT hk
 | loadB hq hT hc=>exact .loadB ((hr _ (by simp [Op.operands])).trans hq) hT hc
 | loadE hq hb hs hi hx hr' hT=>exact .loadE ((hr _ (by simp [Op.operands])).trans hq) hb hs hi hx hr' hT
 | idxAE hx hT hE hi h0 hm=>exact .idxAE ((hr _ (by simp [Op.operands])).trans hx) hT hE ((hr _ (by simp [Op.operands])).trans hi) h0 hm
 | idxAB hx hT hE hf hi h0 hr'=>exact .idxAB ((hr _ (by simp [Op.operands])).trans hx) hT hE hf ((hr _ (by simp [Op.operands])).trans hi) h0 hr'
 | idxL hx hT hE hi h0 hr' hc=>exact .idxL ((hr _ (by simp [Op.operands])).trans hx) hT hE ((hr _ (by simp [Op.operands])).trans hi) h0 hr' hc
 | idxR hx hT hE hi h0 hn=>exact .idxR ((hr _ (by simp [Op.operands])).trans hx) hT hE ((hr _ (by simp [Op.operands])).trans hi) h0 hn
 | lenL hx has hT=>exact .lenL ((hr _ (by simp [Op.operands,Call.operands])).trans hx) has hT
 | lenR hx has hT=>exact .lenR ((hr _ (by simp [Op.operands,Call.operands])).trans hx) has hT
 | lenN hx has hT=>exact .lenN ((hr _ (by simp [Op.operands,Call.operands])).trans hx) has hT
 | _=>first | (cases hp;done) | (simp [plainOp] at hp;done)
end
def doneTo (n e:Nat):Array Bool:=((List.range n).map fun i=>decide (i<e)).toArray
theorem doneTo_get {n e i:Nat} (h:i<n):(doneTo n e).getD i false=decide (i<e):=by
 unfold doneTo
 rw [Array.getD_eq_getD_getElem?]
 simp [h]
theorem doneTo_size (n e:Nat):(doneTo n e).size=n:=by simp [doneTo]
theorem doneTo_eq {n e:Nat} {D:Array Bool} (hs:D.size=n) (h:∀ i,i<n→D.getD i false=decide (i<e)):D=doneTo n e:=by
 refine Array.ext (by rw [doneTo_size,hs]) fun i h1 h2=>?_
 have e1:=h i (by omega)
 have e2:=doneTo_get (n:=n) (e:=e) (i:=i) (by omega)
 rw [Array.getD_eq_getD_getElem?,Array.getElem?_eq_getElem h1] at e1
 rw [Array.getD_eq_getD_getElem?,Array.getElem?_eq_getElem h2] at e2
 simp only [Option.getD_some] at e1 e2
 rw [e1,e2]
def segOk (ops:Array Oper) (s e:Nat):Bool :=
 decide (s≤e) && decide (e≤ops.size) && ((List.range ops.size).all fun i=>(dirs (ops.getD i default)).all (·<i)) &&
 ((List.range e).all fun i=>decide (i<s) || plainOp (ops.getD i default).op) &&
 ((List.range e).all fun i=>(List.range e).all fun j=>decide (i<s) || decide (j<s) || i==j || okPair ops (bef ops.toList []) i j) &&
 ((List.range ops.size).all fun i=>decide (i<e) || (List.range e).all fun j=>decide (j<s) || ((bef ops.toList []).getD i 0).testBit j)
section
variable {P:Program} {ops:Array Oper}
theorem anyL_fuel {K:St→Prop}:∀ (n:Nat) (D:Array Bool) (L:St),anyL P ops n D L K→anyL P ops (n+1) D L K
 | 0,D,L,h=>⟨fun _=>h.2,fun i hi=>by rw [h.1] at hi;cases hi⟩
 | n+1,D,L,h=>⟨h.1,fun i hi=>by
  obtain⟨o,L',h1,h2,h3⟩:=h.2 i hi
  exact⟨o,L',h1,h2,anyL_fuel n _ _ h3⟩⟩
open Classical in
noncomputable def slotG (ops:Array Oper) (g:Nat→St) (s e:Nat) (D:Array Bool) (t:Nat):LV :=
 if ∃ i o,s≤i∧i<e∧D.getD i false=true∧ops[i]?=some o∧o.dst=some t then(g e).slot t else(g s).slot t
theorem any_seg {fuel:Nat} {K:St→Prop} {L:St} {D:Array Bool} (s e:Nat) (l:List Oper) (hD:D=doneTo ops.size s) (hl:l=(ops.toList.drop s).take (e-s)) (hok:segOk ops s e=true)
  (h:opsL P true ops l L (fun L'=>anyL P ops fuel (doneTo ops.size e) L' K)):anyL P ops (fuel+(e-s)) D L K:=by
 unfold segOk at hok
 simp only [Bool.and_eq_true,decide_eq_true_eq,List.all_eq_true,List.mem_range,Bool.or_eq_true] at hok
 obtain⟨⟨⟨⟨⟨hse,hen⟩,h1⟩,h2⟩,h3⟩,h4⟩:=hok
 have getD_of:∀ i o,ops[i]?=some o→ops.getD i default=o:=fun i o h=>by rw [Array.getD_eq_getD_getElem?,h];rfl
 have lt_of:∀ i o,ops[i]?=some o→i<ops.size:=fun i o h=>(Array.getElem?_eq_some_iff.1 h).1
 have some_of:∀ i,i<ops.size→∃ o,ops[i]?=some o:=fun i h=>⟨_,Array.getElem?_eq_getElem h⟩
 have hanc:=bef_anc ops ops.toList [] (fun i=>by simp) (fun i t h=>by simp at h)
 have hdir:∀ i o,ops[i]?=some o→∀ j∈dirs o,j<i:=fun i o h j hj=>h1 i (lt_of i o h) j (by rw [getD_of i o h];exact hj)
 have hplain:∀ i o,ops[i]?=some o→s≤i→i<e→plainOp o.op=true:=fun i o h a b=>by
  rcases h2 i b with c | c
  ·omega
  ·rw [getD_of i o h] at c;exact c
 have htail:∀ i,i<ops.size→e≤i→∀ j,s≤j→j<e→Anc ops j i:=fun i hi a j b c=>by
  rcases h4 i hi with q | q
  ·omega
  ·rcases q j c with q | q
   ·omega
   ·exact hanc i j q
 have hpair:∀ i j oi oj d,ops[i]?=some oi→ops[j]?=some oj→s≤i→i<e→s≤j→j<e→i≠j→oj.dst=some d→oi.dst≠some d∧(d∈oi.looksAt ops→if j<i then Anc ops j i else Anc ops i j):=by
  intro i j oi oj d hi hj si ei sj ej hne hdj
  rcases h3 i ei j ej with((q | q) | q) | q
  ·omega
  ·omega
  ·exact absurd (by simpa using q) hne
  ·unfold okPair at q
   rw [getD_of j oj hj,getD_of i oi hi,hdj] at q
   simp only [Bool.and_eq_true,bne_iff_ne,ne_eq,Bool.or_eq_true,Bool.not_eq_true'] at q
   refine⟨q.1,fun hmem=>?_⟩
   rcases q.2 with h' | h'
   ·rw [List.contains_iff_mem.2 hmem] at h';cases h'
   ·split at h'<;>rename_i hlt
    ·rw [if_pos hlt];exact hanc i j h'
    ·rw [if_neg hlt];exact hanc j i h'
 obtain⟨f,f0,fs,fK⟩:=opsL_chain _ _ h
 have hlen:l.length=e-s:=by rw [hl];simp;omega
 obtain⟨g,hg⟩:∃ g:Nat→St,g=fun i=>f (i-s):=⟨_,rfl⟩
 have gs0:g s=L:=by rw [hg];simp only [Nat.sub_self];exact f0
 have ge0:g e=f l.length:=by rw [hg,hlen]
 have gst:∀ i o,ops[i]?=some o→s≤i→i<e→Step P true ops o (g i) (g (i+1)):=fun i o h a b=>by
  have:=fs (i-s) o (by
   rw [hl,List.getElem?_take,if_pos (by omega),List.getElem?_drop,show s+(i-s)=i by omega]
   simpa using h)
  rw [hg]
  simp only
  rw [show i+1-s=i-s+1 by omega]
  exact this
 rw [←ge0] at fK
 have hstep:∀ i o,ops[i]?=some o→s≤i→i<e→(g i).heap.le (g (i+1)).heap∧∀ t,o.dst≠some t→(g (i+1)).slot t=(g i).slot t:=fun i o h a b=>step_tail (plain_tail (hplain i o h a b)) (gst i o h a b)
 have hle:∀ i j,s≤i→i≤j→j≤e→(g i).heap.le (g j).heap:=by
  intro i j si hij
  induction j with
  | zero =>
   intro _
   obtain rfl:i=0:=by omega
   exact Heap.le_refl _
  | succ j ih =>
   intro hjm
   by_cases c:i=j+1
   ·subst c;exact Heap.le_refl _
   ·obtain⟨o,ho⟩:=some_of j (by omega)
    exact Heap.le_trans (ih (by omega) (by omega)) (hstep j o ho (by omega) (by omega)).1
 have hconst:∀ i j t,s≤i→i≤j→j≤e→(∀ k o,i≤k→k<j→ops[k]?=some o→o.dst≠some t)→(g j).slot t=(g i).slot t:=by
  intro i j t si hij
  induction j with
  | zero =>
   intro _ _
   obtain rfl:i=0:=by omega
   rfl
  | succ j ih =>
   intro hjm hk
   by_cases c:i=j+1
   ·subst c;rfl
   ·obtain⟨o,ho⟩:=some_of j (by omega)
    rw [(hstep j o ho (by omega) (by omega)).2 t (hk j o (by omega) (by omega) ho)]
    exact ih (by omega) (by omega) (fun k o a b=>hk k o a (by omega))
 have hslot:∀ i o t,ops[i]?=some o→s≤i→i<e→o.dst=some t→(g e).slot t=(g (i+1)).slot t:=fun i o t ho si ei hdt =>
  hconst (i+1) e t (by omega) (by omega) (Nat.le_refl _) (fun k ok a b hk q=>(hpair i k o ok t ho hk si ei (by omega) b (by omega) q).1 hdt)
 let closed:Array Bool→Prop:=fun D=>∀ i o,ops[i]?=some o→D.getD i false=true→∀ j∈dirs o,D.getD j false=true
 have hclosed:∀ D,closed D→∀ j i,Anc ops j i→(∀ o,ops[i]?=some o→∀ k∈dirs o,D.getD k false=true)→D.getD j false=true:=by
  intro D hD j i hA
  induction hA with
  | @one i o ho h=>intro hr;exact hr o ho _ h
  | @step k i o hA ho hk ih=>intro hr;exact ih (fun o' ho' k' hk'=>hD k o' ho' (hr o ho k hk) k' hk')
 have main:∀ (n:Nat) (D:Array Bool) (L:St),D.size=ops.size→(∀ i,i<s→D.getD i false=true)→(∀ i,e≤i→D.getD i false=false)→closed D→(∀ t,L.slot t=slotG ops g s e D t) →
   (L.heap=(g e).heap∨(L.heap=(g s).heap∧∀ i,s≤i→i<e→D.getD i false=true→(g (i+1)).heap=(g i).heap))→(List.range e).countP (fun i=>!D.getD i false)≤n→anyL P ops (fuel+n) D L K:=by
  intro n
  induction n with
  | zero =>
   intro D L hsz hlo hhi hcl hsl hhp hct
   have hall:∀ i,i<e→D.getD i false=true:=fun i hi=>by
    have:(List.range e).countP (fun i=>!D.getD i false)=0:=by omega
    have:=List.countP_eq_zero.1 this i (List.mem_range.2 hi)
    simpa using this
   have eD:D=doneTo ops.size e:=doneTo_eq hsz fun i hi=>by
    rcases Nat.lt_or_ge i e with c | c
    ·rw [hall i c,decide_eq_true c]
    ·rw [hhi i c,decide_eq_false (by omega)]
   have eL:L=g e:=by
    have q1:L.slot=(g e).slot:=by
     funext t
     rw [hsl t]
     unfold slotG
     split
     ·rfl
     ·rename_i hno
      exact(hconst s e t (Nat.le_refl _) hse (Nat.le_refl _) (fun k o a b hk q=>hno ⟨k,o,a,b,hall k b,hk,q⟩)).symm
    have q2:L.heap=(g e).heap:=by
     rcases hhp with q | ⟨q,hq⟩
     ·exact q
     ·rw [q]
      have:∀ m,s≤m→m≤e→(g m).heap=(g s).heap:=by
       intro m
       induction m with
       | zero =>
        intro a _
        obtain rfl:s=0:=by omega
        rfl
       | succ m ih =>
        intro a b
        by_cases c:s=m+1
        ·rw [c]
        ·rw [hq m (by omega) (by omega) (hall m (by omega))];exact ih (by omega) (by omega)
      exact(this e hse (Nat.le_refl _)).symm
    cases L;cases hge:g e
    rw [hge] at q1 q2
    simp only at q1 q2
    rw [q1,q2]
   rw [eD,eL];exact fK
  | succ n ih =>
   intro D L hsz hlo hhi hcl hsl hhp hct
   by_cases hall:∀ i,i<e→D.getD i false=true
   ·have h0:(List.range e).countP (fun i=>!D.getD i false)=0:=List.countP_eq_zero.2 fun i hi=>by rw [hall i (List.mem_range.1 hi)];decide
    exact anyL_fuel _ _ _ (ih D L hsz hlo hhi hcl hsl hhp (by omega))
   ·have hin:∀ i,i∈Region.ready .any ops D→s≤i∧i<e:=fun i hi=>by
     obtain⟨o,p1',p2',p3'⟩:=(ready_spec hsz).1 hi
     have hlt:=lt_of i o p1'
     have hni:D.getD i false=false:=by rw [getD_sz (by omega) false true];exact p2'
     refine⟨?_,?_⟩
     ·rcases Nat.lt_or_ge i s with c | c
      ·rw [hlo i c] at hni;cases hni
      ·exact c
     ·rcases Nat.lt_or_ge i e with c | c
      ·exact c
      ·exfalso
       refine hall fun j hj=>?_
       rcases Nat.lt_or_ge j s with d | d
       ·exact hlo j d
       ·exact hclosed D hcl j i (htail i hlt c j d hj) (fun o' ho' k hk=>by rw [p1'] at ho';cases ho';exact p3' k hk)
    refine⟨fun hr=>?_,fun i hi=>?_⟩
    ·exfalso
     refine hall fun i=>?_
     induction i using Nat.strongRecOn with
     | _ i ihh =>
      intro hie
      cases hc:D.getD i false with
      | true=>rfl
      | false =>
       obtain⟨o,ho⟩:=some_of i (by omega)
       have:i∈Region.ready .any ops D:=(ready_spec hsz).2 ⟨o,ho,by rw [getD_sz (by omega) true false];exact hc,fun j hj=>by
        have:=hdir i o ho j hj
        exact ihh j this (by omega)⟩
       rw [hr] at this;cases this
    ·obtain⟨si,ei⟩:=hin i hi
     obtain⟨o,ho,hni',hrd⟩:=(ready_spec hsz).1 hi
     have hni:D.getD i false=false:=by rw [getD_sz (by omega) false true];exact hni'
     have hset:∀ k,(D.setIfInBounds i true).getD k false=true↔k=i∨D.getD k false=true:=fun k=>by
      by_cases c:i=k
      ·subst c
       rw [Array.getD_eq_getD_getElem?,Array.getElem?_setIfInBounds_self_of_lt (by omega)];simp
      ·rw [Array.getD_eq_getD_getElem?,Array.getElem?_setIfInBounds_ne c,←Array.getD_eq_getD_getElem?]
       constructor
       ·exact fun h=>.inr h
       ·rintro(h | h)
        ·exact absurd h.symm c
        ·exact h
     have hcl':closed (D.setIfInBounds i true):=fun k ok hk hDk j hj=>by
      rcases(hset k).1 hDk with rfl | h
      ·rw [ho] at hk;cases hk
       exact(hset j).2 (.inr (hrd j hj))
      ·exact(hset j).2 (.inr (hcl k ok hk h j hj))
     have hrd':∀ o',ops[i]?=some o'→∀ k∈dirs o',D.getD k false=true:=fun o' ho' k hk=>(by rw [ho] at ho';cases ho';exact hrd k hk)
     have hread:∀ t,t∈o.looksAt ops→(g i).slot t=L.slot t:=by
      intro t ht
      rw [hsl t]
      by_cases hex:∃ j oj,s≤j∧j<e∧ops[j]?=some oj∧oj.dst=some t
      ·obtain⟨j,oj,sj,ej,hj,hdj⟩:=hex
       have huniq:∀ k ok,s≤k→k<e→ops[k]?=some ok→ok.dst=some t→k=j:=fun k ok sk ek hk hdk =>
        Classical.byContradiction fun hne=>(hpair k j ok oj t hk hj sk ek sj ej hne hdj).1 hdk
       have nodone:(∀ hh:D.getD j false=true,False)→slotG ops g s e D t=(g s).slot t:=fun hh=>by
        unfold slotG
        rw [if_neg]
        rintro⟨k,ok,sk,ek,hDk,hk,hdk⟩
        have:=huniq k ok sk ek hk hdk
        subst this
        exact hh hDk
       by_cases hji:j=i
       ·subst hji
        rw [hconst s j t (Nat.le_refl _) si (by omega) (fun k ok a b hk q=>by have:=huniq k ok a (by omega) hk q;omega),nodone (fun hh=>by rw [hni] at hh;cases hh)]
       ·have hp:=(hpair i j o oj t ho hj si ei sj ej (Ne.symm hji) hdj).2 ht
        by_cases hlt:j<i
        ·rw [if_pos hlt] at hp
         have hDj:=hclosed D hcl j i hp hrd'
         have e2:slotG ops g s e D t=(g e).slot t:=by
          unfold slotG
          rw [if_pos ⟨j,oj,sj,ej,hDj,hj,hdj⟩]
         rw [e2,hslot j oj t hj sj ej hdj]
         exact hconst (j+1) i t (by omega) (by omega) (by omega) (fun k ok a b hk q=>by have:=huniq k ok (by omega) (by omega) hk q;omega)
        ·rw [if_neg hlt] at hp
         rw [hconst s i t (Nat.le_refl _) si (by omega) (fun k ok a b hk q=>by have:=huniq k ok a (by omega) hk q;omega),nodone (fun hh=>by
          have:=hclosed D hcl i j hp (fun o' ho' k' hk'=>hcl j o' ho' hh k' hk')
          rw [hni] at this;cases this)]
      ·rw [hconst s i t (Nat.le_refl _) si (by omega) (fun k ok a b hk q=>hex ⟨k,ok,a,by omega,hk,q⟩)]
       unfold slotG
       rw [if_neg]
       rintro⟨k,ok,sk,ek,hDk,hk,hdk⟩
       exact hex ⟨k,ok,sk,ek,hk,hdk⟩
     have hafter:∀ t,slotG ops g s e (D.setIfInBounds i true) t=if o.dst=some t then(g (i+1)).slot t else L.slot t:=by
      intro t
      rw [hsl t]
      by_cases hdt:o.dst=some t
      ·rw [if_pos hdt]
       unfold slotG
       rw [if_pos ⟨i,o,si,ei,(hset i).2 (.inl rfl),ho,hdt⟩]
       exact hslot i o t ho si ei hdt
      ·rw [if_neg hdt]
       unfold slotG
       congr 1
       apply propext
       constructor
       ·rintro⟨k,ok,sk,ek,hDk,hk,hdk⟩
        rcases(hset k).1 hDk with rfl | h
        ·rw [ho] at hk;cases hk;exact absurd hdk hdt
        ·exact⟨k,ok,sk,ek,h,hk,hdk⟩
       ·rintro⟨k,ok,sk,ek,hDk,hk,hdk⟩
        exact⟨k,ok,sk,ek,(hset k).2 (.inr hDk),hk,hdk⟩
     have hguard:∀ res,GuardIs ops (g i) o res→GuardIs ops L o res:=fun res hgd=>by
      unfold GuardIs at hgd ⊢
      cases hh:o.guard with
      | none=>rw [hh] at hgd;exact hgd
      | some pr =>
       obtain⟨j,want⟩:=pr
       rw [hh] at hgd
       obtain⟨d,q1',q'⟩:=hgd
       have e1:(g i).slot d=L.slot d:=hread d (by unfold Oper.looksAt;rw [hh];simp [q1'])
       refine⟨d,q1',?_⟩
       show (∃ b,L.slot d=_∧_)∨(L.slot d=_∧_)
       rw [←e1]
       exact q'
     have hput:∀ (r:LV) (H1:Heap),(∀ t,o.dst=some t→(g (i+1)).slot t=r)→∀ t,(⟨(L.put o.dst r).slot,H1⟩:St).slot t=slotG ops g s e (D.setIfInBounds i true) t:=fun r H1 hr t=>by
      rw [hafter t]
      show (L.put o.dst r).slot t=_
      cases hd:o.dst with
      | none=>rw [if_neg (by simp)];rfl
      | some d =>
       rw [put_slot]
       by_cases c:t=d
       ·subst c
        rw [if_pos rfl,if_pos rfl,hr t hd]
       ·rw [if_neg c,if_neg (fun q=>c (by cases q;rfl))]
     have hcnt:(List.range e).countP (fun k=>!(D.setIfInBounds i true).getD k false)≤n:=by
      have:(List.range e).countP (fun k=>!(D.setIfInBounds i true).getD k false)<(List.range e).countP (fun k=>!D.getD k false):=by
       apply countP_lt
       ·intro k _ hk
        cases hc:D.getD k false with
        | false=>rfl
        | true=>rw [(hset k).2 (.inr hc)] at hk;cases hk
       ·exact⟨i,List.mem_range.2 ei,by rw [hni];rfl,by rw [(hset i).2 (.inl rfl)];rfl⟩
      omega
     have hfin:∀ L',Step P false ops o L L'→(∀ t,L'.slot t=slotG ops g s e (D.setIfInBounds i true) t)→(L'.heap=(g e).heap∨(L'.heap=(g s).heap∧∀ k,s≤k→k<e→(D.setIfInBounds i true).getD k false=true→(g (k+1)).heap=(g k).heap)) →
       ∃ o L',ops[i]?=some o∧Step P false ops o L L'∧anyL P ops (fuel+n) (D.setIfInBounds i true) L' K:=fun L' hst hs' hh' =>
      ⟨o,L',ho,hst,ih _ L' (by simpa using hsz) (fun k hk=>(hset k).2 (.inr (hlo k hk))) (fun k hk=>by
       cases hc:(D.setIfInBounds i true).getD k false with
       | false=>rfl
       | true =>
        rcases(hset k).1 hc with rfl | q
        ·omega
        ·rw [hhi k hk] at q;cases q) hcl' hs' hh' hcnt⟩
     have hpl:=hplain i o ho si ei
     cases gst i o ho si ei with
     | skip hg' h' =>
      refine hfin (L.put o.dst (.tup [])) (.skip (hguard false hg') rfl) (fun t=>?_) ?_
      ·have:=hput (.tup []) L.heap (fun t ht=>by rw [h',ht,put_slot,if_pos rfl]) t
       exact this
      ·rw [put_heap]
       rcases hhp with q | ⟨q,hq⟩
       ·exact .inl q
       ·refine .inr ⟨q,fun k sk ek hk=>?_⟩
        rcases(hset k).1 hk with rfl | hk
        ·rw [h',put_heap]
        ·exact hq k sk ek hk
     | @val r fr H1 hg' hH hfr hov h' =>
      obtain⟨dst,op,ty,pos,after,gd⟩:=o
      have hH1:H1=(g (i+1)).heap:=by rw [h']
      have hle1:H1.le (g e).heap:=by rw [hH1];exact hle (i+1) e (by omega) (by omega) (Nat.le_refl _)
      cases hov with
      | alloc ha=>cases ha<;>cases hpl
      | call hc=>cases hc<;>cases hpl
      | pure hpp =>
       have hev:∀ x∈op.operands,L.ev x=(g i).ev x:=by
        intro x hx
        cases x with
        | tmp t =>
         have ht:t∈Oper.looksAt ops ⟨dst,op,ty,pos,after,gd⟩:=by
          unfold Oper.looksAt
          simp only [List.mem_append,List.mem_filterMap]
          exact .inl ⟨.tmp t,by simpa using hx,rfl⟩
         exact(hread t ht).symm
        | const v=>rfl
        | func f=>rfl
        | global f=>rfl
       have hpp':=OpP.cong (OpP.le hle1 hpp) hpl hev
       have hLe:L.heap.le (g e).heap:=by
        rcases hhp with q | ⟨q,_⟩
        ·rw [q];exact Heap.le_refl _
        ·rw [q];exact hle s e (Nat.le_refl _) hse (Nat.le_refl _)
       refine hfin ⟨(L.put dst r).slot,(g e).heap⟩ (.val (fr:=[]) (hguard true hg') hLe (fun _ _ hh=>by cases hh) (.pure hpp') rfl) (hput r _ (fun t ht=>?_)) (.inl rfl)
       rw [h']
       show ((g i).put dst r).slot t=r
       have ht:dst=some t:=ht
       rw [ht,put_slot,if_pos rfl]
     | st hg' hot =>
      obtain⟨dst,op,ty,pos,after,gd⟩:=o
      have:=plain_tail hpl
      rw [hot.tail] at this;cases this
     | stM hdr _ _=>cases hdr
 have hsz:D.size=ops.size:=by rw [hD];exact doneTo_size _ _
 have hDg:∀ i,D.getD i false=true↔i<s:=fun i=>by
  rcases Nat.lt_or_ge i ops.size with c | c
  ·rw [hD,doneTo_get c,decide_eq_true_eq]
  ·constructor
   ·intro q
    rw [Array.getD_eq_getD_getElem?,Array.getElem?_eq_none (by omega)] at q
    cases q
   ·intro q;omega
 refine main (e-s) D L hsz (fun i hi=>(hDg i).2 hi) (fun i hi=>?_) (fun i o ho hi j hj=>(hDg j).2 (by have:=hdir i o ho j hj;have:=(hDg i).1 hi;omega)) (fun t=>?_) (.inr ⟨by rw [gs0],fun i si _ hi=>by have:=(hDg i).1 hi;omega⟩) ?_
 ·cases hc:D.getD i false with
  | false=>rfl
  | true=>have:=(hDg i).1 hc;omega
 ·unfold slotG
  rw [if_neg,gs0]
  rintro⟨k,o,sk,_,hk,_⟩
  have:=(hDg k).1 hk
  omega
 ·have:∀ m,(List.range m).countP (fun i=>!D.getD i false)≤m-s:=by
   intro m
   induction m with
   | zero=>simp
   | succ m ih =>
    rw [List.range_succ,List.countP_append]
    have hone:List.countP (fun i=>!D.getD i false) [m]=if D.getD m false=true then 0 else 1:=by
     rw [List.countP_cons,List.countP_nil,Nat.zero_add]
     cases hc:D.getD m false<;>rfl
    rw [hone]
    split
    ·omega
    ·rename_i hc
     have:¬m<s:=fun q=>hc ((hDg m).2 q)
     omega
  exact this e
theorem any_segm {m:Nat} {K:St→Prop} {L:St} {D:Array Bool} {l0:List Oper} (s e fuel:Nat) (hm:m=fuel+(e-s)) (hD:D=doneTo l0.toArray.size s) (hok:segOk l0.toArray s e=true)
  (h:opsL P true l0.toArray ((l0.drop s).take (e-s)) L (fun L'=>anyL P l0.toArray fuel (doneTo l0.toArray.size e) L' K)):anyL P l0.toArray m D L K:=by
 subst hm
 exact any_seg s e _ hD rfl hok h
end
def slimOp:Op→Bool
 | .move _=>true
 | .binOp ..=>true
 | .fieldAddr ..=>true
 | .indexAddr ..=>true
 | .call ⟨.builtin .len,_,_⟩=>true
 | _=>false
def kindOp:Op→Bool
 | .store ..=>true
 | .call ⟨.value (.func _),_,_⟩=>true
 | op=>plainOp op
theorem slim_plain {op:Op} (h:slimOp op=true):plainOp op=true:=by
 unfold slimOp at h
 split at h<;>first | rfl | cases h
theorem OpP.slim {P:Program} {H H':Heap} {ρ:Operand→LV} {op:Op} {r:LV} (h:OpP P H ρ op r) (hp:slimOp op=true):OpP P H' ρ op r:=by
 cases h with
 | move x=>exact .move x
 | bin hx hy h=>exact .bin hx hy h
 | sh hx hy h=>exact .sh hx hy h
 | beq hx hy hT=>exact .beq hx hy hT
 | bne hx hy hT=>exact .bne hx hy hT
 | addS hx hy h=>exact .addS hx hy h
 | eqS hx hy=>exact .eqS hx hy
 | eqN hx hy hT=>exact .eqN hx hy hT
 | eqNL hx hy hT=>exact .eqNL hx hy hT
 | fieldAddrB hq hT hr'=>exact .fieldAddrB hq hT hr'
 | fieldAddrE hq hT hk=>exact .fieldAddrE hq hT hk
 | idxAE hx hT hE hi h0 hm=>exact .idxAE hx hT hE hi h0 hm
 | idxAB hx hT hE hf hi h0 hr'=>exact .idxAB hx hT hE hf hi h0 hr'
 | idxL hx hT hE hi h0 hr' hc=>exact .idxL hx hT hE hi h0 hr' hc
 | idxR hx hT hE hi h0 hn=>exact .idxR hx hT hE hi h0 hn
 | lenL hx has hT=>exact .lenL hx has hT
 | lenR hx has hT=>exact .lenR hx has hT
 | lenN hx has hT=>exact .lenN hx has hT
 | _=>first | (cases hp;done) | (simp [slimOp] at hp;done)
theorem put_comm (L:St) {d e:Nat} (h:d≠e) (v r:LV):(L.put (some d) v).put (some e) r=(L.put (some e) r).put (some d) v:=by
 have:∀ t,((L.put (some d) v).put (some e) r).slot t=((L.put (some e) r).put (some d) v).slot t:=fun t=>by
  rw [put_slot,put_slot,put_slot,put_slot]
  by_cases h1:t=e
  ·rw [if_pos h1,if_neg (by omega),if_pos h1]
  ·rw [if_neg h1,if_neg h1]
 exact congrArg (fun f=>St.mk f L.heap) (funext this)
theorem put_commO (L:St) {d:Nat} {e:Option Nat} (h:e≠some d) (v r:LV):(L.put (some d) v).put e r=(L.put e r).put (some d) v:=by
 cases e with
 | none=>rfl
 | some e=>exact put_comm L (fun q=>h (by rw [q])) v r
section
variable {P:Program} {ops:Array Oper}
theorem ev_put {L:St} {d:Nat} {v:LV} {o:Oper} (h:d∉o.looksAt ops):∀ x∈o.op.operands,(L.put (some d) v).ev x=L.ev x:=fun x hx=>by
 cases x with
 | tmp t =>
  have ht:t∈o.looksAt ops:=by
   unfold Oper.looksAt
   simp only [List.mem_append,List.mem_filterMap]
   exact .inl ⟨.tmp t,by simpa using hx,rfl⟩
  show (L.put (some d) v).slot t=L.slot t
  rw [put_slot,if_neg (fun q=>h (by rw [←q];exact ht))]
 | const v=>rfl
 | func f=>rfl
 | global f=>rfl
theorem guard_put {L:St} {d:Nat} {v:LV} {o:Oper} {res:Bool} (h:d∉o.looksAt ops) (hg:GuardIs ops (L.put (some d) v) o res):GuardIs ops L o res:=by
 unfold GuardIs at hg ⊢
 cases hh:o.guard with
 | none=>rw [hh] at hg;exact hg
 | some pr =>
  obtain⟨j,want⟩:=pr
  rw [hh] at hg
  obtain⟨t,q1',q'⟩:=hg
  have hne:t≠d:=fun q=>h (by rw [←q];unfold Oper.looksAt;rw [hh];simp [q1'])
  have e1:(L.put (some d) v).slot t=L.slot t:=by rw [put_slot,if_neg hne]
  refine⟨t,q1',?_⟩
  show (∃ b,L.slot t=_∧_)∨(L.slot t=_∧_)
  rw [←e1]
  exact q'
theorem mem_args {f:Operand} {xs:Array Operand} {ats:Array TypeId} {x:Operand} (h:x∈xs.toList):x∈(Op.call ⟨.value f,xs,ats⟩).operands:=by
 have:=Array.mem_toList_iff.1 h
 simp [Op.operands,Call.operands,this]
theorem step_comm {L L2:St} {d:Nat} {v:LV} {o:Oper} (hk:kindOp o.op=true) (hl:d∉o.looksAt ops) (hd:o.dst≠some d) (h:Step P false ops o (L.put (some d) v) L2) :
  ∃ L1,Step P false ops o L L1∧L2=L1.put (some d) v∧∀ t,o.dst≠some t→L1.slot t=L.slot t:=by
 have hev:=ev_put (L:=L) (v:=v) hl
 have hsl:∀ (M:St) (r:LV) t,M.slot t=L.slot t→o.dst≠some t→(M.put o.dst r).slot t=L.slot t:=fun M r t hM hne=>by
  cases hh:o.dst with
  | none=>exact hM
  | some e=>rw [put_slot,if_neg (fun q=>hne (by rw [hh,q]))];exact hM
 cases h with
 | skip hg hL=>exact⟨L.put o.dst (.tup []),.skip (guard_put hl hg) rfl,by rw [hL,put_commO L hd],fun t ht=>hsl L _ t rfl ht⟩
 | @val r fr H1 hg hle hfr hov hL =>
  obtain⟨dst,op,ty,pos,after,gd⟩:=o
  have hev':∀ x∈op.operands,L.ev x=(L.put (some d) v).ev x:=fun x hx=>(hev x hx).symm
  have hov2:OpV P H1 L.ev (dst.getD 0) op r fr:=by
   cases hov with
   | pure hp =>
    by_cases hpl:plainOp op=true
    ·exact .pure (hp.cong hpl hev')
    ·cases hp with
     | ext2 hf hname hb hn he hx hr h1 h2 =>
      refine .pure (.ext2 hf hname hb hn he ?_ hr h1 h2)
      rw [←hx]
      exact List.map_congr_left fun x hxm=>hev' x (mem_args hxm)
     | _=>first | (exfalso;exact hpl rfl) | (exfalso;revert hk hpl;simp [kindOp,plainOp])
   | alloc ha=>cases ha<;>(exfalso;revert hk;simp [kindOp,plainOp])
   | call hc =>
    cases hc with
    | func ha hkk hlen hpu =>
     refine .call (.func ?_ hkk hlen hpu)
     rw [show (_:Array Operand).toList.map L.ev=_ from List.map_congr_left fun x hxm=>hev' x (mem_args hxm)]
     exact ha
    | clo=>exfalso;revert hk;simp [kindOp,plainOp]
    | mk=>exfalso;revert hk;simp [kindOp,plainOp]
  refine⟨⟨(L.put dst r).slot,H1⟩,.val (guard_put hl hg) hle hfr hov2 rfl,?_,fun t ht=>hsl L r t rfl ht⟩
  rw [hL]
  have:=put_commO L hd v r
  exact congrArg (fun M=>St.mk (St.slot M) H1) this
 | st hg hot =>
  obtain⟨dst,op,ty,pos,after,gd⟩:=o
  cases hot with
  | store hp hb hs hm hi hy hput hT hne =>
   rename_i T p x b sz i o' blk y y'
   have e1:=hev p (by simp [Op.operands])
   have e2:=hev x (by simp [Op.operands])
   rw [e1] at hp
   rw [e2] at hput hT hne
   refine⟨_,.st (guard_put hl hg) (.store hp hb hs hm hi hy hput hT hne),?_,fun t ht=>?_⟩
   ·exact put_commO (L.setB b _) hd v .any
   ·exact hsl (L.setB b _) .any t rfl ht
  | _=>exfalso;revert hk;simp [kindOp,plainOp]
 | stM hdr hg hom =>
  obtain⟨dst,op,ty,pos,after,gd⟩:=o
  cases hom with
  | call hb hm hp ha hn hkk hm' hp' =>
   rename_i f xs ats args r b blk blk'
   have em:xs.toList.map (L.put (some d) v).ev=xs.toList.map L.ev:=List.map_congr_left fun x hxm=>hev x (mem_args hxm)
   rw [em] at ha hn
   refine⟨_,.stM hdr (guard_put hl hg) (.call hb hm hp ha hn hkk hm' hp'),?_,fun t ht=>?_⟩
   ·exact put_commO (L.setB b _) hd v _
   ·exact hsl (L.setB b _) _ t rfl ht
  | appz=>exfalso;revert hk;simp [kindOp,plainOp]
def hoistOk (ops:Array Oper) (i:Nat) (D:Array Bool):Bool :=
 D.size==ops.size && !D.getD i true && (dirs (ops.getD i default)).all (fun j=>D.getD j false) && (ops.getD i default).guard.isNone && slimOp (ops.getD i default).op &&
 (List.range ops.size).all fun j=>j==i || D.getD j true || (kindOp (ops.getD j default).op && ((ops.getD j default).dst != (ops.getD i default).dst) &&
  (match (ops.getD i default).dst with | some d=>!((ops.getD j default).looksAt ops).contains d || (dirs (ops.getD j default)).contains i | none=>false) &&
  (match (ops.getD j default).dst with | some e=>!((ops.getD i default).looksAt ops).contains e | none=>true))
theorem any_hoist {m:Nat} {K:St→Prop} {L:St} {D:Array Bool} {d:Nat} {v:LV} (i:Nat) {o:Oper} (ho:ops[i]?=some o) (hdst:o.dst=some d) (hok:hoistOk ops i D=true) (hv:OpP P L.heap L.ev o.op v)
  (h:anyL P ops m (D.setIfInBounds i true) (L.put (some d) v) K):anyL P ops (m+1) D L K:=by
 have getD_of:∀ i o,ops[i]?=some o→ops.getD i default=o:=fun i o h=>by rw [Array.getD_eq_getD_getElem?,h];rfl
 have hin:i<ops.size:=(Array.getElem?_eq_some_iff.1 ho).1
 let C:Array Bool→Prop:=fun D=>D.size=ops.size∧D.getD i false=false∧(∀ j∈dirs o,D.getD j false=true)∧∀ j oj,ops[j]?=some oj→j≠i→D.getD j false=false →
  kindOp oj.op=true∧oj.dst≠some d∧(d∈oj.looksAt ops→i∈dirs oj)∧∀ e,oj.dst=some e→e∉o.looksAt ops
 unfold hoistOk at hok
 rw [getD_of i o ho,hdst] at hok
 simp only [Bool.and_eq_true,List.all_eq_true,List.mem_range,Bool.or_eq_true,beq_iff_eq,Bool.not_eq_true',Option.isNone_iff_eq_none,bne_iff_ne,ne_eq] at hok
 obtain⟨⟨⟨⟨⟨hsz,hni⟩,hrd⟩,hgd⟩,hslim⟩,hall⟩:=hok
 have hC:C D:=by
  refine⟨hsz,by rw [getD_sz (by omega) false true];exact hni,hrd,fun j oj hj hne hDj=>?_⟩
  have hjl:j<ops.size:=(Array.getElem?_eq_some_iff.1 hj).1
  have:=hall j hjl
  rw [getD_of j oj hj] at this
  rcases this with(q | q) | q
  ·exact absurd q hne
  ·rw [getD_sz (by omega) true false,hDj] at q;cases q
  ·obtain⟨⟨⟨q1,q2⟩,q3⟩,q4⟩:=q
   refine⟨q1,q2,fun hm=>?_,fun e he hm=>?_⟩
   ·rcases q3 with q | q
    ·rw [List.contains_iff_mem.2 hm] at q;cases q
    ·exact List.contains_iff_mem.1 q
   ·rw [he] at q4
    simp only [Bool.not_eq_true'] at q4
    rw [List.contains_iff_mem.2 hm] at q4;cases q4
 have hstepi:∀ L:St,OpP P L.heap L.ev o.op v→Step P false ops o L (L.put (some d) v):=fun L hv=>by
  refine .val (fr:=[]) (H1:=L.heap) (r:=v) (by unfold GuardIs;rw [hgd]) (Heap.le_refl _) (fun _ _ hh=>by cases hh) (.pure hv) ?_
  rw [hdst];rfl
 clear hsz hni hrd hall
 have main:∀ (n:Nat) (D:Array Bool) (L:St),C D→OpP P L.heap L.ev o.op v→anyL P ops n (D.setIfInBounds i true) (L.put (some d) v) K→anyL P ops (n+1) D L K:=by
  intro n
  induction n with
  | zero =>
   intro D L ⟨c1,c2,c3,c4⟩ hv hh
   have hri:i∈Region.ready .any ops D:=(ready_spec c1).2 ⟨o,ho,by rw [getD_sz (by omega) true false];exact c2,c3⟩
   refine⟨fun hr=>(by rw [hr] at hri;cases hri),fun j hj=>?_⟩
   by_cases hji:j=i
   ·subst hji
    exact⟨o,_,ho,hstepi L hv,hh⟩
   ·exfalso
    obtain⟨oj,h1,h2,h3⟩:=(ready_spec c1).1 hj
    have:j∈Region.ready .any ops (D.setIfInBounds i true):=(ready_spec (by simpa using c1)).2 ⟨oj,h1,by
     rw [Array.getD_eq_getD_getElem?,Array.getElem?_setIfInBounds_ne (Ne.symm hji),←Array.getD_eq_getD_getElem?];exact h2,fun k hk=>by
     by_cases hki:i=k
     ·subst hki
      rw [Array.getD_eq_getD_getElem?,Array.getElem?_setIfInBounds_self_of_lt (by omega)];rfl
     ·rw [Array.getD_eq_getD_getElem?,Array.getElem?_setIfInBounds_ne hki,←Array.getD_eq_getD_getElem?];exact h3 k hk⟩
    rw [hh.1] at this;cases this
  | succ n ih =>
   intro D L ⟨c1,c2,c3,c4⟩ hv hh
   have hri:i∈Region.ready .any ops D:=(ready_spec c1).2 ⟨o,ho,by rw [getD_sz (by omega) true false];exact c2,c3⟩
   refine⟨fun hr=>(by rw [hr] at hri;cases hri),fun j hj=>?_⟩
   by_cases hji:j=i
   ·subst hji
    exact⟨o,_,ho,hstepi L hv,hh⟩
   ·obtain⟨oj,h1,h2,h3⟩:=(ready_spec c1).1 hj
    have hjl:j<ops.size:=(Array.getElem?_eq_some_iff.1 h1).1
    have hDj:D.getD j false=false:=by rw [getD_sz (by omega) false true];exact h2
    have hji2:j∈Region.ready .any ops (D.setIfInBounds i true):=(ready_spec (by simpa using c1)).2 ⟨oj,h1,by
     rw [Array.getD_eq_getD_getElem?,Array.getElem?_setIfInBounds_ne (Ne.symm hji),←Array.getD_eq_getD_getElem?];exact h2,fun k hk=>by
     by_cases hki:i=k
     ·subst hki
      rw [Array.getD_eq_getD_getElem?,Array.getElem?_setIfInBounds_self_of_lt (by omega)];rfl
     ·rw [Array.getD_eq_getD_getElem?,Array.getElem?_setIfInBounds_ne hki,←Array.getD_eq_getD_getElem?];exact h3 k hk⟩
    obtain⟨oj',L2,g1,g2,g3⟩:=hh.2 j hji2
    rw [h1] at g1;cases g1
    obtain⟨k1,k2,k3,k4⟩:=c4 j oj h1 hji hDj
    have hnl:d∉oj.looksAt ops:=fun hm=>by
     have:=h3 i (k3 hm)
     rw [c2] at this;cases this
    obtain⟨L1,s1,s2,s3⟩:=step_comm k1 hnl k2 g2
    refine⟨oj,L1,h1,s1,ih (D.setIfInBounds j true) L1 ⟨by simpa using c1,?_,fun k hk=>?_,fun k ok hk hne hDk=>?_⟩ ?_ ?_⟩
    ·rw [Array.getD_eq_getD_getElem?,Array.getElem?_setIfInBounds_ne hji,←Array.getD_eq_getD_getElem?];exact c2
    ·by_cases hjk:j=k
     ·subst hjk
      rw [Array.getD_eq_getD_getElem?,Array.getElem?_setIfInBounds_self_of_lt (by omega)];rfl
     ·rw [Array.getD_eq_getD_getElem?,Array.getElem?_setIfInBounds_ne hjk,←Array.getD_eq_getD_getElem?];exact c3 k hk
    ·by_cases hjk:j=k
     ·subst hjk
      rw [Array.getD_eq_getD_getElem?,Array.getElem?_setIfInBounds_self_of_lt (by omega)] at hDk
      cases hDk
     ·rw [Array.getD_eq_getD_getElem?,Array.getElem?_setIfInBounds_ne hjk,←Array.getD_eq_getD_getElem?] at hDk
      exact c4 k ok hk hne hDk
    ·refine(hv.cong (slim_plain hslim) fun x hx=>?_).slim hslim
     cases x with
     | tmp t =>
      have ht:t∈o.looksAt ops:=by
       unfold Oper.looksAt
       simp only [List.mem_append,List.mem_filterMap]
       exact .inl ⟨.tmp t,by simpa using hx,rfl⟩
      exact s3 t (fun q=>k4 t q ht)
     | const v=>rfl
     | func f=>rfl
     | global f=>rfl
    ·rw [←s2]
     have:(D.setIfInBounds j true).setIfInBounds i true=(D.setIfInBounds i true).setIfInBounds j true:=by
      refine Array.ext_getElem? fun k=>?_
      by_cases q1:i=k
      ·subst q1
       rw [Array.getElem?_setIfInBounds_self_of_lt (by simp;omega),Array.getElem?_setIfInBounds_ne hji,Array.getElem?_setIfInBounds_self_of_lt (by omega)]
      ·by_cases q2:j=k
       ·subst q2
        rw [Array.getElem?_setIfInBounds_ne q1,Array.getElem?_setIfInBounds_self_of_lt (by omega),Array.getElem?_setIfInBounds_self_of_lt (by simp;omega)]
       ·rw [Array.getElem?_setIfInBounds_ne q1,Array.getElem?_setIfInBounds_ne q2,Array.getElem?_setIfInBounds_ne q2,Array.getElem?_setIfInBounds_ne q1]
     rw [this];exact g3
 exact main m D L hC hv h
end
end Go.Lg
end
section
set_option linter.unusedVariables false
set_option linter.unusedSimpArgs false
set_option maxHeartbeats 8000000
set_option maxRecDepth 100000
attribute [local irreducible] Go.Lg.opsL Go.Lg.wpL Go.Lg.thenL Go.Lg.blockL
namespace Go.Proofs.YtfpdccbgngdhkaaGreat
open Go.Lg
def ksF (l:List Int) (j:Nat):Rat:=((1+nxV l j 3:Int):Rat)/((1+nxV l (nxK l j) 2:Int):Rat)
def ksJ (l:List Int) (d:Nat) (k:List Rat) (j:Nat):Nat:=if k.length=d+1 then j else nxK l j
def ksB (l:List Int) (d:Nat) (k:List Rat) (t:Rat) (j:Nat):Prop:=k.length=d+1∨0<nxV l j 3∨t=k.getD (k.length-d) 0
instance (l:List Int) (d:Nat) (k:List Rat) (t:Rat) (j:Nat):Decidable (ksB l d k t j):=by unfold ksB;infer_instance
def kiV (l:List Int) (d:Nat):Nat→List Rat→Rat→Nat→List Rat × Rat × Nat
 | 0,k,t,j=>(k,t,j)
 | n+1,k,t,j=>if ksB l d k t j then kiV l d n (k++[t+ksF l (ksJ l d k j)]) (t+ksF l (ksJ l d k j)) (nxK l (nxK l (ksJ l d k j))) else kiV l d n (k++[t]) t (ksJ l d k j)
theorem ksF_in (l:List Int) (j:Nat):0<ksF l j∧rl (ksF l j)≤2:=by
 have h1:=nxV_lt (l:=l) (k:=j) (n:=3) (by decide)
 have h2:=nxV_lt (l:=l) (k:=nxK l j) (n:=2) (by decide)
 have r1:rl ((1+nxV l j 3:Int):Rat)≤1:=rl_int (by omega)
 have r2:rl ((1+nxV l (nxK l j) 2:Int):Rat)≤1:=rl_int (by omega)
 have r3:=rl_div ((1+nxV l j 3:Int):Rat) ((1+nxV l (nxK l j) 2:Int):Rat)
 refine⟨?_,by unfold ksF;omega⟩
 unfold ksF
 rw [Rat.div_def]
 exact Rat.mul_pos (Rat.intCast_pos.2 (by omega)) (Rat.inv_pos.2 (Rat.intCast_pos.2 (by omega)))
theorem ki_in (l:List Int) {d n:Nat} {T:Rat} (hd:1≤d) (hn:n≤2) (hT:rl T≤1) (j:Nat) :
  ∃ inn t j',kiV l d n (List.replicate (d+1) T) T j=(List.replicate (d+1) T++inn,t,j')∧inn.length=n∧inOK d T inn (t+1)∧rl t≤7∧T<t+1:=by
 have hr1:rl 1=1:=rfl
 match n,hn with
 | 0,_ =>
  refine⟨[],T,j,by rw [List.append_nil];rfl,rfl,⟨fun x hx=>(by cases hx),fun i hi=>(by simp at hi),fun x hx=>(by cases hx),by decide,fun x hx=>(by cases hx)⟩,by omega,by grind⟩
 | 1,_ =>
  have hF:=ksF_in l (ksJ l d (List.replicate (d+1) T) j)
  have hb:ksB l d (List.replicate (d+1) T) T j:=.inl (by simp)
  refine⟨[T+ksF l (ksJ l d (List.replicate (d+1) T) j)],T+ksF l (ksJ l d (List.replicate (d+1) T) j),nxK l (nxK l (ksJ l d (List.replicate (d+1) T) j)),by rw [kiV,if_pos hb,kiV],rfl,?_,?_,?_⟩
  ·generalize ksF l _=f at hF
   have:=rl_add T f
   refine⟨fun x hx=>?_,fun i hi=>(by simp at hi),fun x hx=>?_,by simp,fun x hx=>?_⟩
   ·rw [List.mem_singleton.1 hx];constructor<;>grind
   ·show tmN _ x 1≤d
    have:=tmN_le [T+f] x 1
    omega
   ·rw [List.mem_singleton.1 hx];omega
  ·have:=rl_add T (ksF l (ksJ l d (List.replicate (d+1) T) j));omega
  ·grind
 | 2,_ =>
  have hb:ksB l d (List.replicate (d+1) T) T j:=.inl (by simp)
  have hF:=ksF_in l (ksJ l d (List.replicate (d+1) T) j)
  rw [kiV,if_pos hb]
  generalize nxK l (nxK l (ksJ l d (List.replicate (d+1) T) j))=j1
  generalize ksF l (ksJ l d (List.replicate (d+1) T) j)=f at *
  have a1:=rl_add T f
  rw [kiV]
  by_cases hb2:ksB l d (List.replicate (d+1) T++[T+f]) (T+f) j1
  ·rw [if_pos hb2,kiV]
   have hG:=ksF_in l (ksJ l d (List.replicate (d+1) T++[T+f]) j1)
   generalize nxK l (nxK l (ksJ l d (List.replicate (d+1) T++[T+f]) j1))=j2
   generalize ksF l (ksJ l d (List.replicate (d+1) T++[T+f]) j1)=g at *
   have a2:=rl_add (T+f) g
   refine⟨[T+f,T+f+g],T+f+g,j2,by rw [List.append_assoc];rfl,rfl,⟨fun x hx=>?_,fun i hi=>?_,fun x hx=>?_,by simp,fun x hx=>?_⟩,by omega,by grind⟩
   ·simp only [List.mem_cons,List.not_mem_nil,or_false] at hx
    rcases hx with rfl | rfl<;>constructor<;>grind
   ·obtain rfl:i=0:=by simp at hi;omega
    show T+f≤T+f+g
    grind
   ·show tmN _ x 2≤d
    have hne:T+f≠T+f+g:=by grind
    have e:tmN [T+f,T+f+g] x 2=0+(if T+f=x then 1 else 0)+(if T+f+g=x then 1 else 0):=rfl
    rw [e]
    by_cases c:T+f=x
    ·rw [if_pos c,if_neg (fun e=>hne (c.trans e.symm))];omega
    ·rw [if_neg c];split<;>omega
   ·simp only [List.mem_cons,List.not_mem_nil,or_false] at hx
    rcases hx with rfl | rfl<;>omega
  ·rw [if_neg hb2,kiV]
   have hd2:2≤d:=by
    rcases Nat.lt_or_ge d 2 with c | c
    ·exfalso
     obtain rfl:d=1:=by omega
     refine hb2 (.inr (.inr ?_))
     rw [show (List.replicate (1+1) T++[T+f]).length-1=2 by simp,gD2 (by simp)];simp
    ·exact c
   refine⟨[T+f,T+f],T+f,ksJ l d (List.replicate (d+1) T++[T+f]) j1,by rw [List.append_assoc];rfl,rfl,⟨fun x hx=>?_,fun i hi=>?_,fun x hx=>?_,by simp,fun x hx=>?_⟩,by omega,by grind⟩
   ·simp only [List.mem_cons,List.not_mem_nil,or_false,or_self] at hx
    subst hx;constructor<;>grind
   ·obtain rfl:i=0:=by simp at hi;omega
    exact Rat.le_refl
   ·show tmN _ x 2≤d
    have:=tmN_le [T+f,T+f] x 2
    omega
   ·simp only [List.mem_cons,List.not_mem_nil,or_false,or_self] at hx
    subst hx;omega
def kiN (l:List Int) (k n:Nat):Nat:=(nxV l (nxK l k) ((n+1:Nat):Int)).toNat
def kiR (l:List Int) (d k n:Nat):List Rat × Rat × Nat:=kiV l d (kiN l k n) (List.replicate (d+1) (dtV l k)) (dtV l k) (nxK l (nxK l k))
def knX (l:List Int) (d k n:Nat):List Rat:=(kiR l d k n).1++List.replicate (d+1) ((kiR l d k n).2.1+1)
theorem kiN_in (l:List Int) (k n:Nat):(kiN l k n:Int)=nxV l (nxK l k) ((n+1:Nat):Int)∧kiN l k n≤n:=by
 have h:=nxV_lt (l:=l) (k:=nxK l k) (n:=((n+1:Nat):Int)) (by omega)
 unfold kiN
 omega
structure kiI (l:List Int) (d N c:Nat) (K:List Rat) (t:Rat) (j:Nat) (R:List Rat × Rat × Nat):Prop where
 hj:j≤500
 hl:K.length+c=d+1+N
 ht:rl t+3*c≤1+3*N
 hK:∀ x∈K,rl x≤7
 hR:kiV l d c K t j=R
theorem mem_snoc {K:List Rat} {t:Rat} {R:Nat} (h:∀ x∈K,rl x≤R) (ht:rl t≤R):∀ x∈K++[t],rl x≤R:=fun x hx=>by
 rcases List.mem_append.1 hx with h1 | h1
 ·exact h x h1
 ·rw [List.mem_singleton.1 h1];exact ht
theorem ksJ_le {l:List Int} {d j:Nat} {K:List Rat} (hl:l.length≤500) (hj:j≤500):ksJ l d K j≤500:=by
 unfold ksJ;split
 ·exact hj
 ·exact nxK_le hl hj
theorem kiI.yes {l:List Int} {d N c:Nat} {K:List Rat} {t:Rat} {j:Nat} {R:List Rat × Rat × Nat} (hl:l.length≤500) (hN:N≤2) (h:kiI l d N (c+1) K t j R) (hb:ksB l d K t j) :
  kiI l d N c (K++[t+ksF l (ksJ l d K j)]) (t+ksF l (ksJ l d K j)) (nxK l (nxK l (ksJ l d K j))) R:=by
 have hF:=(ksF_in l (ksJ l d K j)).2
 have h1:=rl_add t (ksF l (ksJ l d K j))
 have h2:=h.ht
 have h3:=h.hl
 have h4:=h.hR
 rw [kiV,if_pos hb] at h4
 exact⟨nxK_le hl (nxK_le hl (ksJ_le hl h.hj)),by simp;omega,by omega,mem_snoc h.hK (by omega),h4⟩
theorem kiI.no {l:List Int} {d N c:Nat} {K:List Rat} {t:Rat} {j:Nat} {R:List Rat × Rat × Nat} (hl:l.length≤500) (hN:N≤2) (h:kiI l d N (c+1) K t j R) (hb:¬ksB l d K t j) :
  kiI l d N c (K++[t]) t (ksJ l d K j) R:=by
 have h2:=h.ht
 have h3:=h.hl
 have h4:=h.hR
 rw [kiV,if_neg hb] at h4
 exact⟨ksJ_le hl h.hj,by simp;omega,by omega,mem_snoc h.hK (by omega),h4⟩
namespace H_c_DKnotsI
theorem zSm {p q:Prop} (k:q) (e:p=q:=by simp only [e1,e2,e3,e4,p1,p2,p3,q1,q2,q3,l1,t0,t1,r1,r2,r3,r4,Nat.zero_add,Nat.reduceMul,Nat.reduceAdd,b1,b2,b3,b4,b5,b6,i1,i2,i3,i4,i5,i6,Nat.reduceBEq,l1,etkA,etkB,etkC,ers,ers2,ekb,ekj,eix,dfq,List.length_map,List.append_nil,List.replicate_zero,Nat.add_zero,take_map_len,map_snoc,len_snoc,List.length_cons,List.length_nil,List.nil_append,List.length_append,List.length_replicate,List.set_cons_zero,List.set_cons_succ,Nat.reduceEqDiff,reduceIte,if_true,if_false,ptL_kill,poL_kill,kills_map poE,kills_map ratE,ratL_kill,spL_kill,LV.kill,kills,dice_kill];exact rfl):p:=e.mpr k
end H_c_DKnotsI
open H_c_DKnotsI in
theorem c_DKnotsI (l:List Int) (k:Nat) (hl:l.length≤500) (d:Nat) (hd1:1≤d) (hd:d≤6) (n:Nat) (hn:n≤2) (hk:k≤500):CallOKM Tryz.prog 57 ⟨2,[diceL l k],true⟩ [.eptr 0 2 0 0,nI64 d,nI64 n] (.list 3 ((knX l d k n).map ratL)) ⟨2,[diceL l (kiR l d k n).2.2],true⟩:=by
 have k1:=nxK_le (l:=l) hl hk
 have k2:=nxK_le (l:=l) hl k1
 have hb:=nxV_lt (l:=l) (k:=k) (n:=4) (by decide)
 obtain⟨hn1,hn2⟩:=kiN_in l k n
 obtain⟨ht1,ht2⟩:=dt_rl l k
 have h1r:rl 1=1:=rfl
 refine fnM Tryz.func57 ?_
 have etkA:True:=trivial
 have etkB:True:=trivial
 have etkC:True:=trivial
 have ers:True:=trivial
 have ers2:True:=trivial
 have ekb:True:=trivial
 have ekj:True:=trivial
 have eix:True:=trivial
 refine zg8 ?_
 refine st_callMp 0 rfl rfl rfl (dice_pure l _) (.cons .ptr (.cons (.imm (.pure rfl)) .nil)) .ptr (c_Next l k 4 (by omega) (by omega) (by omega) (by omega)) rfl (dice_pure l _) rfl ?_
 refine st_pure rfl (.bin rfl rfl (sub64 (by omega) (by omega))) ?_
 refine cp am1 (c_FInt (nxV l k 4-2) (by omega) (by omega)) ?_
 refine zg16 ?_
 refine wl_weak (Weak.own (t:=8) 24 3 rfl rfl) ?_
 refine lp1 (fun(i:Nat) L=>(((((((St.mk L.slot (hp [(0,⟨2,[diceL l (nxK l k)],true⟩),(7,⟨3,[ratL (dtV l k)],true⟩),(24,⟨3,(List.replicate i (dtV l k)).map ratL,true⟩)])).put (some 0) (.eptr 0 2 0 0)).put (some 1) (nI64 d)).put (some 7) (.eptr 7 3 0 0)).put (some 2) (nI64 n)).put (some 8) (.ref 24 3 0 i)).put (some 9) (nI64 i))) (fun i=>i≤d+1) (fun i=>d+1-i) 0 (Nat.zero_le _) ?_
 rintro i L1 hi
 refine zg8 ?_
 refine wl_if rfl (fun h18r h18=>?_) (fun h18r h18=>?_)
 ·have hi2:i≤d:=by omega
  have ers:=rep_snoc i (dtV l k)
  have etkA:((List.replicate i (dtV l k)).map ratL).take i=(List.replicate i (dtV l k)).map ratL:=List.take_of_length_le (by simp)
  refine zg8 ?_
  refine st_store rfl (.appX (d:=24) (news:=[ratL ((dtV l k))]) rfl rfl rfl rfl (by simp) (.inl rfl) (by decide) Tryz.underlying36 Tryz.underlying36 Z29a T29 rfl B29 (.inl ⟨23,0,_,rfl,by decide,rfl,rfl,by simp,rfl,by simp [pures,ratE.pure]⟩) (by simp;omega) (by simp;omega) (by decide)) ?_
  refine zg4 ?_
  refine wl_regW (Weak.kill _ 23) ?_
  refine zg1 ?_
  refine st_pure rfl (.bin rfl rfl (add1N (by omega))) ?_
  refine zg3 ?_
  exact nx1 (i+1) (by omega)
 ·obtain rfl:i=d+1:=by omega
  refine zg10 ?_
  refine st_pure rfl (.bin rfl rfl (add1N (by omega))) ?_
  refine st_callMp 0 rfl rfl rfl (dice_pure l _) (.cons .ptr (.cons (.imm (.pure rfl)) .nil)) .ptr (c_Next l (nxK l k) ((n+1:Nat):Int) (by omega) (by omega) (by omega) (by omega)) rfl (dice_pure l _) rfl ?_
  rw [←hn1]
  refine zg4 ?_
  refine lp4 (fun(c:Nat) (K:List Rat) (t:Rat) (j:Nat) L=>((((((St.mk L.slot (hp [(0,⟨2,[diceL l j],true⟩),(7,⟨3,[ratL t],true⟩),(24,⟨3,K.map ratL,true⟩)])).put (some 0) (.eptr 0 2 0 0)).put (some 1) (nI64 d)).put (some 7) (.eptr 7 3 0 0)).put (some 8) (.ref 24 3 0 K.length)).put (some 10) (nI64 c))) (fun c K t j=>kiI l d (kiN l k n) c K t j (kiR l d k n)) (fun c K t j=>c) (kiN l k n) (List.replicate (d+1) (dtV l k)) (dtV l k) (nxK l (nxK l k)) ⟨k2,by simp,by omega,fun x hx=>by rw [(List.mem_replicate.1 hx).2];omega,rfl⟩ ?_
  rintro c K t j L2 hI
  refine zg7 ?_
  refine wl_if rfl (fun h30r h30=>?_) (fun h30r h30=>?_)
  ·obtain⟨e,rfl⟩:∃ e,c=e+1:=⟨c-1,by omega⟩
   have hj5:=hI.hj
   have hjl:=nxK_le (l:=l) hl hj5
   have hKl:=hI.hl
   have hrt:=hI.ht
   have hrK:=hI.hK _ (getD_mem (p:=K) (i:=K.length-d) (by omega))
   have etkC:(K.map ratL).take K.length=K.map ratL:=List.take_of_length_le (by simp)
   have hb3:=nxV_lt (l:=l) (k:=j) (n:=3) (by decide)
   refine zg6 ?_
   refine wl_cut (fun L=>∃  (L1:St),(True)∧L=(((((((St.mk L1.slot (hp [(0,⟨2,[diceL l (ksJ l d K j)],true⟩),(7,⟨3,[ratL t],true⟩),(24,⟨3,K.map ratL,true⟩)])).put (some 0) (.eptr 0 2 0 0)).put (some 1) (nI64 d)).put (some 7) (.eptr 7 3 0 0)).put (some 8) (.ref 24 3 0 K.length)).put (some 10) (nI64 (e+1))).put (some 53) (bL (decide (ksB l d K t j))))) ?_ ?_
   ·refine wl_regA ?_
    refine any_segm 0 6 15 rfl (by decide +kernel) (by decide +kernel) ?_
    simp only [List.drop_zero,List.drop_succ_cons,List.take_succ_cons,List.take_zero]
    refine zg3 ?_
    refine st_pure rfl (.bin rfl rfl (add1N (by omega))) ?_
    refine zg2 ?_
    refine st_nil ?_
    refine any_1 6 _ (by decide +kernel) rfl ?_
    refine op_if 38 rfl (fun h38r h38=>?_) (fun h38r h38=>?_)
    ·have hL:K.length=d+1:=by omega
     have ekb:decide (ksB l d K t j)=true:=decide_eq_true (.inl hL)
     have ekj:(ksJ l d K j)=j:=if_pos hL
     refine zg1 ?_
     refine st_nil ?_
     refine any_1 7 _ (by decide +kernel) rfl ?_
     refine zg1 ?_
     refine st_nil ?_
     refine any_1 8 _ (by decide +kernel) rfl ?_
     refine zg1 ?_
     refine st_nil ?_
     refine any_1 9 _ (by decide +kernel) rfl ?_
     refine zg1 ?_
     refine st_nil ?_
     refine any_1 10 _ (by decide +kernel) rfl ?_
     refine zg1 ?_
     refine st_nil ?_
     refine any_segm 11 19 2 rfl (by decide +kernel) (by decide +kernel) ?_
     simp only [List.drop_zero,List.drop_succ_cons,List.take_succ_cons,List.take_zero]
     refine zg8 ?_
     refine st_nil ?_
     refine any_1 19 _ (by decide +kernel) rfl ?_
     try simp only [t1,dfq,Int.toNat_natCast,Nat.zero_add]
     refine zg1 ?_
     refine st_nil ?_
     refine any_1 20 _ (by decide +kernel) rfl ?_
     refine zg1 ?_
     refine st_nil ?_
     refine any_0 (by decide +kernel) ?_
     refine zg1 ?_
     exact⟨_,trivial,((put_id' (put_id' (put_id' (put_id' (put_id' (put_id' (mk_id' cl) cl) cl) cl) cl) cl) cl)).symm⟩
    ·have hL:¬K.length=d+1:=by omega
     have ekj:(ksJ l d K j)=nxK l j:=if_neg hL
     refine zg1 ?_
     refine st_nil ?_
     refine any_1 7 _ (by decide +kernel) rfl ?_
     refine st_callMp 0 (guardX (v:=false) rfl rfl (h38r) rfl) rfl rfl (dice_pure l _) (.cons .ptr (.cons (.imm (.pure rfl)) .nil)) .ptr (c_Next l j 3 (by omega) (by omega) (by omega) (by omega)) rfl (dice_pure l _) rfl ?_
     refine st_nil ?_
     refine any_1 8 _ (by decide +kernel) rfl ?_
     refine zg1 ?_
     refine st_nil ?_
     refine any_1 9 _ (by decide +kernel) rfl ?_
     refine zg1 ?_
     refine st_nil ?_
     refine any_1 10 _ (by decide +kernel) rfl ?_
     refine zg1 ?_
     refine st_nil ?_
     refine any_segm 11 19 2 rfl (by decide +kernel) (by decide +kernel) ?_
     simp only [List.drop_zero,List.drop_succ_cons,List.take_succ_cons,List.take_zero]
     refine op_if 43 rfl (fun h43r h43=>?_) (fun h43r h43=>?_)
     ·have ekb:decide (ksB l d K t j)=true:=decide_eq_true (.inr (.inl (by omega)))
      refine zg8 ?_
      refine st_nil ?_
      refine any_1 19 _ (by decide +kernel) rfl ?_
      try simp only [t1,dfq,Int.toNat_natCast,Nat.zero_add]
      refine zg1 ?_
      refine st_nil ?_
      refine any_1 20 _ (by decide +kernel) rfl ?_
      refine zg1 ?_
      refine st_nil ?_
      refine any_0 (by decide +kernel) ?_
      refine zg1 ?_
      exact⟨_,trivial,((put_id' (put_id' (put_id' (put_id' (put_id' (put_id' (mk_id' cl) cl) cl) cl) cl) cl) cl)).symm⟩
     ·refine zg5 ?_
      refine st_pure (guardX (v:=false) rfl rfl (h43r) rfl) (.bin rfl rfl (subNN (c:=K.length-d) (by omega) (by omega))) ?_
      refine zg2 ?_
      refine st_nil ?_
      refine any_1 19 _ (by decide +kernel) rfl ?_
      try simp only [t1,dfq,Int.toNat_natCast,Nat.zero_add]
      refine cp am2 (c_FSame t (K.getD (K.length-d) 0) (by omega)) ?_
      refine st_nil ?_
      refine any_1 20 _ (by decide +kernel) rfl ?_
      have ekb:decide (ksB l d K t j)=decide (t=K.getD (K.length-d) 0):=decide_eq_decide.2 ⟨fun h=>by rcases h with h | h | h<;>first | exact h | (exfalso;omega),fun h=>.inr (.inr h)⟩
      refine zg1 ?_
      refine st_nil ?_
      refine any_0 (by decide +kernel) ?_
      refine zg1 ?_
      exact⟨_,trivial,((put_id' (put_id' (put_id' (put_id' (put_id' (put_id' (mk_id' cl) cl) cl) cl) cl) cl) cl)).symm⟩
   ·rintro _ ⟨LR10,-,rfl⟩
    refine zg1 ?_
    refine wl_if rfl (fun h53r h53=>?_) (fun h53r h53=>?_)
    ·have hB:ksB l d K t j:=by simpa using h53
     have hJ:=ksJ_le (l:=l) (d:=d) (j:=j) (K:=K) hl hj5
     have hJ2:=nxK_le (l:=l) hl hJ
     have hF:=ksF_in l (ksJ l d K j)
     have hbA:=nxV_lt (l:=l) (k:=(ksJ l d K j)) (n:=3) (by decide)
     have hbB:=nxV_lt (l:=l) (k:=nxK l (ksJ l d K j)) (n:=2) (by decide)
     have haF:=rl_add t (ksF l (ksJ l d K j))
     refine wl_cut (fun L=>∃  (L1:St),(True)∧L=((((((St.mk L1.slot (hp [(0,⟨2,[diceL l (nxK l (nxK l (ksJ l d K j)))],true⟩),(7,⟨3,[ratL (t+ksF l (ksJ l d K j))],true⟩),(24,⟨3,K.map ratL,true⟩)])).put (some 0) (.eptr 0 2 0 0)).put (some 1) (nI64 d)).put (some 7) (.eptr 7 3 0 0)).put (some 8) (.ref 24 3 0 K.length)).put (some 10) (nI64 (e+1)))) ?_ ?_
     ·refine wl_regA ?_
      refine any_hoist 1 rfl rfl (by decide +kernel) (.move _) ?_
      refine any_hoist 4 rfl rfl (by decide +kernel) (.move _) ?_
      refine any_2 0 2 _ _ (by decide +kernel) rfl rfl ?_ ?_
      ·refine zg1 ?_
       refine st_nil ?_
       refine any_1 2 _ (by decide +kernel) rfl ?_
       refine st_callMp 0 rfl rfl rfl (dice_pure l _) (.cons .ptr (.cons (.imm (.pure rfl)) .nil)) .ptr (c_Next l (ksJ l d K j) 3 (by omega) (by omega) (by omega) (by omega)) rfl (dice_pure l _) rfl ?_
       refine st_nil ?_
       refine any_hoist 3 rfl rfl (by decide +kernel) (.bin rfl rfl (add64 (by omega) (by omega))) ?_
       refine any_1 5 _ (by decide +kernel) rfl ?_
       refine st_callMp 0 rfl rfl rfl (dice_pure l _) (.cons .ptr (.cons (.imm (.pure rfl)) .nil)) .ptr (c_Next l (nxK l (ksJ l d K j)) 2 (by omega) (by omega) (by omega) (by omega)) rfl (dice_pure l _) rfl ?_
       refine st_nil ?_
       refine any_1 6 _ (by decide +kernel) rfl ?_
       refine st_pure rfl (.bin rfl rfl (add64 (by omega) (by omega))) ?_
       refine st_nil ?_
       refine any_1 7 _ (by decide +kernel) rfl ?_
       refine cp am2 (c_FFrac (1+nxV l (ksJ l d K j) 3) (1+nxV l (nxK l (ksJ l d K j)) 2) (by omega) (by omega) (by omega) (by omega) (by omega)) ?_
       refine st_nil ?_
       refine any_1 8 _ (by decide +kernel) rfl ?_
       refine cp am2 (c_FRAdd t (ksF l (ksJ l d K j)) (by omega)) ?_
       refine st_nil ?_
       refine any_1 9 _ (by decide +kernel) rfl ?_
       refine zg1 ?_
       refine st_nil ?_
       refine any_0 (by decide +kernel) ?_
       refine zg1 ?_
       exact⟨_,trivial,((put_id' (put_id' (put_id' (put_id' (put_id' (mk_id' cl) cl) cl) cl) cl) cl)).symm⟩
      ·refine st_callMp 0 rfl rfl rfl (dice_pure l _) (.cons .ptr (.cons (.imm (.pure rfl)) .nil)) .ptr (c_Next l (ksJ l d K j) 3 (by omega) (by omega) (by omega) (by omega)) rfl (dice_pure l _) rfl ?_
       refine st_nil ?_
       refine any_hoist 3 rfl rfl (by decide +kernel) (.bin rfl rfl (add64 (by omega) (by omega))) ?_
       refine any_2 0 5 _ _ (by decide +kernel) rfl rfl ?_ ?_
       ·refine zg1 ?_
        refine st_nil ?_
        refine any_1 5 _ (by decide +kernel) rfl ?_
        refine st_callMp 0 rfl rfl rfl (dice_pure l _) (.cons .ptr (.cons (.imm (.pure rfl)) .nil)) .ptr (c_Next l (nxK l (ksJ l d K j)) 2 (by omega) (by omega) (by omega) (by omega)) rfl (dice_pure l _) rfl ?_
        refine st_nil ?_
        refine any_1 6 _ (by decide +kernel) rfl ?_
        refine st_pure rfl (.bin rfl rfl (add64 (by omega) (by omega))) ?_
        refine st_nil ?_
        refine any_1 7 _ (by decide +kernel) rfl ?_
        refine cp am2 (c_FFrac (1+nxV l (ksJ l d K j) 3) (1+nxV l (nxK l (ksJ l d K j)) 2) (by omega) (by omega) (by omega) (by omega) (by omega)) ?_
        refine st_nil ?_
        refine any_1 8 _ (by decide +kernel) rfl ?_
        refine cp am2 (c_FRAdd t (ksF l (ksJ l d K j)) (by omega)) ?_
        refine st_nil ?_
        refine any_1 9 _ (by decide +kernel) rfl ?_
        refine zg1 ?_
        refine st_nil ?_
        refine any_0 (by decide +kernel) ?_
        refine zg1 ?_
        exact⟨_,trivial,((put_id' (put_id' (put_id' (put_id' (put_id' (mk_id' cl) cl) cl) cl) cl) cl)).symm⟩
       ·refine st_callMp 0 rfl rfl rfl (dice_pure l _) (.cons .ptr (.cons (.imm (.pure rfl)) .nil)) .ptr (c_Next l (nxK l (ksJ l d K j)) 2 (by omega) (by omega) (by omega) (by omega)) rfl (dice_pure l _) rfl ?_
        refine st_nil ?_
        refine any_hoist 6 rfl rfl (by decide +kernel) (.bin rfl rfl (add64 (by omega) (by omega))) ?_
        refine any_2 0 7 _ _ (by decide +kernel) rfl rfl ?_ ?_
        ·refine zg1 ?_
         refine st_nil ?_
         refine any_1 7 _ (by decide +kernel) rfl ?_
         refine cp am2 (c_FFrac (1+nxV l (ksJ l d K j) 3) (1+nxV l (nxK l (ksJ l d K j)) 2) (by omega) (by omega) (by omega) (by omega) (by omega)) ?_
         refine st_nil ?_
         refine any_1 8 _ (by decide +kernel) rfl ?_
         refine cp am2 (c_FRAdd t (ksF l (ksJ l d K j)) (by omega)) ?_
         refine st_nil ?_
         refine any_1 9 _ (by decide +kernel) rfl ?_
         refine zg1 ?_
         refine st_nil ?_
         refine any_0 (by decide +kernel) ?_
         refine zg1 ?_
         exact⟨_,trivial,((put_id' (put_id' (put_id' (put_id' (put_id' (mk_id' cl) cl) cl) cl) cl) cl)).symm⟩
        ·refine cp am2 (c_FFrac (1+nxV l (ksJ l d K j) 3) (1+nxV l (nxK l (ksJ l d K j)) 2) (by omega) (by omega) (by omega) (by omega) (by omega)) ?_
         refine st_nil ?_
         refine any_1 0 _ (by decide +kernel) rfl ?_
         refine zg1 ?_
         refine st_nil ?_
         refine any_1 8 _ (by decide +kernel) rfl ?_
         refine cp am2 (c_FRAdd t (ksF l (ksJ l d K j)) (by omega)) ?_
         refine st_nil ?_
         refine any_1 9 _ (by decide +kernel) rfl ?_
         refine zg1 ?_
         refine st_nil ?_
         refine any_0 (by decide +kernel) ?_
         refine zg1 ?_
         exact⟨_,trivial,((put_id' (put_id' (put_id' (put_id' (put_id' (mk_id' cl) cl) cl) cl) cl) cl)).symm⟩
     ·rintro _ ⟨LR11,-,rfl⟩
      refine zg5 ?_
      first | refine st_store rfl (.appX (d:=24) (news:=[ratL ((t+ksF l (ksJ l d K j)))]) rfl rfl rfl rfl (by simp) (.inl rfl) (by decide) Tryz.underlying36 Tryz.underlying36 Z29a T29 rfl B29 (.inl ⟨65,0,_,rfl,by decide,rfl,rfl,by simp,rfl,by simp [pures,ratE.pure]⟩) (by simp;omega) (by simp;omega) (by decide)) ?_ | refine st_store rfl (.appX (d:=24) (news:=[ratL (t)]) rfl rfl rfl rfl (by simp) (.inl rfl) (by decide) Tryz.underlying36 Tryz.underlying36 Z29a T29 rfl B29 (.inl ⟨65,0,_,rfl,by decide,rfl,rfl,by simp,rfl,by simp [pures,ratE.pure]⟩) (by simp;omega) (by simp;omega) (by decide)) ?_
      refine zg4 ?_
      refine wl_regW (Weak.kill _ 65) ?_
      refine zg1 ?_
      refine st_pure rfl (.bin rfl rfl (sub1N (by omega) (by omega))) ?_
      refine zg3 ?_
      exact nx4 e (K++[(t+ksF l (ksJ l d K j))]) (t+ksF l (ksJ l d K j)) (nxK l (nxK l (ksJ l d K j))) (hI.yes hl (by omega) hB)
    ·have hB:¬ksB l d K t j:=by simpa using h53
     refine zg6 ?_
     first | refine st_store rfl (.appX (d:=24) (news:=[ratL ((t+ksF l (ksJ l d K j)))]) rfl rfl rfl rfl (by simp) (.inl rfl) (by decide) Tryz.underlying36 Tryz.underlying36 Z29a T29 rfl B29 (.inl ⟨65,0,_,rfl,by decide,rfl,rfl,by simp,rfl,by simp [pures,ratE.pure]⟩) (by simp;omega) (by simp;omega) (by decide)) ?_ | refine st_store rfl (.appX (d:=24) (news:=[ratL (t)]) rfl rfl rfl rfl (by simp) (.inl rfl) (by decide) Tryz.underlying36 Tryz.underlying36 Z29a T29 rfl B29 (.inl ⟨65,0,_,rfl,by decide,rfl,rfl,by simp,rfl,by simp [pures,ratE.pure]⟩) (by simp;omega) (by simp;omega) (by decide)) ?_
     refine zg4 ?_
     refine wl_regW (Weak.kill _ 65) ?_
     refine zg1 ?_
     refine st_pure rfl (.bin rfl rfl (sub1N (by omega) (by omega))) ?_
     refine zg3 ?_
     exact nx4 e (K++[t]) t (ksJ l d K j) (hI.no hl (by omega) hB)
  ·obtain rfl:c=0:=by omega
   have hV:=hI.hR
   rw [kiV] at hV
   have hj5:=hI.hj
   have hKl:=hI.hl
   have hrt:=hI.ht
   have hrt1:=rl_add t 1
   refine zg6 ?_
   refine wl_regD 3 (by decide +kernel) ?_
   refine zg1 ?_
   refine cp am1 (c_FInt 1 (by decide) (by decide)) ?_
   refine cp am2 (c_FRAdd t 1 (by omega)) ?_
   refine zg10 ?_
   refine lp1 (fun(i:Nat) L=>(((((St.mk L.slot (hp [(0,⟨2,[diceL l j],true⟩),(7,⟨3,[ratL (t+1)],true⟩),(24,⟨3,(K++List.replicate i (t+1)).map ratL,true⟩)])).put (some 1) (nI64 d)).put (some 7) (.eptr 7 3 0 0)).put (some 8) (.ref 24 3 0 (K.length+i))).put (some 11) (nI64 i))) (fun i=>i≤d+1) (fun i=>d+1-i) 0 (Nat.zero_le _) ?_
   rintro i L3 hi
   refine zg8 ?_
   refine wl_if rfl (fun h72r h72=>?_) (fun h72r h72=>?_)
   ·have hi2:i≤d:=by omega
    have ers2:K++List.replicate i (t+1)++[t+1]=K++List.replicate (i+1) (t+1):=by rw [List.append_assoc,rep_snoc]
    have etkB:((K++List.replicate i (t+1)).map ratL).take (K.length+i)=(K++List.replicate i (t+1)).map ratL:=List.take_of_length_le (by simp)
    refine zg8 ?_
    refine st_store rfl (.appX (d:=24) (news:=[ratL (t+1)]) rfl rfl rfl rfl (by simp) (.inl rfl) (by decide) Tryz.underlying36 Tryz.underlying36 Z29a T29 rfl B29 (.inl ⟨77,0,_,rfl,by decide,rfl,rfl,by simp,rfl,by simp [pures,ratE.pure]⟩) (by simp;omega) (by simp;omega) (by decide)) ?_
    refine zg4 ?_
    refine wl_regW (Weak.kill _ 77) ?_
    refine zg1 ?_
    refine st_pure rfl (.bin rfl rfl (add1N (by omega))) ?_
    refine zg3 ?_
    exact nx1 (i+1) (by omega)
   ·obtain rfl:i=d+1:=by omega
    refine zg12 ?_
    have hE:K++List.replicate (d+1) (t+1)=knX l d k n:=by unfold knX;rw [←hV]
    have hE2:j=(kiR l d k n).2.2:=by rw [←hV]
    rw [←hE,←hE2]
    exact retMf [24] rfl rfl (imm_refm ratE rfl rfl (by simp)) rfl rfl (dice_pure l _)
end Go.Proofs.YtfpdccbgngdhkaaGreat
end
section
set_option linter.unusedVariables false
set_option linter.unusedSimpArgs false
namespace Go.Lg
theorem Weak.frz {L:St} {t:Nat} {x y:LV} (bs:List Nat) (h0:bs.contains 0=false) (h:L.slot t=x) (hi:Imm (L.frz bs).heap x y):Weak L ((L.frz bs).put (some t) y):=by
 rintro n W X Z0 a w ⟨hdf,hsz,μ,Z,hc,hr⟩
 obtain⟨Z',hc',hz⟩:=hc.widen (frz_le bs h0)
 refine⟨hdf,hsz,μ,Z',by rw [put_heap];exact hc',fun s=>?_⟩
 have hm:=RepV.mono hz (fun _ _ h=>h) (Frame.refl Z μ w) (hr s)
 rw [put_slot]
 split
 ·rename_i hst
  subst hst
  rw [h] at hm
  exact RepV.of1 (LV.pure_ne_tup hi.lay.2.2) (Imm.soundV (μ':=μ) hc' hi hm)
 ·exact hm
theorem Weak.hand {L:St} {t:Nat} {α:Type} {e:α→LV} {ag:Bool} {b sz len:Nat} {l:List α} {m:Bool} (he:EncOK e sz ag) (h:L.slot t=.ref b sz 0 len) (hb:L.heap b=some ⟨sz,l.map e,m⟩) (hl:len=l.length) (h0:b≠0:=by decide) :
  Weak L ((L.put (some t) (.list sz (l.map e))).kill b):=by
 have h0':([b]:List Nat).contains 0=false:=by simp;omega
 have e1:=(Weak.frz [b] h0' h (imm_refm (bs:=[b]) he hb (by simp) hl)).trans (Weak.kill _ b h0)
 have e2:((L.frz [b]).put (some t) (.list sz (l.map e))).kill b=(L.put (some t) (.list sz (l.map e))).kill b:=by
  unfold St.kill
  congr 1
  funext c
  rw [put_heap,put_heap]
  by_cases hcb:c=b
  ·simp [hcb]
  ·simp only [St.frz,if_neg hcb]
   cases L.heap c with
   | none=>rfl
   | some blk=>simp [hcb]
 rw [←e2]
 exact e1
end Go.Lg
end
section
set_option linter.unusedVariables false
set_option linter.unusedSimpArgs false
set_option maxHeartbeats 8000000
set_option maxRecDepth 100000
attribute [local irreducible] Go.Lg.opsL Go.Lg.wpL Go.Lg.thenL Go.Lg.blockL
namespace Go.Proofs.YtfpdccbgngdhkaaGreat
open Go.Lg
def prL (r:List PoR):LV:=.list 12 (r.map poL)
theorem prE:EncOK prL 1 false:=⟨fun _=>rfl,fun _=>rfl,fun p=>pure_lst poE 12 p⟩
theorem prZ:ZeroOK Tryz.prog 60 (prL []):=⟨Tryz.t60,_,by kernel_rfl,rfl,rfl,fun _ _ _=>repNil0 12⟩
theorem prL_kill (r:List PoR) (b:Nat):(prL r).kill b=prL r:=LV.kill_pure b _ (prE.pure r)
instance:EC Tryz.prog 60 prL 1 false []:=⟨prE,prZ,T60⟩
theorem rep_srf (d sz:Nat) (x y z u:LV) (Z:Nat→Prop) (μ:Nat→Option Nat) (w:World) (cs:List Value) (h:Rep Z μ w (.agg [x,y,z,u,.v (.slice none 0 0)]) cs):Rep Z μ w (.agg [x,y,z,u,.ref d sz 0 0]) cs:=by
 simp only [Rep,RepFs] at h ⊢
 obtain⟨c1,c2,e1,e2,e3,c3,c4,e4,e5,e6,c5,c6,e7,e8,e9,c7,c8,g1,g2,g3,c9,c10,g4,g5,g6,g7⟩:=h
 exact⟨c1,c2,e1,e2,e3,c3,c4,e4,e5,e6,c5,c6,e7,e8,e9,c7,c8,g1,g2,g3,c9,c10,g4,g5,.inl ⟨g6.1,trivial⟩,g7⟩
def gpV (w:Bool) (i j:Nat) (q:PoR):PoR :=
 bif w then q else⟨⟨((2*(i:Int):Int):Rat)+q.p.x*(((1:Int):Rat)/((8:Int):Rat)),((2*(j:Int):Int):Rat)+q.p.y*(((1:Int):Rat)/((8:Int):Rat)),q.p.z*(((1:Int):Rat)/((4:Int):Rat))⟩,q.w⟩
theorem gp_ok {w:Bool} {i j:Nat} {q:PoR} (h:okP 1 q) (hi:i≤100) (hj:j≤100):okP 4 (gpV w i j q):=by
 obtain⟨⟨h1,h2,h3⟩,h4,h5⟩:=h
 cases w with
 | true=>exact⟨⟨by show rl q.p.x≤4;omega,by show rl q.p.y≤4;omega,by show rl q.p.z≤4;omega⟩,by show rl q.w≤4;omega,h5⟩
 | false =>
  have e8:rl (((1:Int):Rat)/((8:Int):Rat))=1:=by decide +kernel
  have e4:rl (((1:Int):Rat)/((4:Int):Rat))=1:=by decide +kernel
  have a1:rl ((2*(i:Int):Int):Rat)≤1:=rl_int (by omega)
  have a2:rl ((2*(j:Int):Int):Rat)≤1:=rl_int (by omega)
  have m1:=rl_mul q.p.x (((1:Int):Rat)/((8:Int):Rat))
  have m2:=rl_mul q.p.y (((1:Int):Rat)/((8:Int):Rat))
  have m3:=rl_mul q.p.z (((1:Int):Rat)/((4:Int):Rat))
  have s1:=rl_add ((2*(i:Int):Int):Rat) (q.p.x*(((1:Int):Rat)/((8:Int):Rat)))
  have s2:=rl_add ((2*(j:Int):Int):Rat) (q.p.y*(((1:Int):Rat)/((8:Int):Rat)))
  exact⟨⟨by show rl (_+_)≤4;omega,by show rl (_+_)≤4;omega,by show rl (_*_)≤4;omega⟩,by show rl q.w≤4;omega,h5⟩
def srV (l:List Int) (w:Bool) (i:Nat):Nat→Nat→Nat→List PoR
 | _,0,_=>[]
 | j,c+1,k=>gpV w i j (dpV l k) :: srV l w i (j+1) c (dpK l k)
theorem srV_len (l:List Int) (w:Bool) (i:Nat):∀ c j k,(srV l w i j c k).length=c
 | 0,_,_=>rfl
 | c+1,j,k=>by simp [srV,srV_len l w i c]
theorem srV_ok (l:List Int) (w:Bool) {i:Nat} (hi:i≤100):∀ c j k,j+c≤100→∀ q∈srV l w i j c k,okP 4 q
 | 0,_,_,_,q,h=>by simp [srV] at h
 | c+1,j,k,hj,q,h=>by
  simp only [srV,List.mem_cons] at h
  rcases h with rfl | h
  ·exact gp_ok ⟨d3_rl l k,dw_rl _ _,dw_pos _ _⟩ hi (by omega)
  ·exact srV_ok l w hi c (j+1) _ (by omega) q h
def ssV (l:List Int) (w:Bool) (b:Nat):Nat→Nat→Nat→List (List PoR)
 | _,0,_=>[]
 | i,c+1,k=>srV l w i 0 b k :: ssV l w b (i+1) c (dqK l k b)
def ssK (l:List Int) (b:Nat):Nat→Nat→Nat
 | 0,k=>k
 | c+1,k=>ssK l b c (dqK l k b)
theorem ssV_len (l:List Int) (w:Bool) (b:Nat):∀ c i k,(ssV l w b i c k).length=c
 | 0,_,_=>rfl
 | c+1,i,k=>by simp [ssV,ssV_len l w b c]
theorem ssV_ok (l:List Int) (w:Bool) {b:Nat} (hb:b≤100):∀ c i k,i+c≤100→∀ r∈ssV l w b i c k,r.length=b∧∀ q∈r,okP 4 q
 | 0,_,_,_,r,h=>by simp [ssV] at h
 | c+1,i,k,hi,r,h=>by
  simp only [ssV,List.mem_cons] at h
  rcases h with rfl | h
  ·exact⟨srV_len ..,srV_ok l w (by omega) b 0 k (by omega)⟩
  ·exact ssV_ok l w hb c (i+1) _ (by omega) r h
theorem knX_in (l:List Int) {k d m:Nat} (hl:l.length≤500) (hk:k≤500) (hd1:1≤d) (hd:d≤6) (hm:m≤2):kOK (knX l d k m) d∧(knX l d k m).length=2*(d+1)+kiN l k m∧(kiR l d k m).2.2≤500:=by
 obtain⟨hN1,hN2⟩:=kiN_in l k m
 obtain⟨hT,hT1⟩:=dt_rl l k
 have hr1:rl 1=1:=rfl
 obtain⟨inn,t,j',e,hil,hin,hrt,hlt⟩:=ki_in l (d:=d) (n:=kiN l k m) (T:=dtV l k) hd1 (by omega) hT (nxK l (nxK l k))
 have ht1:=rl_add t 1
 have eK:knX l d k m=kx d (dtV l k) inn (t+1):=by
  unfold knX kiR kx
  rw [e,List.append_assoc]
 refine⟨by rw [eK];exact kx_ok hd1 hd (by omega) (by omega) hlt hin,?_,?_⟩
 ·rw [eK,kx_len,hil]
 ·have k1:=nxK_le (l:=l) hl hk
  have k2:=nxK_le (l:=l) hl k1
  have gen:∀ (c:Nat) (K:List Rat) (t:Rat) (j:Nat),j≤500→(kiV l d c K t j).2.2≤500:=by
   intro c
   induction c with
   | zero=>intro K t j hj;exact hj
   | succ c ih =>
    intro K t j hj
    rw [kiV]
    split
    ·exact ih _ _ _ (nxK_le hl (nxK_le hl (ksJ_le hl hj)))
    ·exact ih _ _ _ (ksJ_le hl hj)
  exact gen _ _ _ _ k2
def sU (l:List Int) (k n:Nat):Nat:=cD l k n
def sV (l:List Int) (k n:Nat):Nat:=cD l (nxK l k) n
def sJ2 (l:List Int) (k:Nat):Nat:=nxK l (nxK l k)
def sJ3 (l:List Int) (k n m:Nat):Nat:=(kiR l (sU l k n) (sJ2 l k) m).2.2
def sJ4 (l:List Int) (k n m:Nat):Nat:=(kiR l (sV l k n) (sJ3 l k n m) m).2.2
def sKU (l:List Int) (k n m:Nat):List Rat:=knX l (sU l k n) (sJ2 l k) m
def sKV (l:List Int) (k n m:Nat):List Rat:=knX l (sV l k n) (sJ3 l k n m) m
def sWd (l:List Int) (k n m:Nat):Bool:=decide (nxV l (sJ4 l k n m) 3=2)
def sA (l:List Int) (k n m:Nat):Nat:=sU l k n+1+kiN l (sJ2 l k) m
def sB (l:List Int) (k n m:Nat):Nat:=sV l k n+1+kiN l (sJ3 l k n m) m
def sR (l:List Int) (k n m:Nat):List (List PoR):=ssV l (sWd l k n m) (sB l k n m) 0 (sA l k n m) (nxK l (sJ4 l k n m))
def sE (l:List Int) (k n m:Nat):Nat:=ssK l (sB l k n m) (sA l k n m) (nxK l (sJ4 l k n m))
structure sIn (l:List Int) (k n m:Nat):Prop where
 u1:1≤sU l k n
 un:sU l k n≤n
 ue:(sU l k n:Int)=1+nxV l k (n:Int)
 v1:1≤sV l k n
 vn:sV l k n≤n
 ve:(sV l k n:Int)=1+nxV l (nxK l k) (n:Int)
 j1:nxK l k≤500
 j2:sJ2 l k≤500
 j3:sJ3 l k n m≤500
 j4:sJ4 l k n m≤500
 j5:nxK l (sJ4 l k n m)≤500
 ku:kOK (sKU l k n m) (sU l k n)
 kv:kOK (sKV l k n m) (sV l k n)
 lu:(sKU l k n m).length=sU l k n+1+sA l k n m
 lv:(sKV l k n m).length=sV l k n+1+sB l k n m
 a8:sA l k n m≤9
 b8:sB l k n m≤9
 rl:(sR l k n m).length=sA l k n m
 rk:∀ r∈sR l k n m,r.length=sB l k n m∧∀ q∈r,okP 4 q
theorem s_in (l:List Int) {k n m:Nat} (hl:l.length≤500) (hk:k≤500) (hn:0<n) (hn6:n≤6) (hm:m≤2):sIn l k n m:=by
 obtain⟨u1,un,ue⟩:=cD_in l k hn
 obtain⟨v1,vn,ve⟩:=cD_in l (nxK l k) hn
 have j1:=nxK_le (l:=l) hl hk
 have j2:sJ2 l k≤500:=nxK_le (l:=l) hl j1
 obtain⟨ku,lu,j3⟩:=knX_in l (d:=sU l k n) (m:=m) hl j2 u1 (Nat.le_trans un hn6) hm
 have j3:sJ3 l k n m≤500:=j3
 obtain⟨kv,lv,j4⟩:=knX_in l (k:=sJ3 l k n m) (d:=sV l k n) (m:=m) hl j3 v1 (Nat.le_trans vn hn6) hm
 have n1:=(kiN_in l (sJ2 l k) m).2
 have n2:=(kiN_in l (sJ3 l k n m) m).2
 have ha:sA l k n m≤9:=by unfold sA;have:sU l k n≤n:=un;omega
 have hb:sB l k n m≤9:=by unfold sB;have:sV l k n≤n:=vn;omega
 exact⟨u1,un,ue,v1,vn,ve,j1,j2,j3,j4,nxK_le hl j4,ku,kv,by unfold sKU sA;omega,by unfold sKV sB;omega,ha,hb,ssV_len ..,ssV_ok l _ (by omega) _ _ _ (by omega)⟩
theorem dp_ok (l:List Int) (q:Nat):okP 1 (dpV l q):=⟨d3_rl l q,dw_rl _ _,dw_pos _ _⟩
theorem gp_sz {x y z:Rat} {i j:Nat} (h1:rl x≤1) (h2:rl y≤1) (h3:rl z≤1) (hi:i≤100) (hj:j≤100) :
  rl (((1:Int):Rat)/((8:Int):Rat))=1∧rl (((1:Int):Rat)/((4:Int):Rat))=1∧rl ((2*(i:Int):Int):Rat)+rl (x*(((1:Int):Rat)/((8:Int):Rat)))≤4∧rl ((2*(j:Int):Int):Rat)+rl (y*(((1:Int):Rat)/((8:Int):Rat)))≤4∧rl (z*(((1:Int):Rat)/((4:Int):Rat)))≤4:=by
 have e8:rl (((1:Int):Rat)/((8:Int):Rat))=1:=by decide +kernel
 have e4:rl (((1:Int):Rat)/((4:Int):Rat))=1:=by decide +kernel
 have a1:rl ((2*(i:Int):Int):Rat)≤1:=rl_int (by omega)
 have a2:rl ((2*(j:Int):Int):Rat)≤1:=rl_int (by omega)
 have m1:=rl_mul x (((1:Int):Rat)/((8:Int):Rat))
 have m2:=rl_mul y (((1:Int):Rat)/((8:Int):Rat))
 have m3:=rl_mul z (((1:Int):Rat)/((4:Int):Rat))
 exact⟨e8,e4,by omega,by omega,by omega⟩
namespace H_c_DSurface
theorem zSm {p q:Prop} (k:q) (e:p=q:=by simp only [e1,e2,e3,e4,p1,p2,p3,q1,q2,q3,l1,t0,t1,r1,r2,r3,r4,Nat.zero_add,Nat.reduceMul,Nat.reduceAdd,b1,b2,b3,b4,b5,b6,i1,i2,i3,i4,i5,i6,Nat.reduceBEq,l1,etk,egp,egq,frz_nil,hlu,hlv,prL_kill,kills_map prE,List.length_map,take_map_len,map_snoc,len_snoc,List.length_cons,List.length_nil,List.length_map,List.set_cons_zero,List.set_cons_succ,Nat.reduceEqDiff,reduceIte,if_true,if_false,ptL_kill,poL_kill,kills_map poE,kills_map ratE,ratL_kill,spL_kill,LV.kill,kills,dice_kill];exact rfl):p:=e.mpr k
end H_c_DSurface
open H_c_DSurface in
theorem c_DSurface (l:List Int) (k:Nat) (hl:l.length≤500) (n:Nat) (hn:0<n) (hn6:n≤6) (m:Nat) (hm:m≤2) (hk:k≤500):CallOKM Tryz.prog 11 ⟨2,[diceL l k],true⟩ [.eptr 0 2 0 0,nI64 n,nI64 m] (.agg [nI64 (sU l k n),nI64 (sV l k n),.list 3 ((sKU l k n m).map ratL),.list 3 ((sKV l k n m).map ratL),.list 1 ((sR l k n m).map prL)]) ⟨2,[diceL l (sE l k n m)],true⟩:=by
 have hS:=s_in l hl hk hn hn6 hm
 have hu1:=hS.u1
 have hun:=hS.un
 have hv1:=hS.v1
 have hvn:=hS.vn
 have hj1:=hS.j1
 have hj2:=hS.j2
 have hj3:=hS.j3
 have hj4:=hS.j4
 have hj5:=hS.j5
 have hlu:=hS.lu
 have hlv:=hS.lv
 have ha8:=hS.a8
 have hb8:=hS.b8
 have hb:=nxV_lt (l:=l) (k:=k) (n:=(n:Int)) (by omega)
 have hb1:=nxV_lt (l:=l) (k:=nxK l k) (n:=(n:Int)) (by omega)
 have hA:binI .add .i64 1 (nxV l k (n:Int))=some (.int .i64 (((sU l k n):Nat):Int)):=by rw [hS.ue];exact add64 (by omega) (by omega)
 have hA2:binI .add .i64 1 (nxV l (nxK l k) (n:Int))=some (.int .i64 (((sV l k n):Nat):Int)):=by rw [hS.ve];exact add64 (by omega) (by omega)
 have hku:=pure_lst ratE 3 (sKU l k n m)
 have hkv:=pure_lst ratE 3 (sKV l k n m)
 refine fnM Tryz.func11 ?_
 have etk:True:=trivial
 have egp:True:=trivial
 have egq:True:=trivial
 refine zg9 ?_
 refine st_callMp 0 rfl rfl rfl (dice_pure l _) (.cons .ptr (.cons (.imm (.pure rfl)) .nil)) .ptr (c_Next l k n (by omega) (by omega) (by omega) (by omega)) rfl (dice_pure l _) rfl ?_
 refine st_pure rfl (.bin rfl rfl (hA)) ?_
 refine zg2 ?_
 refine st_callMp 0 rfl rfl rfl (dice_pure l _) (.cons .ptr (.cons (.imm (.pure rfl)) .nil)) .ptr (c_Next l (nxK l k) n (by omega) (by omega) (by omega) (by omega)) rfl (dice_pure l _) rfl ?_
 refine st_pure rfl (.bin rfl rfl (hA2)) ?_
 refine zg6 ?_
 refine wl_cut (fun L=>∃  (L1:St),(True)∧L=((((St.mk L1.slot (hp [(0,⟨2,[diceL l (sJ4 l k n m)],true⟩),(6,⟨5,[.agg [.v (.int .i64 0),.v (.int .i64 0),.v (.slice none 0 0),.v (.slice none 0 0),.v (.slice none 0 0)]],true⟩),(7,⟨5,[.agg [nI64 (sU l k n),nI64 (sV l k n),.list 3 ((sKU l k n m).map ratL),.list 3 ((sKV l k n m).map ratL),.v (.slice none 0 0)]],true⟩)])).put (some 0) (.eptr 0 2 0 0)).put (some 6) (.eptr 6 5 0 0)).put (some 7) (.eptr 7 5 0 0))) ?_ ?_
 ·refine wl_regA ?_
  refine any_hoist 0 rfl rfl (by decide +kernel) (.move _) ?_
  refine any_hoist 1 rfl rfl (by decide +kernel) faA ?_
  refine any_hoist 3 rfl rfl (by decide +kernel) (.move _) ?_
  refine any_hoist 5 rfl rfl (by decide +kernel) (.move _) ?_
  refine any_hoist 6 rfl rfl (by decide +kernel) faA ?_
  refine any_hoist 8 rfl rfl (by decide +kernel) (.move _) ?_
  refine any_2 2 7 _ _ (by decide +kernel) rfl rfl ?_ ?_
  ·refine zg1 ?_
   refine st_nil ?_
   refine any_2 4 7 _ _ (by decide +kernel) rfl rfl ?_ ?_
   ·refine st_callMp 0 rfl rfl rfl (dice_pure l _) (.cons .ptr (.cons (.imm (.pure rfl)) (.cons (.imm (.pure rfl)) .nil))) .ptr (c_DKnotsI l (sJ2 l k) (by omega) (sU l k n) (by omega) (by omega) m hm (by omega)) rfl (dice_pure l _) (pure_lst ratE 3 _) ?_
    refine st_nil ?_
    refine any_1 7 _ (by decide +kernel) rfl ?_
    refine zg1 ?_
    refine st_nil ?_
    refine any_hoist 10 rfl rfl (by decide +kernel) faA ?_
    refine any_1 9 _ (by decide +kernel) rfl ?_
    refine st_callMp 0 rfl rfl rfl (dice_pure l _) (.cons .ptr (.cons (.imm (.pure rfl)) (.cons (.imm (.pure rfl)) .nil))) .ptr (c_DKnotsI l (sJ3 l k n m) (by omega) (sV l k n) (by omega) (by omega) m hm (by omega)) rfl (dice_pure l _) (pure_lst ratE 3 _) ?_
    refine st_nil ?_
    refine any_1 11 _ (by decide +kernel) rfl ?_
    refine zg1 ?_
    refine st_nil ?_
    refine any_1 12 _ (by decide +kernel) rfl ?_
    refine zg1 ?_
    refine st_nil ?_
    refine any_1 13 _ (by decide +kernel) rfl ?_
    refine zg1 ?_
    refine st_nil ?_
    refine any_0 (by decide +kernel) ?_
    refine zg1 ?_
    exact⟨_,trivial,((put_id' (put_id' (put_id' (mk_id' cl) cl) cl) cl)).symm⟩
   ·refine zg1 ?_
    refine st_nil ?_
    refine any_1 4 _ (by decide +kernel) rfl ?_
    refine st_callMp 0 rfl rfl rfl (dice_pure l _) (.cons .ptr (.cons (.imm (.pure rfl)) (.cons (.imm (.pure rfl)) .nil))) .ptr (c_DKnotsI l (sJ2 l k) (by omega) (sU l k n) (by omega) (by omega) m hm (by omega)) rfl (dice_pure l _) (pure_lst ratE 3 _) ?_
    refine st_nil ?_
    refine any_hoist 10 rfl rfl (by decide +kernel) faA ?_
    refine any_1 9 _ (by decide +kernel) rfl ?_
    refine st_callMp 0 rfl rfl rfl (dice_pure l _) (.cons .ptr (.cons (.imm (.pure rfl)) (.cons (.imm (.pure rfl)) .nil))) .ptr (c_DKnotsI l (sJ3 l k n m) (by omega) (sV l k n) (by omega) (by omega) m hm (by omega)) rfl (dice_pure l _) (pure_lst ratE 3 _) ?_
    refine st_nil ?_
    refine any_1 11 _ (by decide +kernel) rfl ?_
    refine zg1 ?_
    refine st_nil ?_
    refine any_1 12 _ (by decide +kernel) rfl ?_
    refine zg1 ?_
    refine st_nil ?_
    refine any_1 13 _ (by decide +kernel) rfl ?_
    refine zg1 ?_
    refine st_nil ?_
    refine any_0 (by decide +kernel) ?_
    refine zg1 ?_
    exact⟨_,trivial,((put_id' (put_id' (put_id' (mk_id' cl) cl) cl) cl)).symm⟩
  ·refine zg1 ?_
   refine st_nil ?_
   refine any_1 2 _ (by decide +kernel) rfl ?_
   refine zg1 ?_
   refine st_nil ?_
   refine any_1 4 _ (by decide +kernel) rfl ?_
   refine st_callMp 0 rfl rfl rfl (dice_pure l _) (.cons .ptr (.cons (.imm (.pure rfl)) (.cons (.imm (.pure rfl)) .nil))) .ptr (c_DKnotsI l (sJ2 l k) (by omega) (sU l k n) (by omega) (by omega) m hm (by omega)) rfl (dice_pure l _) (pure_lst ratE 3 _) ?_
   refine st_nil ?_
   refine any_hoist 10 rfl rfl (by decide +kernel) faA ?_
   refine any_1 9 _ (by decide +kernel) rfl ?_
   refine st_callMp 0 rfl rfl rfl (dice_pure l _) (.cons .ptr (.cons (.imm (.pure rfl)) (.cons (.imm (.pure rfl)) .nil))) .ptr (c_DKnotsI l (sJ3 l k n m) (by omega) (sV l k n) (by omega) (by omega) m hm (by omega)) rfl (dice_pure l _) (pure_lst ratE 3 _) ?_
   refine st_nil ?_
   refine any_1 11 _ (by decide +kernel) rfl ?_
   refine zg1 ?_
   refine st_nil ?_
   refine any_1 12 _ (by decide +kernel) rfl ?_
   refine zg1 ?_
   refine st_nil ?_
   refine any_1 13 _ (by decide +kernel) rfl ?_
   refine zg1 ?_
   refine st_nil ?_
   refine any_0 (by decide +kernel) ?_
   refine zg1 ?_
   exact⟨_,trivial,((put_id' (put_id' (put_id' (mk_id' cl) cl) cl) cl)).symm⟩
 ·rintro _ ⟨LR2,-,rfl⟩
  refine zg4 ?_
  refine st_callMp 0 rfl rfl rfl (dice_pure l _) (.cons .ptr (.cons (.imm (.pure rfl)) .nil)) .ptr (c_Next l (sJ4 l k n m) 3 (by omega) (by omega) (by omega) (by omega)) rfl (dice_pure l _) rfl ?_
  refine zg11 ?_
  refine wl_weak ((Weak.cell 7 rfl (fun Z μ w cs h=>rep_srf 100 1 _ _ _ _ Z μ w cs h)).trans (Weak.newB _ 100 1 rfl)) ?_
  refine lp4 (fun(i p c:Nat) (o:List (List PoR)) L=>((((((St.mk L.slot (hp [(0,⟨2,[diceL l p],true⟩),(6,⟨5,[.agg [.v (.int .i64 0),.v (.int .i64 0),.v (.slice none 0 0),.v (.slice none 0 0),.v (.slice none 0 0)]],true⟩),(7,⟨5,[.agg [nI64 (sU l k n),nI64 (sV l k n),.list 3 ((sKU l k n m).map ratL),.list 3 ((sKV l k n m).map ratL),.ref 100 1 0 i]],true⟩),(100,⟨1,o.map prL,true⟩)])).put (some 0) (.eptr 0 2 0 0)).put (some 6) (.eptr 6 5 0 0)).put (some 7) (.eptr 7 5 0 0)).put (some 8) (bL (sWd l k n m))).put (some 9) (nI64 i))) (fun i p c o=>p≤500∧o.length=i∧i+c=(sA l k n m)∧o++ssV l (sWd l k n m) (sB l k n m) i c p=sR l k n m∧ssK l (sB l k n m) c p=sE l k n m) (fun i p c o=>c) 0 (nxK l (sJ4 l k n m)) (sA l k n m) ([]) ⟨hj5,rfl,by simp,rfl,rfl⟩ ?_
  rintro i p c o L1 ⟨hp5,hol,hic,hR,hE⟩
  refine zg9 ?_
  refine st_pure rfl (.bin rfl rfl (sub64 (by omega) (by omega))) ?_
  refine st_pure rfl (.bin rfl rfl (sub64 (by omega) (by omega))) ?_
  refine zg3 ?_
  refine wl_if rfl (fun h45r h45=>?_) (fun h45r h45=>?_)
  ·have etk:(o.map prL).take i=o.map prL:=List.take_of_length_le (by simp;omega)
   obtain⟨e,rfl⟩:∃ e,c=e+1:=⟨c-1,by omega⟩
   refine zg16 ?_
   refine wl_weak (Weak.own (t:=10) 95 12 rfl rfl) ?_
   refine lp3 (fun(d q:Nat) (r:List PoR) L=>((((((((St.mk L.slot (hp [(0,⟨2,[diceL l q],true⟩),(6,⟨5,[.agg [.v (.int .i64 0),.v (.int .i64 0),.v (.slice none 0 0),.v (.slice none 0 0),.v (.slice none 0 0)]],true⟩),(7,⟨5,[.agg [nI64 (sU l k n),nI64 (sV l k n),.list 3 ((sKU l k n m).map ratL),.list 3 ((sKV l k n m).map ratL),.ref 100 1 0 i]],true⟩),(100,⟨1,o.map prL,true⟩),(95,⟨12,r.map poL,true⟩)])).put (some 0) (.eptr 0 2 0 0)).put (some 6) (.eptr 6 5 0 0)).put (some 7) (.eptr 7 5 0 0)).put (some 8) (bL (sWd l k n m))).put (some 9) (nI64 i)).put (some 10) (.ref 95 12 0 r.length)).put (some 11) (nI64 r.length))) (fun d q r=>q≤500∧r.length+d=(sB l k n m)∧r++srV l (sWd l k n m) i r.length d q=srV l (sWd l k n m) i 0 (sB l k n m) p∧dqK l q d=dqK l p (sB l k n m)) (fun d q r=>d) (sB l k n m) p ([]) ⟨hp5,by simp,rfl,rfl⟩ ?_
   rintro d q r L2 ⟨hq5,hrl,hV,hK⟩
   refine zg9 ?_
   refine st_pure rfl (.bin rfl rfl (sub64 (by omega) (by omega))) ?_
   refine st_pure rfl (.bin rfl rfl (sub64 (by omega) (by omega))) ?_
   refine zg3 ?_
   refine wl_if rfl (fun h56r h56=>?_) (fun h56r h56=>?_)
   ·obtain⟨f,rfl⟩:∃ f,d=f+1:=⟨d-1,by omega⟩
    obtain⟨⟨hx1,hx2,hx3⟩,hx4,_⟩:=dp_ok l q
    obtain⟨hz1,hz2,hz3,hz4,hz5⟩:=gp_sz (i:=i) (j:=r.length) hx1 hx2 hx3 (by omega) (by omega)
    skip
    refine zg7 ?_
    refine st_callMp 0 rfl rfl rfl (dice_pure l _) (.cons .ptr (.cons (.imm (.pure rfl)) .nil)) .ptr (c_Dpole l q (by omega) (by omega)) rfl (dice_pure l _) (poE.pure _) ?_
    refine zg11 ?_
    refine wl_if rfl (fun h62r h62=>?_) (fun h62r h62=>?_)
    ·have hwd:(sWd l k n m)=false:=by simpa using h62
     have egp:LV.agg [.agg [ratL (((2*(i:Int):Int):Rat)+(dpV l q).p.x*(((1:Int):Rat)/((8:Int):Rat))),ratL (((2*(r.length:Int):Int):Rat)+(dpV l q).p.y*(((1:Int):Rat)/((8:Int):Rat))),ratL ((dpV l q).p.z*(((1:Int):Rat)/((4:Int):Rat)))],ratL (dpV l q).w]=poL (gpV (sWd l k n m) i r.length (dpV l q)):=by unfold gpV;rw [hwd];rfl
     refine zg1 ?_
     refine wl_regD 11 (by decide +kernel) ?_
     refine zg1 ?_
     refine st_pure rfl (.bin rfl rfl (mul64 (by omega) (by omega))) ?_
     refine cp am1 (c_FInt (2*(i:Int)) (by omega) (by omega)) ?_
     refine zg3 ?_
     refine cp am2 (c_FFrac 1 8 (by decide) (by decide) (by decide) (by decide) (by decide)) ?_
     refine cp am2 (c_FRMul (dpV l q).p.x _ (by omega)) ?_
     refine cp am2 (c_FRAdd _ _ (by omega)) ?_
     refine zg6 ?_
     refine wl_regD 11 (by decide +kernel) ?_
     refine zg1 ?_
     refine st_pure rfl (.bin rfl rfl (mul64 (by omega) (by omega))) ?_
     refine cp am1 (c_FInt (2*(r.length:Int)) (by omega) (by omega)) ?_
     refine zg3 ?_
     refine cp am2 (c_FFrac 1 8 (by decide) (by decide) (by decide) (by decide) (by decide)) ?_
     refine cp am2 (c_FRMul (dpV l q).p.y _ (by omega)) ?_
     refine cp am2 (c_FRAdd _ _ (by omega)) ?_
     refine zg5 ?_
     refine wl_regD 7 (by decide +kernel) ?_
     refine zg3 ?_
     refine cp am2 (c_FFrac 1 4 (by decide) (by decide) (by decide) (by decide) (by decide)) ?_
     refine cp am2 (c_FRMul (dpV l q).p.z _ (by omega)) ?_
     refine zg9 ?_
     first | refine st_store rfl (.appX (d:=95) (news:=[poL (gpV (sWd l k n m) i r.length (dpV l q))]) rfl rfl rfl rfl (by simp) (.inl rfl) (by decide) Tryz.underlying60 Tryz.underlying60 Z62 T62 cs B62 (.inl ⟨94,0,_,rfl,by decide,rfl,rfl,by simp,rfl,by simp [pures,poE.pure]⟩) (by simp;omega) (by simp;omega) (by decide)) ?_ | refine st_store rfl (.appX (d:=95) (news:=[poL (dpV l q)]) rfl rfl rfl rfl (by simp) (.inl rfl) (by decide) Tryz.underlying60 Tryz.underlying60 Z62 T62 cs B62 (.inl ⟨94,0,_,rfl,by decide,rfl,rfl,by simp,rfl,by simp [pures,poE.pure]⟩) (by simp;omega) (by simp;omega) (by decide)) ?_
     refine zg4 ?_
     refine wl_regW ((Weak.kill _ 94).trans (Weak.kill _ 12)) ?_
     refine zg1 ?_
     refine st_pure rfl (.bin rfl rfl (add1N (by omega))) ?_
     refine zg3 ?_
     exact nx3 f (dpK l q) (r++[gpV (sWd l k n m) i r.length (dpV l q)]) ⟨dpK_le hl hq5,by simp;omega,by rw [List.append_assoc,len_snoc];exact hV,hK⟩
    ·have hwd:(sWd l k n m)=true:=by simpa using h62
     have egq:r++[(dpV l q)]=r++[(gpV (sWd l k n m) i r.length (dpV l q))]:=by unfold gpV;rw [hwd];rfl
     refine zg6 ?_
     first | refine st_store rfl (.appX (d:=95) (news:=[poL (gpV (sWd l k n m) i r.length (dpV l q))]) rfl rfl rfl rfl (by simp) (.inl rfl) (by decide) Tryz.underlying60 Tryz.underlying60 Z62 T62 cs B62 (.inl ⟨94,0,_,rfl,by decide,rfl,rfl,by simp,rfl,by simp [pures,poE.pure]⟩) (by simp;omega) (by simp;omega) (by decide)) ?_ | refine st_store rfl (.appX (d:=95) (news:=[poL (dpV l q)]) rfl rfl rfl rfl (by simp) (.inl rfl) (by decide) Tryz.underlying60 Tryz.underlying60 Z62 T62 cs B62 (.inl ⟨94,0,_,rfl,by decide,rfl,rfl,by simp,rfl,by simp [pures,poE.pure]⟩) (by simp;omega) (by simp;omega) (by decide)) ?_
     refine zg4 ?_
     refine wl_regW ((Weak.kill _ 94).trans (Weak.kill _ 12)) ?_
     refine zg1 ?_
     refine st_pure rfl (.bin rfl rfl (add1N (by omega))) ?_
     refine zg3 ?_
     exact nx3 f (dpK l q) (r++[gpV (sWd l k n m) i r.length (dpV l q)]) ⟨dpK_le hl hq5,by simp;omega,by rw [List.append_assoc,len_snoc];exact hV,hK⟩
   ·obtain rfl:d=0:=by omega
    rw [srV,List.append_nil] at hV
    rw [dqK] at hK
    subst hV hK
    refine zg5 ?_
    refine wl_regW (Weak.hand (t:=10) (b:=95) poE rfl rfl rfl) ?_
    refine zg4 ?_
    refine st_store rfl (.appX (d:=100) (news:=[prL (srV l (sWd l k n m) i 0 (sB l k n m) p)]) rfl rfl rfl rfl (by simp [kills_map prE];omega) (.inl rfl) (by decide) Tryz.underlying37 Tryz.underlying37 prZ T60 cs B60 (.inl ⟨99,0,_,rfl,by decide,rfl,rfl,by simp,rfl,by simp [pures,prE.pure]⟩) (by simp [kills_map prE];omega) (by simp [kills_map prE];omega) (by decide)) ?_
    refine zg5 ?_
    refine wl_regW (Weak.kill _ 99) ?_
    refine zg1 ?_
    refine st_pure rfl (.bin rfl rfl (add1N (by omega))) ?_
    refine zg3 ?_
    exact nx4 (i+1) (dqK l p (sB l k n m)) e (o++[srV l (sWd l k n m) i 0 (sB l k n m) p]) ⟨dqK_le hl _ _ hp5,by simp;omega,by omega,by rw [List.append_assoc];exact hR,hE⟩
  ·obtain rfl:c=0:=by omega
   rw [ssV,List.append_nil] at hR
   rw [ssK] at hE
   subst hol
   refine zg12 ?_
   rw [←hR,←hE]
   exact retMCf [100] rfl rfl rfl rfl rfl T39 (.agg (.cons (.pure rfl) (.cons (.pure rfl) (.cons (.pure hku) (.cons (.pure hkv) (.cons (imm_refm prE rfl rfl rfl) .nil)))))) rfl rfl (dice_pure l _)
theorem net_pure (u v:Int) (c:List Rat):LV.pure (.agg [iL u,iL v,.list 3 (c.map ratL)])=true:=by simp [LV.pure,pures,pures_map ratE]
theorem net_pureN (u v:Nat) (c:List Rat):LV.pure (.agg [nI64 u,nI64 v,.list 3 (c.map ratL)])=true:=net_pure u v c
theorem mulE {a b n:Nat} (h:a*b=n) (hn:n≤9223372036854775807):binI .mul .i64 (a:Nat) (b:Nat)=some (.int .i64 (n:Nat)):=by
 rw [mul64 (by rw [←Int.natCast_mul,h];omega) (by rw [←Int.natCast_mul,h];omega),←Int.natCast_mul,h]
def gL (n:Nat) (W:Nat→Rat):List Rat:=(List.range n).map W
theorem gL_len (n:Nat) (W:Nat→Rat):(gL n W).length=n:=by simp [gL]
theorem gL_succ (n:Nat) (W:Nat→Rat):gL (n+1) W=gL n W++[W n]:=by simp [gL,List.range_succ]
theorem gL_get {n:Nat} {W:Nat→Rat} {x:Nat} (h:x<n):(gL n W).getD x 0=W x:=by
 rw [List.getD_eq_getElem?_getD,List.getElem?_eq_getElem (by rw [gL_len];exact h)];simp [gL]
theorem take_gL (n:Nat) (W:Nat→Rat) (f:Rat→LV):((gL n W).map f).take n=(gL n W).map f:=by rw [List.take_of_length_le (by simp [gL_len])]
theorem ix_div {V i j:Nat} (h:j≤V):(i*(V+1)+j)/(V+1)=i:=by
 rw [Nat.add_comm,Nat.add_mul_div_right _ _ (Nat.succ_pos V),Nat.div_eq_of_lt (by omega),Nat.zero_add]
theorem ix_mod {V i j:Nat} (h:j≤V):(i*(V+1)+j) % (V+1)=j:=by
 rw [Nat.add_comm,Nat.add_mul_mod_self_right,Nat.mod_eq_of_lt (by omega)]
theorem ix_lt {U V i j:Nat} (hi:i≤U) (hj:j≤V):i*(V+1)+j<(U+1)*(V+1):=by
 have:=Nat.mul_le_mul_right (V+1) (show i+1≤U+1 by omega)
 rw [Nat.succ_mul] at this
 omega
theorem chsR_rl {n:Nat} (k:Nat) (hn:n≤40):rl (((chs n k:Nat):Int):Rat)≤2:=by
 rcases Nat.lt_or_ge n k with h | h
 ·rw [chs_gt h];decide
 ·have h1:=chR_rl hn _ (getD_mem (i:=k) (by rw [chR_len];omega))
  rw [chR_get h] at h1;exact h1
def wtV (U V:Nat) (c:List Rat) (x:Nat):Rat:=((chs U (x/(V+1)):Nat):Int)*((chs V (x % (V+1)):Nat):Int)*c.getD x 0
def swV (U V:Nat) (c:List Rat) (x:Nat):Rat:=c.getD (x % (U+1)*(V+1)+x/(U+1)) 0
def wtL (U V:Nat) (c:List Rat):List Rat:=gL ((U+1)*(V+1)) (wtV U V c)
def swL (U V:Nat) (c:List Rat):List Rat:=gL ((V+1)*(U+1)) (swV U V c)
theorem wt_rl {U V:Nat} {c:List Rat} {R:Nat} (hU:U≤40) (hV:V≤40) (hR:1≤R) (h:∀ x∈c,rl x≤R):∀ x∈wtL U V c,rl x≤R+6:=by
 intro x hx
 obtain⟨i,_,rfl⟩:=List.mem_map.1 hx
 have h1:=chsR_rl (n:=U) (i/(V+1)) hU
 have h2:=chsR_rl (n:=V) (i % (V+1)) hV
 have h3:=getD_rl hR h i
 have h4:=rl_mul (((chs U (i/(V+1)):Nat):Int):Rat) (((chs V (i % (V+1)):Nat):Int):Rat)
 have h5:=rl_mul ((((chs U (i/(V+1)):Nat):Int):Rat)*(((chs V (i % (V+1)):Nat):Int):Rat)) (c.getD i 0)
 show rl (wtV U V c i)≤_
 unfold wtV
 omega
theorem set_gd {W:Nat→Rat} {o:List Rat} {m:Nat} {v:Rat} (h:m<o.length) (hv:v=W m):(gL m W++o.drop m).set m v=gL (m+1) W++o.drop (m+1):=by
 subst hv
 rw [List.drop_eq_getElem_cons h,set_mid _ _ _ _ (gL_len m W).symm,gL_succ,List.append_assoc];rfl
theorem get_gd {W:Nat→Rat} {o:List Rat} {m:Nat}:(gL m W++o.drop m).getD m 0=o.getD m 0:=by
 rw [getD_app2 _ _ _ (by rw [gL_len];exact Nat.le_refl _),gL_len,Nat.sub_self,getD_dropR,Nat.add_zero]
section
variable (V1 V2 W U2:Nat) (x y:List Rat) (i j k:Nat)
def mL:Nat→List Rat→List Rat
 | 0,o=>o
 | l+1,o=>(mL l o).set ((i+k)*(W+1)+j+l) ((mL l o).getD ((i+k)*(W+1)+j+l) 0+x.getD (i*(V1+1)+j) 0*y.getD (k*(V2+1)+l) 0)
def mK:Nat→List Rat→List Rat
 | 0,o=>o
 | k+1,o=>mL V1 V2 W x y i j k (V2+1) (mK k o)
def mJ:Nat→List Rat→List Rat
 | 0,o=>o
 | j+1,o=>mK V1 V2 W x y i j (U2+1) (mJ j o)
def mI:Nat→List Rat→List Rat
 | 0,o=>o
 | i+1,o=>mJ V1 V2 W U2 x y i (V1+1) (mI i o)
end
def mTop (U1 V1 U2 V2:Nat) (a b:List Rat):List Rat:=mI V1 V2 (V1+V2) U2 (wtL U1 V1 a) (wtL U2 V2 b) (U1+1) (List.replicate ((U1+U2+1)*(V1+V2+1)) 0)
def dvV (U V:Nat) (o:List Rat) (x:Nat):Rat:=o.getD x 0/((((chs U (x/(V+1)):Nat):Int):Rat)*(((chs V (x % (V+1)):Nat):Int):Rat))
def tmL (U1 V1 U2 V2:Nat) (a b:List Rat):List Rat:=gL ((U1+U2+1)*(V1+V2+1)) (dvV (U1+U2) (V1+V2) (mTop U1 V1 U2 V2 a b))
namespace H_c_choose7
theorem zSm {p q:Prop} (k:q) (e:p=q:=by simp only [e1,e2,e3,e4,p1,p2,p3,q1,q2,q3,l1,t0,t1,r1,r2,r3,r4,Nat.zero_add,Nat.reduceMul,Nat.reduceAdd,b1,b2,b3,b4,b5,b6,i1,i2,i3,i4,i5,i6,Nat.reduceBEq,dfi,rtake,List.append_nil,rowI_len,ek1,ek2,egr,take_map_len,map_snoc,len_snoc,List.length_cons,List.length_nil,kills_map i64E,kills_map ratE,LV.kill,kills];exact rfl):p:=e.mpr k
end H_c_choose7
open H_c_choose7 in
theorem c_choose7 (n:Nat) (hn:n≤40):CallP Tryz.prog 266 [nI64 n] (.list 1 ((rowI n).map i64L)):=by
 refine fnP Tryz.func266 (ht:=(fun g=>LV.ren_pure g _ (pure_lst i64E _ _))) ?_
 have ek1:True:=trivial
 have ek2:True:=trivial
 have egr:True:=trivial
 refine zg19 ?_
 refine wl_weak (Weak.mv (t:=3) (b:=5) 11 (by decide) (by decide) (by decide) rfl rfl rfl) ?_
 refine lp1 (fun(k:Nat) L=>((((St.mk L.slot (hp [(11,⟨1,(rowI k).map i64L,true⟩)])).put (some 3) (.ref 11 1 0 (k+1))).put (some 6) (nI64 n)).put (some 7) (nI64 k))) (fun k=>k≤n) (fun k=>n-k) 0 (Nat.zero_le _) ?_
 rintro k L1 hk
 refine zg6 ?_
 refine wl_if rfl (fun h8r h8=>?_) (fun h8r h8=>?_)
 ·have hkn:k<n:=by omega
  have ek2:((((k+1+1:Nat)):Int)-2)=(k:Int):=by omega
  refine zg8 ?_
  refine st_store rfl (.app (news:=[i64L 1]) rfl rfl rfl rfl rfl (by simp [rowI_len]) (.inl rfl) (by decide) Tryz.underlying239 Tryz.underlying239 Z2 T2 rfl B2 (.inl ⟨10,0,_,rfl,by decide,rfl,rfl,by simp,rfl,rfl⟩) (by simp;omega) (by simp;omega) (by decide)) ?_
  refine zg4 ?_
  refine wl_regW (Weak.kill _ 10) ?_
  refine zg7 ?_
  refine lp2 (fun(i:Nat) (o:List Int) L=>(((((St.mk L.slot (hp [(11,⟨1,o.map i64L,true⟩)])).put (some 3) (.ref 11 1 0 (k+1+1))).put (some 4) (nI64 i)).put (some 6) (nI64 n)).put (some 7) (nI64 k))) (fun i o=>i≤k∧PasC k i o) (fun i o=>i) k (rowI k++[1]) ⟨Nat.le_refl _,pas_init k⟩ ?_
  rintro i o L2 ⟨hi,hP⟩
  refine zg7 ?_
  refine wl_if rfl (fun h16r h16=>?_) (fun h16r h16=>?_)
  ·obtain⟨j,rfl⟩:∃ j,i=j+1:=⟨i-1,by omega⟩
   have ek1:(((j+1:Nat):Int)-1)=(j:Int):=by omega
   have hol:=hP.1
   have hb1:=pas_bd hP (by omega) (x:=j+1) (by omega)
   have hb2:=pas_bd hP (by omega) (x:=j) (by omega)
   refine zg4 ?_
   refine wl_regD 11 (by decide +kernel) ?_
   refine zg21 ?_
   exact nx2 j (o.set (j+1) (o.getD (j+1) 0+o.getD j 0)) ⟨by omega,pas_step hP hi⟩
  ·obtain rfl:i=0:=by omega
   have hE:=pas_end hP
   subst hE
   refine zg11 ?_
   exact nx1 (k+1) (by omega)
 ·obtain rfl:n=k:=by omega
  refine zg12 ?_
  exact ret1f [11] rfl rfl (imm_refm i64E rfl rfl (by rw [rowI_len]))
open H0 in
theorem c_shaped (U V:Nat) (c:List Rat) (hc:c.length=(U+1)*(V+1)) (hl:c.length≤1048576):CallP Tryz.prog 212 [.agg [nI64 U,nI64 V,.list 3 (c.map ratL)]] (bL true):=by
 have hU:U+1≤c.length:=by rw [hc];exact Nat.le_mul_of_pos_right _ (Nat.succ_pos V)
 have hV:V+1≤c.length:=by rw [hc];exact Nat.le_mul_of_pos_left _ (Nat.succ_pos U)
 have hnp:=net_pureN U V c
 refine fnP Tryz.func212 ?_
 refine zg12 ?_
 refine st_pure (guardX (v:=true) rfl rfl ((decide_eq_true (by omega))) rfl) faA ?_
 refine st_pure (guardX (v:=true) rfl rfl ((decide_eq_true (by omega))) rfl) ldA ?_
 refine st_pure (guardX (v:=true) rfl rfl ((decide_eq_true (by omega))) rfl) (.bin rfl rfl rfl) ?_
 refine st_pure rfl (.pickT rfl ((decide_eq_true (by omega)))) ?_
 refine zg1 ?_
 refine st_pure (guardX (v:=true) rfl rfl ((decide_eq_true (by omega))) rfl) faA ?_
 refine st_pure (guardX (v:=true) rfl rfl ((decide_eq_true (by omega))) rfl) ldA ?_
 refine st_pure (guardX (v:=true) rfl rfl ((decide_eq_true (by omega))) rfl) faA ?_
 refine st_pure (guardX (v:=true) rfl rfl ((decide_eq_true (by omega))) rfl) ldA ?_
 refine st_pure (guardX (v:=true) rfl rfl ((decide_eq_true (by omega))) rfl) lnA ?_
 refine st_pure (guardX (v:=true) rfl rfl ((decide_eq_true (by omega))) rfl) (.bin rfl rfl rfl) ?_
 refine st_pure rfl (.pickT rfl ((decide_eq_true (by omega)))) ?_
 refine zg1 ?_
 refine st_pure (guardX (v:=true) rfl rfl ((decide_eq_true (by omega))) rfl) faA ?_
 refine st_pure (guardX (v:=true) rfl rfl ((decide_eq_true (by omega))) rfl) ldA ?_
 refine st_pure (guardX (v:=true) rfl rfl ((decide_eq_true (by omega))) rfl) faA ?_
 refine st_pure (guardX (v:=true) rfl rfl ((decide_eq_true (by omega))) rfl) ldA ?_
 refine st_pure (guardX (v:=true) rfl rfl ((decide_eq_true (by omega))) rfl) lnA ?_
 refine st_pure (guardX (v:=true) rfl rfl ((decide_eq_true (by omega))) rfl) (.bin rfl rfl rfl) ?_
 refine st_pure rfl (.pickT rfl ((decide_eq_true (by omega)))) ?_
 refine zg1 ?_
 refine st_pure (guardX (v:=true) rfl rfl ((decide_eq_true (by omega))) rfl) faA ?_
 refine st_pure (guardX (v:=true) rfl rfl ((decide_eq_true (by omega))) rfl) ldA ?_
 refine st_pure (guardX (v:=true) rfl rfl ((decide_eq_true (by omega))) rfl) lnA ?_
 refine st_pure (guardX (v:=true) rfl rfl ((decide_eq_true (by omega))) rfl) faA ?_
 refine st_pure (guardX (v:=true) rfl rfl ((decide_eq_true (by omega))) rfl) ldA ?_
 refine st_pure (guardX (v:=true) rfl rfl ((decide_eq_true (by omega))) rfl) (.bin rfl rfl (add1N (by omega))) ?_
 refine st_pure (guardX (v:=true) rfl rfl ((decide_eq_true (by omega))) rfl) faA ?_
 refine st_pure (guardX (v:=true) rfl rfl ((decide_eq_true (by omega))) rfl) ldA ?_
 refine st_pure (guardX (v:=true) rfl rfl ((decide_eq_true (by omega))) rfl) (.bin rfl rfl (add1N (by omega))) ?_
 refine st_pure (guardX (v:=true) rfl rfl ((decide_eq_true (by omega))) rfl) (.bin rfl rfl (mulE hc.symm (by omega))) ?_
 refine st_pure (guardX (v:=true) rfl rfl ((decide_eq_true (by omega))) rfl) (.bin rfl rfl rfl) ?_
 refine st_pure rfl (.pickT rfl ((decide_eq_true (by omega)))) ?_
 refine zg4 ?_
 refine ret1 (x:=.v (.bool (((c.length:Nat):Int)==((c.length:Nat):Int)))) rfl ?_
 rw [beq_self_eq_true]
 exact .pure rfl
namespace H_c_weighted
theorem zSm {p q:Prop} (k:q) (e:p=q:=by simp only [e1,e2,e3,e4,p1,p2,p3,q1,q2,q3,l1,t0,t1,r1,r2,r3,r4,Nat.zero_add,Nat.reduceMul,Nat.reduceAdd,b1,b2,b3,b4,b5,b6,i1,i2,i3,i4,i5,i6,Nat.reduceBEq,dfq,dfi,rowI_len,egu,egv,ewn,Nat.add_zero,take_gL,take_map_len,map_snoc,len_snoc,List.length_cons,List.length_nil,kills_map i64E,kills_map ratE,ratL_kill,spL_kill,LV.kill,kills];exact rfl):p:=e.mpr k
end H_c_weighted
open H_c_weighted in
theorem c_weighted (U V:Nat) (c:List Rat) (hc:c.length=(U+1)*(V+1)) (hl:c.length≤1048576) (hU4:U≤40) (hV4:V≤40) (R:Nat) (hR1:1≤R) (hR:R≤1073741824) (hcR:∀ x∈c,rl x≤R):CallP Tryz.prog 265 [.agg [nI64 U,nI64 V,.list 3 (c.map ratL)]] (.list 3 ((wtL U V c).map ratL)):=by
 have hU:U+1≤c.length:=by rw [hc];exact Nat.le_mul_of_pos_right _ (Nat.succ_pos V)
 have hV:V+1≤c.length:=by rw [hc];exact Nat.le_mul_of_pos_left _ (Nat.succ_pos U)
 have hnp:=net_pureN U V c
 refine fnP Tryz.func265 ?_
 have egu:True:=trivial
 have egv:True:=trivial
 have ewn:True:=trivial
 refine zg15 ?_
 refine cp am1 (c_choose7 V hV4) ?_
 refine zg8 ?_
 refine cp am1 (c_choose7 U hU4) ?_
 refine zg5 ?_
 refine wl_weak (Weak.own (t:=3) 47 3 rfl rfl) ?_
 refine lp2 (fun(i m:Nat) L=>(((((((St.mk L.slot (hp [(1,⟨3,[.agg [nI64 U,nI64 V,.list 3 (c.map ratL)]],true⟩),(47,⟨3,(gL m (wtV U V c)).map ratL,true⟩)])).put (some 1) (.eptr 1 3 0 0)).put (some 4) (.list 1 ((rowI V).map i64L))).put (some 14) (.list 1 ((rowI U).map i64L))).put (some 15) (nI64 (U+1))).put (some 16) (nI64 i)).put (some 3) (.ref 47 3 0 m))) (fun i m=>i≤U+1∧i*(V+1)=m) (fun i m=>U+1-i) 0 0 ⟨Nat.zero_le _,Nat.zero_mul _⟩ ?_
 rintro i m L1 ⟨hi,hm⟩
 refine zg6 ?_
 refine wl_if rfl (fun h17r h17=>?_) (fun h17r h17=>?_)
 ·have hi2:i≤U:=by omega
  have egu:=rowI_get hi2
  have hcu:=chs_40 i hU4
  refine zg21 ?_
  refine lp1 (fun(j:Nat) L=>((((((((((((St.mk L.slot (hp [(1,⟨3,[.agg [nI64 U,nI64 V,.list 3 (c.map ratL)]],true⟩),(47,⟨3,(gL (m+j) (wtV U V c)).map ratL,true⟩)])).put (some 1) (.eptr 1 3 0 0)).put (some 4) (.list 1 ((rowI V).map i64L))).put (some 14) (.list 1 ((rowI U).map i64L))).put (some 15) (nI64 (U+1))).put (some 16) (nI64 i)).put (some 3) (.ref 47 3 0 (m+j))).put (some 5) (nI64 i)).put (some 6) (nI64 (chs U i))).put (some 21) (.list 1 ((rowI V).map i64L))).put (some 22) (nI64 (V+1))).put (some 23) (nI64 j))) (fun j=>j≤V+1) (fun j=>V+1-j) 0 (Nat.zero_le _) ?_
  rintro j L2 hj
  refine zg6 ?_
  refine wl_if rfl (fun h24r h24=>?_) (fun h24r h24=>?_)
  ·have hj2:j≤V:=by omega
   have egv:=rowI_get hj2
   have hcv:=chs_40 j hV4
   have hix:=ix_lt hi2 hj2
   rw [hm,←hc] at hix
   have hgl:=gL_len (m+j) (wtV U V c)
   have ewn:gL (m+(j+1)) (wtV U V c)=gL (m+j) (wtV U V c)++[(((chs U i:Nat):Int):Rat)*(((chs V j:Nat):Int):Rat)*c.getD (m+j) 0]:=by rw [←Nat.add_assoc,gL_succ,wtV,←hm,ix_div hj2,ix_mod hj2]
   have hr1:=chsR_rl i hU4
   have hr2:=chsR_rl j hV4
   have hr3:=getD_rl hR1 hcR (m+j)
   have hr4:=rl_mul (((chs U i:Nat):Int):Rat) (((chs V j:Nat):Int):Rat)
   refine zg13 ?_
   refine wl_regD 19 (by decide +kernel) ?_
   refine zg2 ?_
   refine cp am1 (c_RInt ((chs U i:Nat):Int) (by omega) (by omega)) ?_
   refine zg1 ?_
   refine cp am1 (c_RInt ((chs V j:Nat):Int) (by omega) (by omega)) ?_
   refine cp am2 (c_RMul (((chs U i:Nat):Int):Rat) (((chs V j:Nat):Int):Rat) (by omega)) ?_
   refine zg5 ?_
   refine st_pure rfl (.bin rfl rfl (add1N (by omega))) ?_
   refine st_pure rfl (.bin rfl rfl (mulE hm (by omega))) ?_
   refine zg1 ?_
   refine st_pure rfl (.bin rfl rfl (add64N (by omega))) ?_
   refine zg2 ?_
   refine cp am2 (c_RMul ((((chs U i:Nat):Int):Rat)*(((chs V j:Nat):Int):Rat)) (c.getD (m+j) 0) (by omega)) ?_
   refine zg1 ?_
   refine st_store rfl (.app (news:=[ratL ((((chs U i:Nat):Int):Rat)*(((chs V j:Nat):Int):Rat)*c.getD (m+j) 0)]) rfl rfl rfl rfl rfl (by simp [gL_len]) (.inl rfl) (by decide) Tryz.underlying36 Tryz.underlying36 Z29a T29 rfl B29 (.inl ⟨46,0,_,rfl,by decide,rfl,rfl,by simp,rfl,by simp [pures,ratE.pure]⟩) (by simp;omega) (by simp;omega) (by decide)) ?_
   refine zg4 ?_
   refine wl_regW (Weak.kill _ 46) ?_
   refine zg4 ?_
   exact nx1 (j+1) (by omega)
  ·obtain rfl:j=V+1:=by omega
   refine zg11 ?_
   exact nx2 (i+1) (m+(V+1)) ⟨by omega,by rw [Nat.succ_mul];omega⟩
 ·obtain rfl:i=U+1:=by omega
  have hE:gL m (wtV U V c)=wtL U V c:=by rw [←hm];rfl
  refine zg12 ?_
  rw [←hE]
  exact ret1f [47] rfl rfl (imm_refm ratE rfl rfl (by rw [gL_len]))
namespace H_c_Swap
theorem zSm {p q:Prop} (k:q) (e:p=q:=by simp only [e1,e2,e3,e4,p1,p2,p3,q1,q2,q3,l1,t0,t1,r1,r2,r3,r4,Nat.zero_add,Nat.reduceMul,Nat.reduceAdd,b1,b2,b3,b4,b5,b6,i1,i2,i3,i4,i5,i6,Nat.reduceBEq,dfq,esw,Rat.add_zero,Nat.add_zero,take_gL,take_map_len,map_snoc,len_snoc,List.length_cons,List.length_nil,kills_map i64E,kills_map ratE,ratL_kill,spL_kill,LV.kill,kills];exact rfl):p:=e.mpr k
end H_c_Swap
open H_c_Swap in
theorem c_Swap (U V:Nat) (c:List Rat) (hc:c.length=(U+1)*(V+1)) (hl:c.length≤1048576) (hcR:∀ x∈c,rl x≤274877906944):CallP Tryz.prog 200 [.agg [nI64 U,nI64 V,.list 3 (c.map ratL)]] (.agg [nI64 V,nI64 U,.list 3 ((swL U V c).map ratL)]):=by
 have hU:U+1≤c.length:=by rw [hc];exact Nat.le_mul_of_pos_right _ (Nat.succ_pos V)
 have hV:V+1≤c.length:=by rw [hc];exact Nat.le_mul_of_pos_left _ (Nat.succ_pos U)
 have hnp:=net_pureN U V c
 refine fnP Tryz.func200 (ht:=(fun g=>LV.ren_pure g _ (net_pureN _ _ _))) ?_
 have esw:True:=trivial
 refine zg21 ?_
 refine cp am1 (c_shaped U V c hc hl) ?_
 refine zg11 ?_
 refine st_pure rfl (.bin rfl rfl (add1N (by omega))) ?_
 refine zg4 ?_
 refine wl_weak ((Weak.cell 3 rfl (fun Z μ w cs h=>rep_net 43 3 _ _ Z μ w cs h)).trans (Weak.newB _ 43 3 rfl)) ?_
 refine lp2 (fun(j m:Nat) L=>((((((St.mk L.slot (hp [(1,⟨3,[.agg [nI64 U,nI64 V,.list 3 (c.map ratL)]],true⟩),(2,⟨3,[.agg [.v (.int .i64 0),.v (.int .i64 0),.v (.slice none 0 0)]],true⟩),(3,⟨3,[.agg [nI64 V,nI64 U,.ref 43 3 0 m]],true⟩),(43,⟨3,(gL m (swV U V c)).map ratL,true⟩)])).put (some 1) (.eptr 1 3 0 0)).put (some 2) (.eptr 2 3 0 0)).put (some 3) (.eptr 3 3 0 0)).put (some 17) (nI64 (V+1))).put (some 18) (nI64 j))) (fun j m=>j≤V+1∧j*(U+1)=m) (fun j m=>V+1-j) 0 0 ⟨Nat.zero_le _,Nat.zero_mul _⟩ ?_
 rintro j m L1 ⟨hj,hm⟩
 refine zg6 ?_
 refine wl_if rfl (fun h19r h19=>?_) (fun h19r h19=>?_)
 ·have hj2:j≤V:=by omega
  refine zg14 ?_
  refine st_pure rfl (.bin rfl rfl (add1N (by omega))) ?_
  refine zg4 ?_
  refine lp1 (fun(i:Nat) L=>(((((((((St.mk L.slot (hp [(1,⟨3,[.agg [nI64 U,nI64 V,.list 3 (c.map ratL)]],true⟩),(2,⟨3,[.agg [.v (.int .i64 0),.v (.int .i64 0),.v (.slice none 0 0)]],true⟩),(3,⟨3,[.agg [nI64 V,nI64 U,.ref 43 3 0 (m+i)]],true⟩),(43,⟨3,(gL (m+i) (swV U V c)).map ratL,true⟩)])).put (some 1) (.eptr 1 3 0 0)).put (some 2) (.eptr 2 3 0 0)).put (some 3) (.eptr 3 3 0 0)).put (some 17) (nI64 (V+1))).put (some 18) (nI64 j)).put (some 4) (nI64 j)).put (some 23) (nI64 (U+1))).put (some 24) (nI64 i))) (fun i=>i≤U+1) (fun i=>U+1-i) 0 (Nat.zero_le _) ?_
  rintro i L2 hi
  refine zg6 ?_
  refine wl_if rfl (fun h25r h25=>?_) (fun h25r h25=>?_)
  ·have hi2:i≤U:=by omega
   have hmi:=ix_lt (U:=V) (V:=U) hj2 hi2
   rw [hm,Nat.mul_comm,←hc] at hmi
   have hix:=ix_lt hi2 hj2
   rw [←hc] at hix
   have hgl:=gL_len (m+i) (swV U V c)
   have esw:gL (m+(i+1)) (swV U V c)=gL (m+i) (swV U V c)++[c.getD (i*(V+1)+j) 0]:=by rw [←Nat.add_assoc,gL_succ,swV,←hm,ix_div hi2,ix_mod hi2]
   have hr1:=hcR _ (getD_mem (i:=i*(V+1)+j) hix)
   refine zg10 ?_
   refine wl_regD 16 (by decide +kernel) ?_
   refine zg7 ?_
   refine st_pure rfl (.bin rfl rfl (add1N (by omega))) ?_
   refine st_pure rfl (.bin rfl rfl (mulE rfl (by omega))) ?_
   refine zg1 ?_
   refine st_pure rfl (.bin rfl rfl (add64N (by omega))) ?_
   refine zg2 ?_
   refine st_pure rfl (.build0 SL29 Z29a) ?_
   refine cp am2 (c_RAdd (c.getD (i*(V+1)+j) 0) 0 (by rw [show rl 0=1 from rfl];omega)) ?_
   refine zg1 ?_
   refine st_store rfl (.app (news:=[ratL (c.getD (i*(V+1)+j) 0+0)]) rfl rfl rfl rfl rfl (by simp [gL_len]) (.inl rfl) (by decide) Tryz.underlying36 Tryz.underlying36 Z29a T29 rfl B29 (.inl ⟨42,0,_,rfl,by decide,rfl,rfl,by simp,rfl,by simp [pures,ratE.pure]⟩) (by simp;omega) (by simp;omega) (by decide)) ?_
   refine zg5 ?_
   refine wl_regW (Weak.kill _ 42) ?_
   refine zg4 ?_
   exact nx1 (i+1) (by omega)
  ·obtain rfl:i=U+1:=by omega
   refine zg11 ?_
   exact nx2 (j+1) (m+(U+1)) ⟨by omega,by rw [Nat.succ_mul];omega⟩
 ·obtain rfl:j=V+1:=by omega
  have hE:gL m (swV U V c)=swL U V c:=by rw [←hm];rfl
  refine zg12 ?_
  rw [←hE]
  exact retC [43] rfl rfl rfl rfl rfl T64 (.agg (.cons (.pure rfl) (.cons (.pure rfl) (.cons (imm_refm ratE rfl rfl (by rw [gL_len])) .nil))))
theorem gL_zero (W:Nat→Rat):gL 0 W=[]:=rfl
namespace H_c_TMulK
theorem zSm {p q:Prop} (k:q) (e:p=q:=by simp only [e1,e2,e3,e4,p1,p2,p3,q1,q2,q3,l1,t0,t1,r1,r2,r3,r4,Nat.zero_add,Nat.reduceMul,Nat.reduceAdd,b1,b2,b3,b4,b5,b6,i1,i2,i3,i4,i5,i6,Nat.reduceBEq,frz_nil,dfq,dfi,rowI_len,egu,egv,Nat.add_zero,egd,esd,List.length_set,kills_map i64E,kills_map ratE,ratL_kill,spL_kill,LV.kill,kills];exact rfl):p:=e.mpr k
theorem zSm1 {p q:Prop} (k:q) (e:p=q:=by simp only [e1,e2,e3,e4,p1,p2,p3,q1,q2,q3,l1,t0,t1,r1,r2,r3,r4,Nat.zero_add,Nat.reduceMul,Nat.reduceAdd,b1,b2,b3,b4,b5,b6,i1,i2,i3,i4,i5,i6,Nat.reduceBEq,frz_nil,dfq,dfi,rowI_len,egu,egv,Nat.add_zero,egd,esd,List.length_set,kills_map i64E,kills_map ratE,ratL_kill,spL_kill,LV.kill,kills,gL_zero,List.nil_append,List.drop_zero];exact rfl):p:=e.mpr k
theorem cl1 {p:Prop} (h:p:=by first | rfl | (refine zSm1 ?_;first | exact trivial | rfl | (congr 3<;>omega) | (congr 2<;>omega))):p:=h
end H_c_TMulK
open H_c_TMulK in
theorem c_TMulK (U1 V1 U2 V2:Nat) (a b:List Rat) (ha:a.length=(U1+1)*(V1+1)) (hb:b.length=(U2+1)*(V2+1)) (hal:a.length≤1048576) (hbl:b.length≤1048576) (hu:U1+U2≤40) (hv:V1+V2≤40) (R:Nat) (hR1:1≤R) (hR:R≤1000000) (hK:(U1+1)*((V1+1)*((U2+1)*((V2+1)*(2*R+14))))≤10000000000) (haR:∀ x∈a,rl x≤R) (hbR:∀ x∈b,rl x≤R):CallP Tryz.prog 211 [.agg [nI64 U1,nI64 V1,.list 3 (a.map ratL)],.agg [nI64 U2,nI64 V2,.list 3 (b.map ratL)]] (.tup [.agg [nI64 (U1+U2),nI64 (V1+V2),.list 3 ((tmL U1 V1 U2 V2 a b).map ratL)],iL 0]):=by
 have hA1:U1+1≤a.length:=by rw [ha];exact Nat.le_mul_of_pos_right _ (Nat.succ_pos V1)
 have hA2:V1+1≤a.length:=by rw [ha];exact Nat.le_mul_of_pos_left _ (Nat.succ_pos U1)
 have hB1:U2+1≤b.length:=by rw [hb];exact Nat.le_mul_of_pos_right _ (Nat.succ_pos V2)
 have hB2:V2+1≤b.length:=by rw [hb];exact Nat.le_mul_of_pos_left _ (Nat.succ_pos U2)
 have hnp1:=net_pureN U1 V1 a
 have hnp2:=net_pureN U2 V2 b
 have hT:((U1+U2+1)*(V1+V2+1))≤1681:=Nat.le_trans (Nat.mul_le_mul (show U1+U2+1≤41 by omega) (show V1+V2+1≤41 by omega)) (by decide)
 have hwa:=wt_rl (U:=U1) (V:=V1) (c:=a) (by omega) (by omega) hR1 haR
 have hwb:=wt_rl (U:=U2) (V:=V2) (c:=b) (by omega) (by omega) hR1 hbR
 have hwal:(wtL U1 V1 a).length=a.length:=by rw [wtL,gL_len,ha]
 have hwbl:(wtL U2 V2 b).length=b.length:=by rw [wtL,gL_len,hb]
 obtain⟨z1,hz1⟩:∃ z1,(V2+1)*(2*R+14)=z1:=⟨_,rfl⟩
 obtain⟨z2,hz2⟩:∃ z2,(U2+1)*z1=z2:=⟨_,rfl⟩
 obtain⟨z3,hz3⟩:∃ z3,(V1+1)*z2=z3:=⟨_,rfl⟩
 have hq1:z1≤z2:=by rw [←hz2];exact Nat.le_mul_of_pos_left _ (Nat.succ_pos _)
 have hq2:z2≤z3:=by rw [←hz3];exact Nat.le_mul_of_pos_left _ (Nat.succ_pos _)
 have hq3:z3≤(U1+1)*z3:=Nat.le_mul_of_pos_left _ (Nat.succ_pos _)
 have hq5:(U1+1)*z3≤10000000000:=by rw [←hz3,←hz2,←hz1];exact hK
 refine fnP Tryz.func211 (ht:=(tame2 (net_pureN _ _ _) rfl)) ?_
 have egu:True:=trivial
 have egv:True:=trivial
 have egd:True:=trivial
 have esd:True:=trivial
 refine zg14 ?_
 refine st_pure rfl (.bin rfl rfl (add64N (by omega))) ?_
 refine zg4 ?_
 refine st_pure rfl (.bin rfl rfl (add64N (by omega))) ?_
 refine zg12 ?_
 refine st_pure (guardX (v:=false) rfl rfl ((decide_eq_false (by omega))) rfl) faA ?_
 refine st_pure (guardX (v:=false) rfl rfl ((decide_eq_false (by omega))) rfl) ldA ?_
 refine st_pure (guardX (v:=false) rfl rfl ((decide_eq_false (by omega))) rfl) (.bin rfl rfl rfl) ?_
 refine st_pure rfl (.pickF rfl ((decide_eq_false (by omega)))) ?_
 refine zg2 ?_
 refine wl_condY (b:=_) rfl (decide_eq_false (by omega)) ?_
 refine zg6 ?_
 refine cp am1 (c_shaped U1 V1 a ha hal) ?_
 refine zg3 ?_
 refine cp am1 (c_shaped U2 V2 b hb hbl) ?_
 refine zg11 ?_
 refine st_pure rfl (.bin rfl rfl (add1N (by omega))) ?_
 refine zg2 ?_
 refine st_pure rfl (.bin rfl rfl (add1N (by omega))) ?_
 refine st_pure rfl (.bin rfl rfl (mulE rfl (by omega))) ?_
 refine st_alloc rfl rfl (.mkE (n:=((U1+U2+1)*(V1+V2+1))) (m:=((U1+U2+1)*(V1+V2+1))) ml ml om om om) ?_
 refine zg5 ?_
 refine wl_regD 6 (by decide +kernel) ?_
 refine zg1 ?_
 refine cp am1 (c_weighted U1 V1 a ha hal (by omega) (by omega) R hR1 (by omega) haR) ?_
 refine zg1 ?_
 refine cp am1 (c_weighted U2 V2 b hb hbl (by omega) (by omega) R hR1 (by omega) hbR) ?_
 refine zg9 ?_
 refine st_pure rfl (.bin rfl rfl (add1N (by omega))) ?_
 refine zg4 ?_
 refine lp2 (fun(i:Nat) (oI:List Rat) L=>(((((((((St.mk L.slot (hp [(2,⟨3,[.agg [nI64 U1,nI64 V1,.list 3 (a.map ratL)]],true⟩),(3,⟨3,[.agg [nI64 U2,nI64 V2,.list 3 (b.map ratL)]],true⟩),(4,⟨3,[.agg [.v (.int .i64 0),.v (.int .i64 0),.v (.slice none 0 0)]],true⟩),(6,⟨3,[.agg [nI64 (U1+U2),nI64 (V1+V2),.ref 55 3 0 ((U1+U2+1)*(V1+V2+1))]],true⟩),(55,⟨3,oI.map ratL,true⟩)])).put (some 2) (.eptr 2 3 0 0)).put (some 3) (.eptr 3 3 0 0)).put (some 4) (.eptr 4 3 0 0)).put (some 6) (.eptr 6 3 0 0)).put (some 7) (.list 3 ((wtL U1 V1 a).map ratL))).put (some 8) (.list 3 ((wtL U2 V2 b).map ratL))).put (some 63) (nI64 (U1+1))).put (some 64) (nI64 i))) (fun i oI=>i≤U1+1∧oI=mI V1 V2 (V1+V2) U2 (wtL U1 V1 a) (wtL U2 V2 b) i (List.replicate ((U1+U2+1)*(V1+V2+1)) 0)∧oI.length=((U1+U2+1)*(V1+V2+1))∧∀ x∈oI,rl x≤1+i*z3) (fun i oI=>U1+1-i) 0 (List.replicate ((U1+U2+1)*(V1+V2+1)) 0) ⟨Nat.zero_le _,rfl,by simp,fun x hx=>by rw [(List.mem_replicate.1 hx).2];exact Nat.le_add_right 1 _⟩ ?_
 rintro i oI L1 ⟨hi,hoI,hlI,hrI⟩
 refine zg6 ?_
 refine wl_if rfl (fun h65r h65=>?_) (fun h65r h65=>?_)
 ·have hi2:i≤U1:=by omega
  have hi3:i*z3+z3≤(U1+1)*z3:=by rw [←Nat.succ_mul];exact Nat.mul_le_mul_right _ (by omega)
  refine zg14 ?_
  refine st_pure rfl (.bin rfl rfl (add1N (by omega))) ?_
  refine zg4 ?_
  refine lp2 (fun(j:Nat) (oJ:List Rat) L=>((((((((((((St.mk L.slot (hp [(2,⟨3,[.agg [nI64 U1,nI64 V1,.list 3 (a.map ratL)]],true⟩),(3,⟨3,[.agg [nI64 U2,nI64 V2,.list 3 (b.map ratL)]],true⟩),(4,⟨3,[.agg [.v (.int .i64 0),.v (.int .i64 0),.v (.slice none 0 0)]],true⟩),(6,⟨3,[.agg [nI64 (U1+U2),nI64 (V1+V2),.ref 55 3 0 ((U1+U2+1)*(V1+V2+1))]],true⟩),(55,⟨3,oJ.map ratL,true⟩)])).put (some 2) (.eptr 2 3 0 0)).put (some 3) (.eptr 3 3 0 0)).put (some 4) (.eptr 4 3 0 0)).put (some 6) (.eptr 6 3 0 0)).put (some 7) (.list 3 ((wtL U1 V1 a).map ratL))).put (some 8) (.list 3 ((wtL U2 V2 b).map ratL))).put (some 63) (nI64 (U1+1))).put (some 64) (nI64 i)).put (some 9) (nI64 i)).put (some 69) (nI64 (V1+1))).put (some 70) (nI64 j))) (fun j oJ=>j≤V1+1∧oJ=mJ V1 V2 (V1+V2) U2 (wtL U1 V1 a) (wtL U2 V2 b) i j oI∧oJ.length=((U1+U2+1)*(V1+V2+1))∧∀ x∈oJ,rl x≤1+i*z3+j*z2) (fun j oJ=>V1+1-j) 0 oI ⟨Nat.zero_le _,rfl,hlI,fun x hx=>by rw [Nat.zero_mul];exact hrI x hx⟩ ?_
  rintro j oJ L2 ⟨hj,hoJ,hlJ,hrJ⟩
  refine zg6 ?_
  refine wl_if rfl (fun h71r h71=>?_) (fun h71r h71=>?_)
  ·have hj2:j≤V1:=by omega
   have hj3:j*z2+z2≤z3:=by rw [←Nat.succ_mul,←hz3];exact Nat.mul_le_mul_right _ (by omega)
   refine zg14 ?_
   refine st_pure rfl (.bin rfl rfl (add1N (by omega))) ?_
   refine zg4 ?_
   refine lp2 (fun(k:Nat) (oK:List Rat) L=>(((((((((((((((St.mk L.slot (hp [(2,⟨3,[.agg [nI64 U1,nI64 V1,.list 3 (a.map ratL)]],true⟩),(3,⟨3,[.agg [nI64 U2,nI64 V2,.list 3 (b.map ratL)]],true⟩),(4,⟨3,[.agg [.v (.int .i64 0),.v (.int .i64 0),.v (.slice none 0 0)]],true⟩),(6,⟨3,[.agg [nI64 (U1+U2),nI64 (V1+V2),.ref 55 3 0 ((U1+U2+1)*(V1+V2+1))]],true⟩),(55,⟨3,oK.map ratL,true⟩)])).put (some 2) (.eptr 2 3 0 0)).put (some 3) (.eptr 3 3 0 0)).put (some 4) (.eptr 4 3 0 0)).put (some 6) (.eptr 6 3 0 0)).put (some 7) (.list 3 ((wtL U1 V1 a).map ratL))).put (some 8) (.list 3 ((wtL U2 V2 b).map ratL))).put (some 63) (nI64 (U1+1))).put (some 64) (nI64 i)).put (some 9) (nI64 i)).put (some 69) (nI64 (V1+1))).put (some 70) (nI64 j)).put (some 10) (nI64 j)).put (some 75) (nI64 (U2+1))).put (some 76) (nI64 k))) (fun k oK=>k≤U2+1∧oK=mK V1 V2 (V1+V2) (wtL U1 V1 a) (wtL U2 V2 b) i j k oJ∧oK.length=((U1+U2+1)*(V1+V2+1))∧∀ x∈oK,rl x≤1+i*z3+j*z2+k*z1) (fun k oK=>U2+1-k) 0 oJ ⟨Nat.zero_le _,rfl,hlJ,fun x hx=>by rw [Nat.zero_mul];exact hrJ x hx⟩ ?_
   rintro k oK L3 ⟨hk,hoK,hlK,hrK⟩
   refine zg6 ?_
   refine wl_if rfl (fun h77r h77=>?_) (fun h77r h77=>?_)
   ·have hk2:k≤U2:=by omega
    have hk3:k*z1+z1≤z2:=by rw [←Nat.succ_mul,←hz2];exact Nat.mul_le_mul_right _ (by omega)
    refine zg14 ?_
    refine st_pure rfl (.bin rfl rfl (add1N (by omega))) ?_
    refine zg4 ?_
    refine lp2 (fun(l:Nat) (o:List Rat) L=>((((((((((((((((((St.mk L.slot (hp [(2,⟨3,[.agg [nI64 U1,nI64 V1,.list 3 (a.map ratL)]],true⟩),(3,⟨3,[.agg [nI64 U2,nI64 V2,.list 3 (b.map ratL)]],true⟩),(4,⟨3,[.agg [.v (.int .i64 0),.v (.int .i64 0),.v (.slice none 0 0)]],true⟩),(6,⟨3,[.agg [nI64 (U1+U2),nI64 (V1+V2),.ref 55 3 0 ((U1+U2+1)*(V1+V2+1))]],true⟩),(55,⟨3,o.map ratL,true⟩)])).put (some 2) (.eptr 2 3 0 0)).put (some 3) (.eptr 3 3 0 0)).put (some 4) (.eptr 4 3 0 0)).put (some 6) (.eptr 6 3 0 0)).put (some 7) (.list 3 ((wtL U1 V1 a).map ratL))).put (some 8) (.list 3 ((wtL U2 V2 b).map ratL))).put (some 63) (nI64 (U1+1))).put (some 64) (nI64 i)).put (some 9) (nI64 i)).put (some 69) (nI64 (V1+1))).put (some 70) (nI64 j)).put (some 10) (nI64 j)).put (some 75) (nI64 (U2+1))).put (some 76) (nI64 k)).put (some 11) (nI64 k)).put (some 81) (nI64 (V2+1))).put (some 82) (nI64 l))) (fun l o=>l≤V2+1∧o=mL V1 V2 (V1+V2) (wtL U1 V1 a) (wtL U2 V2 b) i j k l oK∧o.length=((U1+U2+1)*(V1+V2+1))∧∀ x∈o,rl x≤1+i*z3+j*z2+k*z1+l*(2*R+14)) (fun l o=>V2+1-l) 0 oK ⟨Nat.zero_le _,rfl,hlK,fun x hx=>by rw [Nat.zero_mul];exact hrK x hx⟩ ?_
    rintro l o L4 ⟨hl,ho,hlL,hrL⟩
    refine zg6 ?_
    refine wl_if rfl (fun h83r h83=>?_) (fun h83r h83=>?_)
    ·have hl2:l≤V2:=by omega
     have hl3:l*(2*R+14)+(2*R+14)≤z1:=by rw [←Nat.succ_mul,←hz1];exact Nat.mul_le_mul_right _ (by omega)
     have hx1:=ix_lt (U:=U1+U2) (V:=V1+V2) (i:=i+k) (j:=j+l) (by omega) (by omega)
     have hx2:=ix_lt hi2 hj2
     have hx3:=ix_lt hk2 hl2
     rw [←ha] at hx2
     rw [←hb] at hx3
     have hr1:=getD_rl (S:=R+6) (by omega) hwa (i*(V1+1)+j)
     have hr2:=getD_rl (S:=R+6) (by omega) hwb (k*(V2+1)+l)
     have hr3:=getD_rl (by omega) hrL ((i+k)*(V1+V2+1)+j+l)
     have hr4:=rl_mul ((wtL U1 V1 a).getD (i*(V1+1)+j) 0) ((wtL U2 V2 b).getD (k*(V2+1)+l) 0)
     have hr5:=rl_add (o.getD ((i+k)*(V1+V2+1)+j+l) 0) ((wtL U1 V1 a).getD (i*(V1+1)+j) 0*(wtL U2 V2 b).getD (k*(V2+1)+l) 0)
     refine zg14 ?_
     refine st_pure rfl (.bin rfl rfl (add64N (by omega))) ?_
     refine zg2 ?_
     refine st_pure rfl (.bin rfl rfl (add1N (by omega))) ?_
     refine st_pure rfl (.bin rfl rfl (mulE rfl (by omega))) ?_
     refine zg1 ?_
     refine st_pure rfl (.bin rfl rfl (add64N (by omega))) ?_
     refine zg1 ?_
     refine st_pure rfl (.bin rfl rfl (add64N (by omega))) ?_
     refine zg3 ?_
     refine wl_regD 31 (by decide +kernel) ?_
     refine zg8 ?_
     try simp only [t1,dfq,Nat.zero_add]
     refine zg4 ?_
     refine st_pure rfl (.bin rfl rfl (add1N (by omega))) ?_
     refine st_pure rfl (.bin rfl rfl (mulE rfl (by omega))) ?_
     refine zg1 ?_
     refine st_pure rfl (.bin rfl rfl (add64N (by omega))) ?_
     refine zg6 ?_
     refine st_pure rfl (.bin rfl rfl (add1N (by omega))) ?_
     refine st_pure rfl (.bin rfl rfl (mulE rfl (by omega))) ?_
     refine zg1 ?_
     refine st_pure rfl (.bin rfl rfl (add64N (by omega))) ?_
     refine zg2 ?_
     refine cp am2 (c_RMul ((wtL U1 V1 a).getD (i*(V1+1)+j) 0) ((wtL U2 V2 b).getD (k*(V2+1)+l) 0) (by omega)) ?_
     refine cp am2 (c_RAdd (o.getD ((i+k)*(V1+V2+1)+j+l) 0) ((wtL U1 V1 a).getD (i*(V1+1)+j) 0*(wtL U2 V2 b).getD (k*(V2+1)+l) 0) (by omega)) ?_
     refine zg10 ?_
     exact nx2 (l+1) (o.set ((i+k)*(V1+V2+1)+j+l) (o.getD ((i+k)*(V1+V2+1)+j+l) 0+(wtL U1 V1 a).getD (i*(V1+1)+j) 0*(wtL U2 V2 b).getD (k*(V2+1)+l) 0)) ⟨by omega,by rw [ho];rfl,by rw [List.length_set];exact hlL,set_rl (fun x hx=>by have:=hrL x hx;rw [Nat.succ_mul];omega) (by rw [Nat.succ_mul];omega)⟩
    ·obtain rfl:l=V2+1:=by omega
     refine zg11 ?_
     exact nx2 (k+1) o ⟨by omega,by rw [ho,hoK];rfl,hlL,fun x hx=>by have:=hrL x hx;rw [hz1] at this;rw [Nat.succ_mul];omega⟩
   ·obtain rfl:k=U2+1:=by omega
    rw [hz2] at hrK
    refine zg11 ?_
    exact nx2 (j+1) oK ⟨by omega,by rw [hoK,hoJ];rfl,hlK,fun x hx=>by have:=hrK x hx;rw [Nat.succ_mul];omega⟩
  ·obtain rfl:j=V1+1:=by omega
   rw [hz3] at hrJ
   refine zg11 ?_
   exact nx2 (i+1) oJ ⟨by omega,by rw [hoJ,hoI];rfl,hlJ,fun x hx=>by have:=hrJ x hx;rw [Nat.succ_mul];omega⟩
 ·obtain rfl:i=U1+1:=by omega
  have hOF:oI=(mTop U1 V1 U2 V2 a b):=hoI
  clear hoI
  subst hOF
  refine zg6 ?_
  refine wl_regD 8 (by decide +kernel) ?_
  refine zg2 ?_
  refine cp am1 (c_choose7 (U1+U2) hu) ?_
  refine zg2 ?_
  refine cp am1 (c_choose7 (V1+V2) hv) ?_
  refine zg13 ?_
  refine lp2 (fun(i m:Nat) L=>(((((((((St.mk L.slot (hp [(2,⟨3,[.agg [nI64 U1,nI64 V1,.list 3 (a.map ratL)]],true⟩),(3,⟨3,[.agg [nI64 U2,nI64 V2,.list 3 (b.map ratL)]],true⟩),(4,⟨3,[.agg [.v (.int .i64 0),.v (.int .i64 0),.v (.slice none 0 0)]],true⟩),(6,⟨3,[.agg [nI64 (U1+U2),nI64 (V1+V2),.ref 55 3 0 ((U1+U2+1)*(V1+V2+1))]],true⟩),(55,⟨3,(gL m (dvV (U1+U2) (V1+V2) (mTop U1 V1 U2 V2 a b))++(mTop U1 V1 U2 V2 a b).drop m).map ratL,true⟩)])).put (some 2) (.eptr 2 3 0 0)).put (some 3) (.eptr 3 3 0 0)).put (some 4) (.eptr 4 3 0 0)).put (some 6) (.eptr 6 3 0 0)).put (some 14) (.list 1 ((rowI (U1+U2)).map i64L))).put (some 15) (.list 1 ((rowI (V1+V2)).map i64L))).put (some 138) (nI64 (U1+U2+1))).put (some 139) (nI64 i))) (fun i m=>i≤U1+U2+1∧i*(V1+V2+1)=m) (fun i m=>U1+U2+1-i) 0 0 ⟨Nat.zero_le _,Nat.zero_mul _⟩ (h0:=⟨_,Weak.of_eq (put_id' (put_id' (put_id' (put_id' (put_id' (put_id' (put_id' (put_id' (mk_id' cl1) cl1) cl1) cl1) cl1) cl1) cl1) cl1) cl1)⟩) ?_
  rintro i m L5 ⟨hi,hm⟩
  refine zg6 ?_
  refine wl_if rfl (fun h140r h140=>?_) (fun h140r h140=>?_)
  ·have hi2:i≤U1+U2:=by omega
   have egu:=rowI_get hi2
   have hcu:=chs_40 i hu
   refine zg18 ?_
   refine lp1 (fun(j:Nat) L=>((((((((((((St.mk L.slot (hp [(2,⟨3,[.agg [nI64 U1,nI64 V1,.list 3 (a.map ratL)]],true⟩),(3,⟨3,[.agg [nI64 U2,nI64 V2,.list 3 (b.map ratL)]],true⟩),(4,⟨3,[.agg [.v (.int .i64 0),.v (.int .i64 0),.v (.slice none 0 0)]],true⟩),(6,⟨3,[.agg [nI64 (U1+U2),nI64 (V1+V2),.ref 55 3 0 ((U1+U2+1)*(V1+V2+1))]],true⟩),(55,⟨3,(gL (m+j) (dvV (U1+U2) (V1+V2) (mTop U1 V1 U2 V2 a b))++(mTop U1 V1 U2 V2 a b).drop (m+j)).map ratL,true⟩)])).put (some 2) (.eptr 2 3 0 0)).put (some 3) (.eptr 3 3 0 0)).put (some 4) (.eptr 4 3 0 0)).put (some 6) (.eptr 6 3 0 0)).put (some 14) (.list 1 ((rowI (U1+U2)).map i64L))).put (some 15) (.list 1 ((rowI (V1+V2)).map i64L))).put (some 138) (nI64 (U1+U2+1))).put (some 139) (nI64 i)).put (some 16) (nI64 i)).put (some 143) (nI64 (V1+V2+1))).put (some 144) (nI64 j))) (fun j=>j≤V1+V2+1) (fun j=>V1+V2+1-j) 0 (Nat.zero_le _) ?_
   rintro j L6 hj
   refine zg6 ?_
   refine wl_if rfl (fun h145r h145=>?_) (fun h145r h145=>?_)
   ·have hj2:j≤V1+V2:=by omega
    have egv:=rowI_get hj2
    have hcv:=chs_40 j hv
    have hix:=ix_lt hi2 hj2
    rw [hm] at hix
    have egd:=get_gd (W:=(dvV (U1+U2) (V1+V2) (mTop U1 V1 U2 V2 a b))) (o:=(mTop U1 V1 U2 V2 a b)) (m:=m+j)
    have hdv:(dvV (U1+U2) (V1+V2) (mTop U1 V1 U2 V2 a b)) (m+j)=(mTop U1 V1 U2 V2 a b).getD (m+j) 0/((((chs (U1+U2) i:Nat):Int):Rat)*(((chs (V1+V2) j:Nat):Int):Rat)):=by rw [dvV,←hm,ix_div hj2,ix_mod hj2]
    have esd:=set_gd (W:=(dvV (U1+U2) (V1+V2) (mTop U1 V1 U2 V2 a b))) (o:=(mTop U1 V1 U2 V2 a b)) (m:=m+j) (by omega) hdv.symm
    have hgl:(gL (m+j) (dvV (U1+U2) (V1+V2) (mTop U1 V1 U2 V2 a b))++(mTop U1 V1 U2 V2 a b).drop (m+j)).length=((U1+U2+1)*(V1+V2+1)):=by rw [List.length_append,gL_len,List.length_drop];omega
    have hr1:=chsR_rl i hu
    have hr2:=chsR_rl j hv
    have hr3:=getD_rl (by omega) hrI (m+j)
    have hr4:=rl_mul ((((chs (U1+U2) i:Nat):Int):Rat)) ((((chs (V1+V2) j:Nat):Int):Rat))
    refine zg15 ?_
    refine st_pure rfl (.bin rfl rfl (add1N (by omega))) ?_
    refine st_pure rfl (.bin rfl rfl (mulE hm (by omega))) ?_
    refine zg1 ?_
    refine st_pure rfl (.bin rfl rfl (add64N (by omega))) ?_
    refine zg3 ?_
    refine wl_regF 24 [22] (by decide +kernel) ?_
    refine zg8 ?_
    try simp only [t1,dfq,Nat.zero_add,egd]
    refine zg4 ?_
    try simp only [t1,dfi,Nat.zero_add,egu]
    refine cp am1 (c_RInt ((chs (U1+U2) i:Nat):Int) (by omega) (by omega)) ?_
    refine zg4 ?_
    try simp only [t1,dfi,Nat.zero_add,egv]
    refine cp am1 (c_RInt ((chs (V1+V2) j:Nat):Int) (by omega) (by omega)) ?_
    refine cp am2 (c_RMul ((((chs (U1+U2) i:Nat):Int):Rat)) ((((chs (V1+V2) j:Nat):Int):Rat)) (by omega)) ?_
    refine cp am2 (c_RQuo ((mTop U1 V1 U2 V2 a b).getD (m+j) 0) ((((chs (U1+U2) i:Nat):Int):Rat)*(((chs (V1+V2) j:Nat):Int):Rat)) (by omega)) ?_
    refine zg13 ?_
    exact nx1 (j+1) (by omega)
   ·obtain rfl:j=V1+V2+1:=by omega
    refine zg11 ?_
    exact nx2 (i+1) (m+(V1+V2+1)) ⟨by omega,by rw [Nat.succ_mul];omega⟩ (he:=Weak.of_eq (put_id' (put_id' (put_id' (put_id' (put_id' (put_id' (put_id' (put_id' (mk_id' cl1) cl1) cl1) cl1) cl1) cl1) cl1) cl1) cl1))
  ·obtain rfl:i=U1+U2+1:=by omega
   have hE:(gL m (dvV (U1+U2) (V1+V2) (mTop U1 V1 U2 V2 a b))++(mTop U1 V1 U2 V2 a b).drop m)=tmL U1 V1 U2 V2 a b:=by rw [←hm,List.drop_of_length_le (by omega),List.append_nil];rfl
   refine zg13 ?_
   rw [←hE]
   exact retCT [55] rfl rfl rfl rfl rfl T64 (.agg (.cons (.pure rfl) (.cons (.pure rfl) (.cons (imm_refm ratE rfl rfl (by rw [List.length_append,gL_len,List.length_drop];omega)) .nil)))) rfl (.pure rfl)
end Go.Proofs.YtfpdccbgngdhkaaGreat
namespace Go.Lg
theorem clo_kill (b:Nat) (f:FuncId) (caps:List LV) (h:pures caps=true):(LV.clo f caps).kill b=.clo f caps:=LV.kill_pure b _ (by simpa [LV.pure] using h)
end Go.Lg
namespace Go.Proofs.YtfpdccbgngdhkaaGreat
open Go.Lg
def rwL (V:Nat) (c:List Rat) (i:Nat):List Rat:=(c.take ((i+1)*(V+1))).drop (i*(V+1))
theorem rw_le {U V i:Nat} {c:List Rat} (hc:c.length=(U+1)*(V+1)) (hi:i≤U):i*(V+1)+(V+1)≤c.length:=by
 rw [hc,←Nat.succ_mul];exact Nat.mul_le_mul_right _ (by omega)
theorem rwL_len {U V i:Nat} {c:List Rat} (hc:c.length=(U+1)*(V+1)) (hi:i≤U):(rwL V c i).length=V+1:=by
 have:=rw_le hc hi
 unfold rwL
 rw [List.length_drop,List.length_take,Nat.succ_mul];omega
theorem rwL_mem {V i:Nat} {c:List Rat} {x:Rat} (h:x∈rwL V c i):x∈c:=List.mem_of_mem_take (List.mem_of_mem_drop h)
theorem rwL_get {U V i j:Nat} {c:List Rat} (hc:c.length=(U+1)*(V+1)) (hi:i≤U) (hj:j≤V):(rwL V c i).getD j 0=c.getD (i*(V+1)+j) 0:=by
 have:=rw_le hc hi
 unfold rwL
 rw [getD_dropR,List.getD_eq_getElem?_getD,List.getElem?_take_of_lt (by rw [Nat.succ_mul];omega),←List.getD_eq_getElem?_getD]
def rsL (g:List Rat→List Rat) (V:Nat) (c:List Rat):Nat→List Rat
 | 0=>[]
 | i+1=>rsL g V c i++g (rwL V c i)
theorem rsL_len {g:List Rat→List Rat} {V W U:Nat} {c:List Rat} (hg:∀ i,i≤U→(g (rwL V c i)).length=W+1):∀ n,n≤U+1→(rsL g V c n).length=n*(W+1)
 | 0,_=>by rw [Nat.zero_mul];rfl
 | n+1,h=>by rw [rsL,List.length_append,rsL_len hg n (by omega),hg n (by omega),Nat.succ_mul]
theorem swL_len (U V:Nat) (c:List Rat):(swL U V c).length=(V+1)*(U+1):=gL_len _ _
theorem sw_rl {U V R:Nat} {c:List Rat} (hR:1≤R) (h:∀ x∈c,rl x≤R):∀ x∈swL U V c,rl x≤R:=by
 intro x hx
 obtain⟨i,_,rfl⟩:=List.mem_map.1 hx
 exact getD_rl hR h _
def colT (U V:Nat) (c:List Rat) (v:Rat):List Rat:=rsL (fun p=>[evP p v]) V c (U+1)
def rowT (U V:Nat) (c:List Rat) (u:Rat):List Rat:=rsL (fun p=>[evP p u]) U (swL U V c) (V+1)
theorem colT_len (U V:Nat) (c:List Rat) (v:Rat):(colT U V c v).length=U+1:=by
 have:=rsL_len (g:=fun p=>[evP p v]) (V:=V) (W:=0) (U:=U) (c:=c) (fun i _=>rfl) (U+1) (Nat.le_refl _)
 rw [colT,this];omega
theorem rowT_len (U V:Nat) (c:List Rat) (u:Rat):(rowT U V c u).length=V+1:=by
 have:=rsL_len (g:=fun p=>[evP p u]) (V:=U) (W:=0) (U:=V) (c:=swL U V c) (fun i _=>rfl) (V+1) (Nat.le_refl _)
 rw [rowT,this];omega
def evT (U V:Nat) (c:List Rat) (u v:Rat):Rat:=evP (rowT U V c u) v
def dfU (U V:Nat) (c:List Rat):List Rat:=swL V (U-1) (rsL difP U (swL U V c) (V+1))
def dfV (U V:Nat) (c:List Rat):List Rat:=rsL difP V c (U+1)
theorem dif_W {p:List Rat} {U:Nat} (h:p.length=U+1):(difP p).length=U-1+1:=by rw [difP_len];split<;>omega
theorem rs_rl {g:List Rat→List Rat} {V U R:Nat} {c:List Rat} (h:∀ i,i≤U→∀ x∈g (rwL V c i),rl x≤R):∀ {n:Nat},n≤U+1→∀ x∈rsL g V c n,rl x≤R
 | 0,_,x,hx=>by cases hx
 | n+1,hn,x,hx=>by
  rcases List.mem_append.1 (show x∈rsL g V c n++g (rwL V c n) from hx) with h1 | h1
  ·exact rs_rl h (by omega) x h1
  ·exact h n (by omega) x h1
open H0 in
theorem c_row7 (U V:Nat) (c:List Rat) (hc:c.length=(U+1)*(V+1)) (hl:c.length≤1048576) (i:Nat) (hi:i≤U):CallP Tryz.prog 213 [.agg [nI64 U,nI64 V,.list 3 (c.map ratL)],nI64 i] (.list 3 ((rwL V c i).map ratL)):=by
 have hU:U+1≤c.length:=by rw [hc];exact Nat.le_mul_of_pos_right _ (Nat.succ_pos V)
 have hV:V+1≤c.length:=by rw [hc];exact Nat.le_mul_of_pos_left _ (Nat.succ_pos U)
 have hnp:=net_pureN U V c
 have hri:=rw_le hc hi
 have hrs:(i+1)*(V+1)=i*(V+1)+(V+1):=Nat.succ_mul i (V+1)
 refine fnP Tryz.func213 ?_
 refine zg13 ?_
 refine st_pure rfl (.bin rfl rfl (add1N (by omega))) ?_
 refine st_pure rfl (.bin rfl rfl (mulE rfl (by omega))) ?_
 refine zg1 ?_
 refine st_pure rfl (.bin rfl rfl (add1N (by omega))) ?_
 refine zg2 ?_
 refine st_pure rfl (.bin rfl rfl (add1N (by omega))) ?_
 refine st_pure rfl (.bin rfl rfl (mulE rfl (by omega))) ?_
 refine st_pure rfl (.sliceLb (a:=_) (h:=_) ratE rfl Tryz.underlying36 T29 rfl rfl (by omega) (by omega)) ?_
 refine zg4 ?_
 exact ret1 rfl (by first | exact .pure rfl | exact .pure (limL_pure _) | exact .pure (magL_pure _) | exact .pure (ratE.pure _) | exact .pure (pure_lst u32E _ _) | exact .pure (pure_lst ratE _ _))
namespace H_c_rows
theorem zSm {p q:Prop} (k:q) (e:p=q:=by simp only [e1,e2,e3,e4,p1,p2,p3,q1,q2,q3,l1,t0,t1,r1,r2,r3,r4,Nat.zero_add,Nat.reduceMul,Nat.reduceAdd,b1,b2,b3,b4,b5,b6,i1,i2,i3,i4,i5,i6,Nat.reduceBEq,frz_nil,dfq,clo_kill _ _ _ hcp,ers,etk,elen,Nat.add_sub_cancel,List.length_map,kills_map ratE,ratL_kill,spL_kill,LV.kill,kills];exact rfl):p:=e.mpr k
theorem zSm1 {p q:Prop} (k:q) (e:p=q:=by simp only [e1,e2,e3,e4,p1,p2,p3,q1,q2,q3,l1,t0,t1,r1,r2,r3,r4,Nat.zero_add,Nat.reduceMul,Nat.reduceAdd,b1,b2,b3,b4,b5,b6,i1,i2,i3,i4,i5,i6,Nat.reduceBEq,frz_nil,dfq,clo_kill _ _ _ hcp,ers,etk,elen,Nat.add_sub_cancel,List.length_map,kills_map ratE,ratL_kill,spL_kill,LV.kill,kills,elen];exact rfl):p:=e.mpr k
theorem nf1 {p:Prop} (h:p:=by first | (refine zSm1 ?_;exact rfl) | exact rfl):p:=h
end H_c_rows
open H_c_rows in
theorem c_rows (U V:Nat) (c:List Rat) (hc:c.length=(U+1)*(V+1)) (hl:c.length≤1048576) (f:Nat) (caps:List LV) (hcp:pures caps=true) (hcs:∀ x∈caps,x.csize=1∧x.isAgg=false) (g:List Rat→List Rat) (W:Nat) (hf:∀ i,i≤U→CallP Tryz.prog f ([.list 3 ((rwL V c i).map ratL)]++caps) (.list 3 ((g (rwL V c i)).map ratL))) (hg:∀ i,i≤U→(g (rwL V c i)).length=W+1) (hW:(U+1)*(W+1)≤1048576):CallP Tryz.prog 145 [.agg [nI64 U,nI64 V,.list 3 (c.map ratL)],.clo f caps] (.agg [nI64 U,nI64 W,.list 3 ((rsL g V c (U+1)).map ratL)]):=by
 have hU:U+1≤c.length:=by rw [hc];exact Nat.le_mul_of_pos_right _ (Nat.succ_pos V)
 have hV:V+1≤c.length:=by rw [hc];exact Nat.le_mul_of_pos_left _ (Nat.succ_pos U)
 have hnp:=net_pureN U V c
 have hW2:W+1≤(U+1)*(W+1):=Nat.le_mul_of_pos_left _ (Nat.succ_pos U)
 refine fnP Tryz.func145 (ht:=(fun g=>LV.ren_pure g _ (net_pureN _ _ _))) ?_
 have ers:True:=trivial
 have etk:True:=trivial
 have elen:True:=trivial
 refine zg19 ?_
 refine cp am1 (c_shaped U V c hc hl) ?_
 refine zg11 ?_
 refine st_pure rfl (.bin rfl rfl (add1N (by omega))) ?_
 refine zg4 ?_
 refine wl_weak ((Weak.cell 5 rfl (fun Z μ w cs h=>rep_net 35 3 _ _ Z μ w cs h)).trans (Weak.newB _ 35 3 rfl)) ?_
 refine lp3 (fun(i m v:Nat) L=>(((((((St.mk L.slot (hp [(2,⟨3,[.agg [nI64 U,nI64 V,.list 3 (c.map ratL)]],true⟩),(4,⟨3,[.agg [.v (.int .i64 0),.v (.int .i64 0),.v (.slice none 0 0)]],true⟩),(5,⟨3,[.agg [nI64 U,nI64 v,.ref 35 3 0 m]],true⟩),(35,⟨3,(rsL g V c i).map ratL,true⟩)])).put (some 1) (.clo f caps)).put (some 2) (.eptr 2 3 0 0)).put (some 4) (.eptr 4 3 0 0)).put (some 5) (.eptr 5 3 0 0)).put (some 19) (nI64 (U+1))).put (some 20) (nI64 i))) (fun i m v=>i≤U+1∧i*(W+1)=m∧(i=0∨v=W)) (fun i m v=>U+1-i) 0 0 0 ⟨Nat.zero_le _,Nat.zero_mul _,.inl rfl⟩ ?_
 rintro i m v L1 ⟨hi,hm,hv⟩
 refine zg6 ?_
 refine wl_if rfl (fun h21r h21=>?_) (fun h21r h21=>?_)
 ·have hi2:i≤U:=by omega
  have hfi:=hf i hi2
  have elen:=hg i hi2
  have hrl:=rsL_len hg i hi
  rw [hm] at hrl
  have hmu:m+(W+1)≤(U+1)*(W+1):=by rw [←hm,←Nat.succ_mul];exact Nat.mul_le_mul_right _ (by omega)
  have ers:(rsL g V c i).map ratL++(g (rwL V c i)).map ratL=(rsL g V c (i+1)).map ratL:=by rw [rsL,List.map_append]
  have etk:((rsL g V c i).map ratL).take m=(rsL g V c i).map ratL:=List.take_of_length_le (by rw [List.length_map];omega)
  refine zg15 ?_
  refine cp am2 (c_row7 U V c hc hl i hi2) ?_
  refine st_opc [] rfl rfl (.clo (f:=f) (cap:=caps) (args:=[.list 3 ((rwL V c i).map ratL)]) rfl (.cons im0 .nil) ⟨hcp,hcs⟩ hfi.1 (by decide) (fun _ h=>by cases h)) (hfi.2 _) ?_
  refine zg7 ?_
  refine st_pure rfl (.bin rfl rfl (sub1N (by omega) (by omega))) ?_
  refine zg1 ?_
  refine st_store rfl (.store rfl rfl rfl rfl rfl rfl rfl T3 ne0) ?_
  refine st_end nf1 ?_
  refine zg5 ?_
  refine st_store rfl (.app (news:=(g (rwL V c i)).map ratL) rfl rfl rfl rfl rfl (by rw [List.length_map];omega) (.inl rfl) (by decide) Tryz.underlying36 Tryz.underlying159 Z29a T29 rfl B29 (.inr (.inl rfl)) (by rw [List.length_map,elen];omega) (by rw [List.length_map,elen];omega) (by decide)) ?_
  refine zg10 ?_
  exact nx3 (i+1) (m+(W+1)) W ⟨by omega,by rw [Nat.succ_mul];omega,.inr rfl⟩
 ·obtain rfl:i=U+1:=by omega
  obtain rfl:v=W:=by omega
  have hrl:=rsL_len hg (U+1) (Nat.le_refl _)
  refine zg12 ?_
  exact retC [35] rfl rfl rfl rfl rfl T64 (.agg (.cons (.pure rfl) (.cons (.pure rfl) (.cons (imm_refm ratE rfl rfl (by omega)) .nil))))
open H0 in
theorem c_Col1 (p:List Rat) (v:Rat) (h:HS p v) (hp0:0<p.length):CallP Tryz.prog 258 [.list 3 (p.map ratL),.boxp (ratL v)] (.list 3 ([evP p v].map ratL)):=by
 refine fnP Tryz.func258 ?_
 refine zg9 ?_
 refine cp am2 (c_BEval p v h hp0) ?_
 refine zg5 ?_
 exact ret1f [7] rfl rfl (imm_refm ratE rfl rfl rfl)
open H0 in
theorem c_Column (U V:Nat) (c:List Rat) (hc:c.length=(U+1)*(V+1)) (hl:c.length≤1048576) (v:Rat) (hS:∀ i,i≤U→HS (rwL V c i) v):CallP Tryz.prog 199 [.agg [nI64 U,nI64 V,.list 3 (c.map ratL)],ratL v] (.list 3 ((colT U V c v).map ratL)):=by
 have hU:U+1≤c.length:=by rw [hc];exact Nat.le_mul_of_pos_right _ (Nat.succ_pos V)
 have hV:V+1≤c.length:=by rw [hc];exact Nat.le_mul_of_pos_left _ (Nat.succ_pos U)
 have hnp:=net_pureN U V c
 have hbp:pures [LV.boxp (ratL v)]=true:=by simp [pures,LV.pure,ratE.pure]
 refine fnP Tryz.func199 ?_
 refine zg10 ?_
 refine st_opc [3] rfl rfl (.mk (caps:=[.boxp (ratL v)]) (.cons (.eptr rfl rfl rfl (ratE.csize _) (ratL_all _) (ratE.pure _) rfl) .nil) (fun x hx=>by rw [List.mem_singleton.1 hx];exact⟨rfl,rfl⟩)) rfl ?_
 refine st_callP rfl (.cons (.pure hnp) (.cons (.pure (show LV.pure (.clo 258 [.boxp (ratL v)])=true by simpa [LV.pure] using hbp)) .nil)) (c_rows U V c hc hl 258 [.boxp (ratL v)] hbp (fun x hx=>by rw [List.mem_singleton.1 hx];exact⟨rfl,rfl⟩) (fun p=>[evP p v]) 0 (fun i hi=>c_Col1 _ v (hS i hi) (by rw [rwL_len hc hi];exact Nat.succ_pos V)) (fun i hi=>rfl) (by omega)) ?_
 refine st_pure rfl (.field rfl SL64 rfl (pure_lst ratE _ _)) ?_
 refine zg4 ?_
 exact ret1 rfl (by first | exact .pure rfl | exact .pure (limL_pure _) | exact .pure (magL_pure _) | exact .pure (ratE.pure _) | exact .pure (pure_lst u32E _ _) | exact .pure (pure_lst ratE _ _))
open H0 in
theorem c_TRow (U V:Nat) (c:List Rat) (hc:c.length=(U+1)*(V+1)) (hl:c.length≤1048576) (hcR:∀ x∈c,rl x≤274877906944) (u:Rat) (hS:∀ j,j≤V→HS (rwL U (swL U V c) j) u):CallP Tryz.prog 132 [.agg [nI64 U,nI64 V,.list 3 (c.map ratL)],ratL u] (.list 3 ((rowT U V c u).map ratL)):=by
 have hU:U+1≤c.length:=by rw [hc];exact Nat.le_mul_of_pos_right _ (Nat.succ_pos V)
 have hV:V+1≤c.length:=by rw [hc];exact Nat.le_mul_of_pos_left _ (Nat.succ_pos U)
 have hnp:=net_pureN U V c
 have hsl:=swL_len U V c
 have hsw:(swL U V c).length≤1048576:=by rw [hsl,Nat.mul_comm,←hc];exact hl
 have hnp2:=net_pureN V U (swL U V c)
 refine fnP Tryz.func132 ?_
 refine zg8 ?_
 refine wl_regD 5 (by decide +kernel) ?_
 refine zg1 ?_
 refine cp am1 (c_Swap U V c hc hl hcR) ?_
 refine zg1 ?_
 refine cp am2 (c_Column V U (swL U V c) hsl hsw u hS) ?_
 refine zg4 ?_
 exact ret1 rfl (by first | exact .pure rfl | exact .pure (limL_pure _) | exact .pure (magL_pure _) | exact .pure (ratE.pure _) | exact .pure (pure_lst u32E _ _) | exact .pure (pure_lst ratE _ _))
open H0 in
theorem c_TEval (U V:Nat) (c:List Rat) (hc:c.length=(U+1)*(V+1)) (hl:c.length≤1048576) (hcR:∀ x∈c,rl x≤274877906944) (u v:Rat) (hS:∀ j,j≤V→HS (rwL U (swL U V c) j) u) (hS2:HS (rowT U V c u) v):CallP Tryz.prog 66 [.agg [nI64 U,nI64 V,.list 3 (c.map ratL)],ratL u,ratL v] (ratL (evT U V c u v)):=by
 have hU:U+1≤c.length:=by rw [hc];exact Nat.le_mul_of_pos_right _ (Nat.succ_pos V)
 have hV:V+1≤c.length:=by rw [hc];exact Nat.le_mul_of_pos_left _ (Nat.succ_pos U)
 have hnp:=net_pureN U V c
 refine fnP Tryz.func66 ?_
 refine zg9 ?_
 refine wl_regD 5 (by decide +kernel) ?_
 refine zg2 ?_
 refine cp am2 (c_TRow U V c hc hl hcR u hS) ?_
 refine zg1 ?_
 refine cp am2 (c_BEval (rowT U V c u) v hS2 (by rw [rowT_len];exact Nat.succ_pos V)) ?_
 refine zg4 ?_
 exact retC [] rfl rfl rfl (ratE.csize _) (ratL_all _) T29 (.pure (ratE.pure _))
open H0 in
theorem c_columns (U V:Nat) (c:List Rat) (hc:c.length=(U+1)*(V+1)) (hl:c.length≤1048576) (hcR:∀ x∈c,rl x≤274877906944) (f:Nat) (caps:List LV) (hcp:pures caps=true) (hcs:∀ x∈caps,x.csize=1∧x.isAgg=false) (g:List Rat→List Rat) (W:Nat) (hf:∀ j,j≤V→CallP Tryz.prog f ([.list 3 ((rwL U (swL U V c) j).map ratL)]++caps) (.list 3 ((g (rwL U (swL U V c) j)).map ratL))) (hg:∀ j,j≤V→(g (rwL U (swL U V c) j)).length=W+1) (hW:(V+1)*(W+1)≤1048576) (hgR:∀ x∈(rsL g U (swL U V c) (V+1)),rl x≤274877906944):CallP Tryz.prog 143 [.agg [nI64 U,nI64 V,.list 3 (c.map ratL)],.clo f caps] (.agg [nI64 W,nI64 V,.list 3 ((swL V W (rsL g U (swL U V c) (V+1))).map ratL)]):=by
 have hU:U+1≤c.length:=by rw [hc];exact Nat.le_mul_of_pos_right _ (Nat.succ_pos V)
 have hV:V+1≤c.length:=by rw [hc];exact Nat.le_mul_of_pos_left _ (Nat.succ_pos U)
 have hnp:=net_pureN U V c
 have hsl:=swL_len U V c
 have hsw:(swL U V c).length≤1048576:=by rw [hsl,Nat.mul_comm,←hc];exact hl
 have hnp2:=net_pureN V U (swL U V c)
 have hrl:=rsL_len hg (V+1) (Nat.le_refl _)
 have hnp3:=net_pureN V W (rsL g U (swL U V c) (V+1))
 have hcl:LV.pure (.clo f caps)=true:=by simpa [LV.pure] using hcp
 refine fnP Tryz.func143 (ht:=(fun g=>LV.ren_pure g _ (net_pureN _ _ _))) ?_
 refine zg9 ?_
 refine cp am1 (c_Swap U V c hc hl hcR) ?_
 refine zg1 ?_
 refine cp am2 (c_rows V U (swL U V c) hsl hsw f caps hcp hcs g W hf hg hW) ?_
 refine cp am1 (c_Swap V W (rsL g U (swL U V c) (V+1)) hrl (by omega) hgR) ?_
 refine zg4 ?_
 exact retC [] rfl rfl rfl rfl rfl T64 (.pure (net_pureN _ _ _))
open H0 in
theorem c_DiffU (U V:Nat) (c:List Rat) (hc:c.length=(U+1)*(V+1)) (hl:c.length≤1048576) (hcR:∀ x∈c,rl x≤1073741824) (hU1:U≤900):CallP Tryz.prog 72 [.agg [nI64 U,nI64 V,.list 3 (c.map ratL)]] (.agg [nI64 (U-1),nI64 V,.list 3 ((dfU U V c).map ratL)]):=by
 have hU:U+1≤c.length:=by rw [hc];exact Nat.le_mul_of_pos_right _ (Nat.succ_pos V)
 have hV:V+1≤c.length:=by rw [hc];exact Nat.le_mul_of_pos_left _ (Nat.succ_pos U)
 have hnp:=net_pureN U V c
 have hsl:=swL_len U V c
 have hsw:(swL U V c).length≤1048576:=by rw [hsl,Nat.mul_comm,←hc];exact hl
 have hnp2:=net_pureN (U-1) V (dfU U V c)
 have hsR:=sw_rl (U:=U) (V:=V) (R:=1073741824) (by decide) hcR
 refine fnP Tryz.func72 (ht:=(fun g=>LV.ren_pure g _ (net_pureN _ _ _))) ?_
 refine zg9 ?_
 refine cp am2 (c_columns U V c hc hl (fun x hx=>Nat.le_trans (hcR x hx) (by decide)) 144 [] rfl (fun x hx=>by cases hx) difP (U-1) (fun j hj=>c_Diff _ (by rw [rwL_len hsl hj];omega) (fun x hx=>hsR x (rwL_mem hx))) (fun j hj=>dif_W (rwL_len hsl hj)) (by have:=Nat.mul_le_mul_left (V+1) (show U-1+1≤U+1 by omega);omega) (rs_rl (U:=V) (fun j hj x hx=>Nat.le_trans (difP_rl (R:=1073741824) (by decide) (by rw [rwL_len hsl hj];omega) (fun x hx=>hsR x (rwL_mem hx)) x hx) (by decide)) (Nat.le_refl _))) ?_
 refine zg4 ?_
 exact retC [] rfl rfl rfl rfl rfl T64 (.pure (net_pureN _ _ _))
theorem sw_mem {U V:Nat} {c:List Rat} (hc:c.length=(U+1)*(V+1)) {x:Rat} (hx:x∈swL U V c):x∈c:=by
 obtain⟨i,hi,rfl⟩:=List.mem_map.1 hx
 have hi:=List.mem_range.1 hi
 have h1:i/(U+1)<V+1:=Nat.div_lt_of_lt_mul (by rw [Nat.mul_comm];exact hi)
 have h2:=Nat.mod_lt i (show U+1 > 0 by omega)
 exact getD_mem (by rw [hc];exact ix_lt (by omega) (by omega))
theorem rs_mem {g:List Rat→List Rat} {V U:Nat} {c:List Rat} {Q:Rat→Prop} (h:∀ i,i≤U→∀ x∈g (rwL V c i),Q x):∀ {n:Nat},n≤U+1→∀ x∈rsL g V c n,Q x
 | 0,_,x,hx=>by cases hx
 | n+1,hn,x,hx=>by
  rcases List.mem_append.1 (show x∈rsL g V c n++g (rwL V c n) from hx) with h1 | h1
  ·exact rs_mem h (by omega) x h1
  ·exact h n (by omega) x h1
theorem rs_get {g:List Rat→List Rat} {V W U:Nat} {c:List Rat} (hg:∀ i,i≤U→(g (rwL V c i)).length=W+1) {i j:Nat} (hj:j≤W):∀ {n:Nat},n≤U+1→i<n→(rsL g V c n).getD (i*(W+1)+j) 0=(g (rwL V c i)).getD j 0
 | 0,_,hi=>by omega
 | n+1,hn,hi=>by
  have hl:=rsL_len hg n (by omega)
  rw [rsL]
  rcases Nat.lt_or_ge i n with h | h
  ·rw [getD_app1 _ _ _ (by rw [hl];have:=Nat.mul_le_mul_right (W+1) (show i+1≤n from h);rw [Nat.succ_mul] at this;omega)]
   exact rs_get hg hj (by omega) h
  ·obtain rfl:i=n:=by omega
   rw [List.getD_eq_getElem?_getD,List.getElem?_append_right (by rw [hl];omega),hl,Nat.add_sub_cancel_left,←List.getD_eq_getElem?_getD]
theorem sw_get {U V:Nat} {c:List Rat} {i j:Nat} (hi:i≤U) (hj:j≤V):(swL U V c).getD (j*(U+1)+i) 0=c.getD (i*(V+1)+j) 0:=by
 rw [swL,gL_get (ix_lt hj hi),swV,ix_div hi,ix_mod hi]
theorem inR_of {m M:Rat} {l:List Rat} (h:∀ x∈l,m≤x∧x≤M):inR m M l:=fun _ hi=>h _ (getD_mem hi)
theorem ev_in {m M t:Rat} {p:List Rat} (h0:0≤t) (h1:t≤1) (hl:0<p.length) (h:inR m M p):m≤evP p t∧evP p t≤M:=inR_lo h0 h1 _ p rfl h _ (by rw [loF_len];omega)
section
variable {m M a b:Rat} {U V:Nat} {c:List Rat} (hc:c.length=(U+1)*(V+1)) (h0:0≤a) (hab:a≤b) (hb:b≤1) (h:∀ x∈c,m≤x∧x≤M)
theorem evT_in {u v:Rat} (hc:c.length=(U+1)*(V+1)) (hu0:0≤u) (hu1:u≤1) (hv0:0≤v) (hv1:v≤1) (h:∀ x∈c,m≤x∧x≤M):m≤evT U V c u v∧evT U V c u v≤M :=
 ev_in hv0 hv1 (by rw [rowT_len];omega) (inR_of (rs_mem (U:=V) (fun i hi x hx=>by
  rw [List.mem_singleton.1 hx]
  exact ev_in hu0 hu1 (by rw [rwL_len (swL_len U V c) hi];omega) (inR_of fun x hx=>h x (sw_mem hc (rwL_mem hx)))) (Nat.le_refl _)))
end
namespace H_c_TBnd
theorem zSm {p q:Prop} (k:q) (e:p=q:=by simp only [e1,e2,e3,e4,p1,p2,p3,q1,q2,q3,l1,t0,t1,r1,r2,r3,r4,Nat.zero_add,Nat.reduceMul,Nat.reduceAdd,b1,b2,b3,b4,b5,b6,i1,i2,i3,i4,i5,i6,Nat.reduceBEq,dfq,ebk,kills_map ratE,ratL_kill,spL_kill,LV.kill,kills];exact rfl):p:=e.mpr k
end H_c_TBnd
open H_c_TBnd in
theorem c_TBnd (u v:Int) (c:List Rat) (hl:c.length≤1048576) (hpr:∀ x∈c,rl x≤137438953472):CallP Tryz.prog 106 [.agg [iL u,iL v,.list 3 (c.map ratL)]] (spL (bndP c)):=by
 refine fnP Tryz.func106 ?_
 have ebk:True:=trivial
 refine zg21 ?_
 refine wl_weak (Weak.kill _ 1) ?_
 refine lp1 (fun(k:Nat) L=>((((((St.mk L.slot (hp [(2,⟨6,[spL (0,0)],true⟩),(3,⟨6,[spL (bkP c k)],true⟩)])).put (some 2) (.eptr 2 6 0 0)).put (some 3) (.eptr 3 6 0 0)).put (some 7) (.list 3 (c.map ratL))).put (some 8) (nI64 c.length)).put (some 9) (nI64 k))) (fun k=>k≤c.length) (fun k=>c.length-k) 0 (Nat.zero_le _) ?_
 rintro k L1 hk
 refine zg6 ?_
 refine wl_if rfl (fun h10r h10=>?_) (fun h10r h10=>?_)
 ·have hk2:k<c.length:=by omega
  have hr1:=getD_rl' (R:=137438953472) (by decide) hpr
  have hr2:=hr1 k
  have hr3:=bk_rl (by decide) hr1 k
  have hr4:rl ((c.getD k 0,c.getD k 0):Rat × Rat).1≤137438953472:=hr2
  have hr5:rl ((c.getD k 0,c.getD k 0):Rat × Rat).2≤137438953472:=hr2
  have ebk:bkP c (k+1)=hulP (if k=0 then(c.getD k 0,c.getD k 0) else bkP c k) (c.getD k 0,c.getD k 0):=rfl
  refine zg21 ?_
  refine wl_if rfl (fun h15r h15=>?_) (fun h15r h15=>?_)
  ·have hk0:k=0:=by omega
   rw [if_pos hk0] at ebk
   refine zg2 ?_
   refine cp am1 (c_SPoint _ (by omega)) ?_
   refine zg3 ?_
   refine wl_regD 4 (by decide +kernel) ?_
   refine zg2 ?_
   refine cp am1 (c_SPoint _ (by omega)) ?_
   refine cp am2 (c_SHull _ _ (by omega) (by omega)) ?_
   refine zg4 ?_
   refine wl_regW (Weak.kill _ 5) ?_
   refine zg4 ?_
   exact nx1 (k+1) (by omega)
  ·have hk0:¬ k=0:=by omega
   rw [if_neg hk0] at ebk
   refine zg2 ?_
   refine wl_regD 4 (by decide +kernel) ?_
   refine zg2 ?_
   refine cp am1 (c_SPoint _ (by omega)) ?_
   refine cp am2 (c_SHull _ _ (by omega) (by omega)) ?_
   refine zg4 ?_
   refine wl_regW (Weak.kill _ 5) ?_
   refine zg4 ?_
   exact nx1 (k+1) (by omega)
 ·obtain rfl:k=c.length:=by omega
  refine zg12 ?_
  exact retC [] rfl rfl rfl (spE.csize _) (spL_all _) T42 (.pure (spE.pure _))
def plL (p:List Rat):LV:=.list 3 (p.map ratL)
theorem plE:EncOK plL 1 false:=⟨fun _=>rfl,fun _=>rfl,fun p=>pure_lst ratE 3 p⟩
theorem plZ:ZeroOK Tryz.prog 159 (plL []):=⟨Tryz.t159,_,by kernel_rfl,rfl,rfl,fun _ _ _=>repNil0 3⟩
instance:EC Tryz.prog 159 plL 1 false []:=⟨plE,plZ,T159⟩
def upR (V:Nat) (c:List Rat) (v U:Nat):List Rat:=rsL (fun p=>upP p v) V c (U+1)
def upN (U V:Nat) (c:List Rat) (u v:Nat):List Rat:=swL v u (rsL (fun p=>upP p u) U (swL U v (upR V c v U)) (v+1))
theorem upR_len {U V v:Nat} {c:List Rat} (hc:c.length=(U+1)*(V+1)) (hV:V≤v):(upR V c v U).length=(U+1)*(v+1) :=
 rsL_len (W:=v) (U:=U) (fun i hi=>upP_len (by rw [rwL_len hc hi];omega)) _ (Nat.le_refl _)
theorem upN_len (U V:Nat) (c:List Rat) (u v:Nat):(upN U V c u v).length=(u+1)*(v+1):=swL_len v u _
theorem upP_mem {p:List Rat} {n:Nat} (hl:p.length≤n+1) (h:upS p n):∀ x∈upP p n,rl x≤1073741824:=h.2 _ (by omega)
theorem rs_one (V:Nat) (c:List Rat):∀ n,rsL (fun p=>p) V c n=c.take (n*(V+1))
 | 0=>by simp [rsL]
 | n+1=>by
  rw [rsL,rs_one V c n,rwL,Nat.succ_mul]
  have h:=List.take_append_drop (n*(V+1)) (c.take (n*(V+1)+(V+1)))
  rw [List.take_take,Nat.min_eq_left (by omega)] at h
  exact h
theorem sw_sw {U V:Nat} {c:List Rat} (hc:c.length=(U+1)*(V+1)):swL V U (swL U V c)=c:=by
 refine ext0 (by rw [swL_len,hc]) fun k hk=>?_
 rw [swL_len] at hk
 have h1:k/(V+1)<U+1:=Nat.div_lt_of_lt_mul (by rw [Nat.mul_comm];exact hk)
 have h2:=Nat.mod_lt k (show V+1 > 0 by omega)
 have e:k=k/(V+1)*(V+1)+k % (V+1):=by rw [Nat.mul_comm];exact(Nat.div_add_mod k (V+1)).symm
 rw [e,sw_get (U:=V) (V:=U) (i:=k % (V+1)) (j:=k/(V+1)) (by omega) (by omega),sw_get (U:=U) (V:=V) (i:=k/(V+1)) (j:=k % (V+1)) (by omega) (by omega)]
theorem rs_congr {g h:List Rat→List Rat} {V U:Nat} {c:List Rat} (e:∀ i,i≤U→g (rwL V c i)=h (rwL V c i)):∀ {n},n≤U+1→rsL g V c n=rsL h V c n
 | 0,_=>rfl
 | n+1,hn=>by rw [rsL,rsL,rs_congr e (by omega),e n (by omega)]
theorem upN_self {U V:Nat} {c:List Rat} (hc:c.length=(U+1)*(V+1)):upN U V c U V=c:=by
 have h1:upR V c V U=c:=by
  rw [upR,rs_congr (h:=fun p=>p) (fun i hi=>upP_self (by rw [rwL_len hc hi];omega)) (Nat.le_refl _),rs_one,List.take_of_length_le (by omega)]
 rw [upN,h1,rs_congr (h:=fun p=>p) (fun i hi=>upP_self (by rw [rwL_len (swL_len U V c) hi];omega)) (Nat.le_refl _),rs_one,List.take_of_length_le (by rw [swL_len];omega),sw_sw hc]
open H0 in
theorem c_DiffV (U V:Nat) (c:List Rat) (hc:c.length=(U+1)*(V+1)) (hl:c.length≤1048576) (hcR:∀ x∈c,rl x≤1073741824) (hV1:V≤900):CallP Tryz.prog 73 [.agg [nI64 U,nI64 V,.list 3 (c.map ratL)]] (.agg [nI64 U,nI64 (V-1),.list 3 ((dfV U V c).map ratL)]):=by
 have hU:U+1≤c.length:=by rw [hc];exact Nat.le_mul_of_pos_right _ (Nat.succ_pos V)
 have hV:V+1≤c.length:=by rw [hc];exact Nat.le_mul_of_pos_left _ (Nat.succ_pos U)
 have hnp:=net_pureN U V c
 have hnp2:=net_pureN U (V-1) (dfV U V c)
 refine fnP Tryz.func73 (ht:=(fun g=>LV.ren_pure g _ (net_pureN _ _ _))) ?_
 refine zg9 ?_
 refine cp am2 (c_rows U V c hc hl 144 [] rfl (fun x hx=>by cases hx) difP (V-1) (fun i hi=>c_Diff _ (by rw [rwL_len hc hi];omega) (fun x hx=>hcR x (rwL_mem hx))) (fun i hi=>dif_W (rwL_len hc hi)) (by have:=Nat.mul_le_mul_left (U+1) (show V-1+1≤V+1 by omega);omega)) ?_
 refine zg4 ?_
 exact retC [] rfl rfl rfl rfl rfl T64 (.pure (net_pureN _ _ _))
open H0 in
theorem c_up11 (p:List Rat) (d:Nat) (hp0:0<p.length) (hd:d≤40) (hpn:p.length≤d+1) (hps:upS p d):CallP Tryz.prog 276 [.list 3 (p.map ratL),.boxp (nI64 d)] (.list 3 ((upP p d).map ratL)):=by
 refine fnP Tryz.func276 ?_
 refine zg9 ?_
 refine cp am2 (c_Elev p d hp0 hd hpn hps) ?_
 refine zg14 ?_
 exact ret1 rfl (by first | exact .pure rfl | exact .pure (limL_pure _) | exact .pure (magL_pure _) | exact .pure (ratE.pure _) | exact .pure (pure_lst u32E _ _) | exact .pure (pure_lst ratE _ _))
open H0 in
theorem c_up1 (d:Nat):CallP Tryz.prog 275 [nI64 d] (.clo 276 [.boxp (nI64 d)]):=by
 refine fnP Tryz.func275 (ht:=(fun g=>by simp [LV.ren,rens])) ?_
 refine zg8 ?_
 refine st_opc [1] rfl rfl (.mk (caps:=[.boxp (nI64 d)]) (.cons (.eptr rfl rfl rfl rfl (at_self (nI64 d) rfl) rfl rfl) .nil) (fun x hx=>by rw [List.mem_singleton.1 hx];exact⟨rfl,rfl⟩)) rfl ?_
 refine zg4 ?_
 exact ret1 rfl (.pure rfl)
namespace H_c_up7
theorem zSm {p q:Prop} (k:q) (e:p=q:=by simp only [e1,e2,e3,e4,p1,p2,p3,q1,q2,q3,l1,t0,t1,r1,r2,r3,r4,Nat.zero_add,Nat.reduceMul,Nat.reduceAdd,b1,b2,b3,b4,b5,b6,i1,i2,i3,i4,i5,i6,Nat.reduceBEq,frz_nil,dfq,kills_map ratE,ratL_kill,spL_kill,LV.kill,kills];exact rfl):p:=e.mpr k
end H_c_up7
open H_c_up7 in
theorem c_up7 (U V:Nat) (c:List Rat) (hc:c.length=(U+1)*(V+1)) (hl:c.length≤1048576) (hcR:∀ x∈c,rl x≤274877906944) (u v:Nat) (hUu:U≤u) (hVv:V≤v) (hu:u≤40) (hv:v≤40) (h1:∀ i,i≤U→upS (rwL V c i) v) (h2:∀ j,j≤v→upS (rwL U (swL U v (upR V c v U)) j) u):CallP Tryz.prog 264 [.agg [nI64 U,nI64 V,.list 3 (c.map ratL)],nI64 u,nI64 v] (.agg [nI64 u,nI64 v,.list 3 ((upN U V c u v).map ratL)]):=by
 have hU:U+1≤c.length:=by rw [hc];exact Nat.le_mul_of_pos_right _ (Nat.succ_pos V)
 have hV:V+1≤c.length:=by rw [hc];exact Nat.le_mul_of_pos_left _ (Nat.succ_pos U)
 have hnp:=net_pureN U V c
 have hl1:=upR_len hc hVv
 have hl1s:(upR V c v U).length≤1048576:=by rw [hl1];exact Nat.le_trans (Nat.mul_le_mul (show U+1≤41 by omega) (show v+1≤41 by omega)) (by decide)
 have hn1:=net_pureN U v (upR V c v U)
 have hR1:=c_rows U V c hc hl 276 [.boxp (nI64 v)] rfl (fun x hx=>by rw [List.mem_singleton.1 hx];exact⟨rfl,rfl⟩) (fun p=>upP p v) v (fun i hi=>c_up11 _ v (by rw [rwL_len hc hi];omega) hv (by rw [rwL_len hc hi];omega) (h1 i hi)) (fun i hi=>upP_len (by rw [rwL_len hc hi];omega)) (by rw [←hl1];exact hl1s)
 have hm1:∀ x∈(upR V c v U),rl x≤1073741824:=rs_mem (U:=U) (fun i hi=>upP_mem (by rw [rwL_len hc hi];omega) (h1 i hi)) (Nat.le_refl _)
 have hsl:=swL_len U v (upR V c v U)
 have hR2:=c_columns U v (upR V c v U) hl1 hl1s (fun x hx=>Nat.le_trans (hm1 x hx) (by decide)) 276 [.boxp (nI64 u)] rfl (fun x hx=>by rw [List.mem_singleton.1 hx];exact⟨rfl,rfl⟩) (fun p=>upP p u) u (fun j hj=>c_up11 _ u (by rw [rwL_len hsl hj];omega) hu (by rw [rwL_len hsl hj];omega) (h2 j hj)) (fun j hj=>upP_len (by rw [rwL_len hsl hj];omega)) (by exact Nat.le_trans (Nat.mul_le_mul (show v+1≤41 by omega) (show u+1≤41 by omega)) (by decide)) (rs_mem (U:=v) (fun j hj x hx=>Nat.le_trans (upP_mem (by rw [rwL_len hsl hj];omega) (h2 j hj) x hx) (by decide)) (Nat.le_refl _))
 refine fnP Tryz.func264 (ht:=(fun g=>LV.ren_pure g _ (net_pureN _ _ _))) ?_
 refine zg12 ?_
 refine wl_regD 9 (by decide +kernel) ?_
 refine zg3 ?_
 refine st_opc [] rfl rfl (.clo (f:=275) (cap:=[]) (args:=[nI64 v]) rfl (.cons im0 .nil) ⟨rfl,fun _ h=>by cases h⟩ (c_up1 v).1 (by decide) (fun _ h=>by cases h)) ((c_up1 v).2 _) ?_
 refine st_callP rfl (.cons (.pure hnp) (.cons (.pure rfl) .nil)) hR1 ?_
 refine zg2 ?_
 refine st_opc [] rfl rfl (.clo (f:=275) (cap:=[]) (args:=[nI64 u]) rfl (.cons im0 .nil) ⟨rfl,fun _ h=>by cases h⟩ (c_up1 u).1 (by decide) (fun _ h=>by cases h)) ((c_up1 u).2 _) ?_
 refine st_callP rfl (.cons (.pure hn1) (.cons (.pure rfl) .nil)) hR2 ?_
 refine zg4 ?_
 exact retC [] rfl rfl rfl rfl rfl T64 (.pure (net_pureN _ _ _))
theorem mx_u {a b u:Nat} (h1:a≤u) (h2:b≤u) (h:a=u∨b=u):(if ((b:Nat):Int) > ((a:Nat):Int) then((b:Nat):Int) else((a:Nat):Int))=((u:Nat):Int):=by split<;>omega
theorem mnE (a:Int):(if a<a then a else a)=a:=by split<;>rfl
structure upH (U V:Nat) (c:List Rat) (u v:Nat):Prop where
 hc:c.length=(U+1)*(V+1)
 hl:c.length≤1048576
 hR:∀ x∈c,rl x≤274877906944
 hU:U≤u
 hV:V≤v
 hu:u≤40
 hv:v≤40
 h1:∀ i,i≤U→upS (rwL V c i) v
 h2:∀ j,j≤v→upS (rwL U (swL U v (upR V c v U)) j) u
theorem upH.rl {U V u v:Nat} {c:List Rat} (h:upH U V c u v):∀ x∈upN U V c u v,Go.Lg.rl x≤1073741824 :=
 sw_rl (by decide) fun x hx=>rs_mem (U:=v) (V:=U) (c:=swL U v (upR V c v U)) (n:=v+1) (fun j hj y hy=>upP_mem (by rw [rwL_len (swL_len U v _) hj];have:=h.hU;omega) (h.h2 j hj) y hy) (Nat.le_refl _) x hx
theorem upH.g {U V u v:Nat} {c:List Rat} (h:upH U V c u v) (k:Nat):Go.Lg.rl ((upN U V c u v).getD k 0)≤1073741824:=getD_rl (by decide) h.rl k
theorem upH.n {U V u v:Nat} {c:List Rat} (h:upH U V c u v):(u+1)*(v+1)≤1681 :=
 Nat.le_trans (Nat.mul_le_mul (show u+1≤41 by have:=h.hu;omega) (show v+1≤41 by have:=h.hv;omega)) (by decide)
namespace H_c_both7
theorem zSm {p q:Prop} (k:q) (e:p=q:=by simp only [e1,e2,e3,e4,p1,p2,p3,q1,q2,q3,l1,t0,t1,r1,r2,r3,r4,Nat.zero_add,Nat.reduceMul,Nat.reduceAdd,b1,b2,b3,b4,b5,b6,i1,i2,i3,i4,i5,i6,Nat.reduceBEq,frz_nil,dfq,hmu,hmv,mnE,eg,take_gL,elp,elq,take_map_len,map_snoc,len_snoc,List.length_cons,List.length_nil,List.nil_append,List.map_nil,List.take_nil,List.append_nil,kills_map ratE,ratL_kill,spL_kill,LV.kill,kills];exact rfl):p:=e.mpr k
end H_c_both7
open H_c_both7 in
theorem c_both7 (f:Nat) (g:Rat→Rat→Rat) (U1 V1 U2 V2:Nat) (a b:List Rat) (u v:Nat) (ha:upH U1 V1 a u v) (hb:upH U2 V2 b u v) (hu:U1=u∨U2=u) (hv:V1=v∨V2=v) (hf:∀ i,CallP Tryz.prog f [ratL ((upN U1 V1 a u v).getD i 0),ratL ((upN U2 V2 b u v).getD i 0)] (ratL (g ((upN U1 V1 a u v).getD i 0) ((upN U2 V2 b u v).getD i 0)))):CallP Tryz.prog 210 [.agg [nI64 U1,nI64 V1,.list 3 (a.map ratL)],.agg [nI64 U2,nI64 V2,.list 3 (b.map ratL)],.clo f []] (.agg [nI64 u,nI64 v,.list 3 ((zipG g (upN U1 V1 a u v) (upN U2 V2 b u v)).map ratL)]):=by
 have hmu:=mx_u ha.hU hb.hU hu
 have hmv:=mx_u ha.hV hb.hV hv
 have elp:(upN U1 V1 a u v).length=(u+1)*(v+1):=upN_len _ _ _ _ _
 have elq:(upN U2 V2 b u v).length=(u+1)*(v+1):=upN_len _ _ _ _ _
 have hn:=ha.n
 have hn1:=net_pureN U1 V1 a
 have hn2:=net_pureN U2 V2 b
 have hn3:=net_pureN u v (upN U1 V1 a u v)
 have hn4:=net_pureN u v (upN U2 V2 b u v)
 refine fnP Tryz.func210 (ht:=(fun g=>LV.ren_pure g _ (net_pureN _ _ _))) ?_
 have eg:True:=trivial
 have elp:True:=trivial
 have elq:True:=trivial
 refine zg8 ?_
 refine wl_regD 12 (by decide +kernel) ?_
 refine zg15 ?_
 refine wl_regD 8 (by decide +kernel) ?_
 refine zg3 ?_
 refine cp am3 (c_up7 U1 V1 a ha.hc ha.hl ha.hR u v ha.hU ha.hV ha.hu ha.hv ha.h1 ha.h2) ?_
 refine zg3 ?_
 refine cp am3 (c_up7 U2 V2 b hb.hc hb.hl hb.hR u v hb.hU hb.hV hb.hu hb.hv hb.h1 hb.h2) ?_
 refine zg27 ?_
 refine wl_weak ((Weak.cell 9 rfl (fun Z μ w cs h=>rep_net 57 3 _ _ Z μ w cs h)).trans (Weak.newB _ 57 3 rfl)) ?_
 refine lp1 (fun(i:Nat) L=>((((((((St.mk L.slot (hp [(3,⟨3,[.agg [nI64 u,nI64 v,.list 3 ((upN U1 V1 a u v).map ratL)]],true⟩),(4,⟨3,[.agg [nI64 u,nI64 v,.list 3 ((upN U2 V2 b u v).map ratL)]],true⟩),(6,⟨3,[.agg [.v (.int .i64 0),.v (.int .i64 0),.v (.slice none 0 0)]],true⟩),(9,⟨3,[.agg [nI64 u,nI64 v,.ref 57 3 0 i]],true⟩),(57,⟨3,(gL i (fun k=>g ((upN U1 V1 a u v).getD k 0) ((upN U2 V2 b u v).getD k 0))).map ratL,true⟩)])).put (some 2) (.clo f [])).put (some 3) (.eptr 3 3 0 0)).put (some 4) (.eptr 4 3 0 0)).put (some 6) (.eptr 6 3 0 0)).put (some 9) (.eptr 9 3 0 0)).put (some 38) (nI64 ((u+1)*(v+1)))).put (some 39) (nI64 i))) (fun i=>i≤(u+1)*(v+1)) (fun i=>(u+1)*(v+1)-i) 0 (Nat.zero_le _) ?_
 rintro i L1 hi
 refine zg6 ?_
 refine wl_if rfl (fun h40r h40=>?_) (fun h40r h40=>?_)
 ·have hi2:i<(u+1)*(v+1):=by omega
  have hfi:=hf i
  have hgl:=gL_len i (fun k=>g ((upN U1 V1 a u v).getD k 0) ((upN U2 V2 b u v).getD k 0))
  have eg:gL (i+1) (fun k=>g ((upN U1 V1 a u v).getD k 0) ((upN U2 V2 b u v).getD k 0))=gL i (fun k=>g ((upN U1 V1 a u v).getD k 0) ((upN U2 V2 b u v).getD k 0))++[g ((upN U1 V1 a u v).getD i 0) ((upN U2 V2 b u v).getD i 0)]:=gL_succ _ _
  refine zg10 ?_
  refine wl_regD 15 (by decide +kernel) ?_
  refine zg13 ?_
  refine st_opc [] rfl rfl (.clo (f:=f) (cap:=[]) (args:=[ratL ((upN U1 V1 a u v).getD i 0),ratL ((upN U2 V2 b u v).getD i 0)]) rfl (.cons im0 (.cons im0 .nil)) ⟨rfl,fun _ h=>by cases h⟩ hfi.1 (by decide) (fun _ h=>by cases h)) (hfi.2 _) ?_
  refine zg1 ?_
  refine st_store rfl (.app (news:=[ratL (g ((upN U1 V1 a u v).getD i 0) ((upN U2 V2 b u v).getD i 0))]) rfl rfl rfl rfl rfl (by simp [gL_len]) (.inl rfl) (by decide) Tryz.underlying36 Tryz.underlying36 Z29a T29 rfl B29 (.inl ⟨56,0,_,rfl,by decide,rfl,rfl,by simp,rfl,by simp [pures,ratE.pure]⟩) (by simp;omega) (by simp;omega) (by decide)) ?_
  refine zg5 ?_
  refine wl_regW (Weak.kill _ 56) ?_
  refine st_pure rfl (.bin rfl rfl (add1N (by omega))) ?_
  refine zg3 ?_
  exact nx1 (i+1) (by omega)
 ·obtain rfl:i=(u+1)*(v+1):=by omega
  have hE:gL ((u+1)*(v+1)) (fun k=>g ((upN U1 V1 a u v).getD k 0) ((upN U2 V2 b u v).getD k 0))=(zipG g (upN U1 V1 a u v) (upN U2 V2 b u v)):=by rw [zipG,upN_len];rfl
  refine zg12 ?_
  rw [←hE]
  exact retC [57] rfl rfl rfl rfl rfl T64 (.agg (.cons (.pure rfl) (.cons (.pure rfl) (.cons (imm_refm ratE rfl rfl (by rw [gL_len])) .nil))))
open H0 in
theorem c_TSub (U1 V1 U2 V2:Nat) (a b:List Rat) (u v:Nat) (ha:upH U1 V1 a u v) (hb:upH U2 V2 b u v) (hu:U1=u∨U2=u) (hv:V1=v∨V2=v):CallP Tryz.prog 141 [.agg [nI64 U1,nI64 V1,.list 3 (a.map ratL)],.agg [nI64 U2,nI64 V2,.list 3 (b.map ratL)]] (.agg [nI64 u,nI64 v,.list 3 ((zipG (·-·) (upN U1 V1 a u v) (upN U2 V2 b u v)).map ratL)]):=by
 have hn1:=net_pureN U1 V1 a
 have hn2:=net_pureN U2 V2 b
 refine fnP Tryz.func141 (ht:=(fun g=>LV.ren_pure g _ (net_pureN _ _ _))) ?_
 refine zg11 ?_
 refine cp am3 (c_both7 82 (·-·) U1 V1 U2 V2 a b u v ha hb hu hv (fun i=>c_RSub _ _ (by have:=ha.g i;have:=hb.g i;omega))) ?_
 refine zg4 ?_
 exact retC [] rfl rfl rfl rfl rfl T64 (.pure (net_pureN _ _ _))
theorem sm_comm:∀ (n m:Nat) (f:Nat→Nat→Rat),sm n (fun i=>sm m (f i))=sm m (fun j=>sm n (fun i=>f i j))
 | 0,m,f=>(sm_zero m _ (fun _ _=>rfl)).symm
 | n+1,m,f=>by rw [sm,sm_comm n m f,←sm_add];rfl
def sx (U V:Nat) (c:List Rat) (i j:Nat):Rat:=cR U i*sq (rwL V c i) j
theorem wt_sx {U V i j:Nat} {c:List Rat} (hc:c.length=(U+1)*(V+1)) (hi:i≤U) (hj:j≤V):(wtL U V c).getD (i*(V+1)+j) 0=sx U V c i j:=by
 rw [wtL,gL_get (ix_lt hi hj),wtV,ix_div hj,ix_mod hj,sx,sq,rwL_len hc hi,Nat.add_sub_cancel,rwL_get hc hi hj,Rat.mul_assoc];rfl
theorem sx_gt {U V i j:Nat} {c:List Rat} (hc:c.length=(U+1)*(V+1)) (hi:i≤U) (hj:V<j):sx U V c i j=0:=by
 rw [sx,sq_gt (by rw [rwL_len hc hi];omega),Rat.mul_zero]
theorem ix_inj {W i j r s:Nat} (hj:j≤W) (hs:s≤W) (h:i*(W+1)+j=r*(W+1)+s):i=r∧j=s:=by
 have h1:=congrArg (·/(W+1)) h
 have h2:=congrArg (· % (W+1)) h
 simp only [ix_div hj,ix_div hs,ix_mod hj,ix_mod hs] at h1 h2
 exact⟨h1,h2⟩
section
variable {V1 V2 W U U2 r s:Nat} {x y o:List Rat} (i j k:Nat)
theorem mL_len:∀ l (o:List Rat),(mL V1 V2 W x y i j k l o).length=o.length
 | 0,o=>rfl
 | l+1,o=>by rw [mL,List.length_set,mL_len l o]
theorem mK_len:∀ k (o:List Rat),(mK V1 V2 W x y i j k o).length=o.length
 | 0,o=>rfl
 | k+1,o=>by rw [mK,mL_len,mK_len k o]
theorem mJ_len:∀ j (o:List Rat),(mJ V1 V2 W U2 x y i j o).length=o.length
 | 0,o=>rfl
 | j+1,o=>by rw [mJ,mK_len,mJ_len j o]
theorem mI_len:∀ i (o:List Rat),(mI V1 V2 W U2 x y i o).length=o.length
 | 0,o=>rfl
 | i+1,o=>by rw [mI,mJ_len,mI_len i o]
theorem mL_get (hik:i+k≤U) (ho:o.length=(U+1)*(W+1)):∀ l,j+l≤W+1→∀ r s,s≤W→(mL V1 V2 W x y i j k l o).getD (r*(W+1)+s) 0=o.getD (r*(W+1)+s) 0+(if i+k=r∧j≤s∧s<j+l then x.getD (i*(V1+1)+j) 0*y.getD (k*(V2+1)+(s-j)) 0 else 0)
 | 0,_,r,s,hs=>by rw [mL,if_neg (by omega),Rat.add_zero]
 | l+1,h,r,s,hs=>by
  have hix:=ix_lt (U:=U) (V:=W) (i:=i+k) (j:=j+l) (by omega) (by omega)
  have ih:=mL_get hik ho l (by omega)
  rw [mL,set_get0 _ _ _ _ (by rw [mL_len,ho];omega)]
  by_cases h1:(i+k)*(W+1)+j+l=r*(W+1)+s
  ·obtain⟨h2,h3⟩:=ix_inj (W:=W) (i:=i+k) (j:=j+l) (r:=r) (s:=s) (by omega) hs (by omega)
   rw [if_pos h1,h1,ih r s hs,if_neg (by omega),if_pos (by omega),show s-j=l by omega];grind
  ·rw [if_neg h1,ih r s hs]
   have h4:¬ (i+k=r∧j+l=s):=fun⟨e1,e2⟩=>h1 (by rw [←e1,←e2];omega)
   by_cases h2:i+k=r∧j≤s∧s<j+l
   ·rw [if_pos h2,if_pos (by omega)]
   ·rw [if_neg h2,if_neg (by omega)]
theorem mK_get (hs:s≤W) (hj:j+V2≤W) (ho:o.length=(U+1)*(W+1)):∀ k,i+k≤U+1→(mK V1 V2 W x y i j k o).getD (r*(W+1)+s) 0=o.getD (r*(W+1)+s) 0+sm k (fun k=>if i+k=r∧j≤s∧s<j+(V2+1) then x.getD (i*(V1+1)+j) 0*y.getD (k*(V2+1)+(s-j)) 0 else 0)
 | 0,_=>by rw [mK,sm,Rat.add_zero]
 | k+1,h=>by
  rw [mK,mL_get (U:=U) i j k (by omega) (by rw [mK_len];exact ho) _ (by omega) r s hs,mK_get hs hj ho k (by omega),Rat.add_assoc];rfl
theorem mJ_get (hs:s≤W) (hV:V1+V2≤W) (ho:o.length=(U+1)*(W+1)) (hi:i+U2≤U):∀ j,j≤V1+1→(mJ V1 V2 W U2 x y i j o).getD (r*(W+1)+s) 0=o.getD (r*(W+1)+s) 0+sm j (fun j=>sm (U2+1) fun k=>if i+k=r∧j≤s∧s<j+(V2+1) then x.getD (i*(V1+1)+j) 0*y.getD (k*(V2+1)+(s-j)) 0 else 0)
 | 0,_=>by rw [mJ,sm,Rat.add_zero]
 | j+1,h=>by
  rw [mJ,mK_get (U:=U) i j hs (by omega) (by rw [mJ_len];exact ho) _ (by omega),mJ_get hs hV ho hi j (by omega),Rat.add_assoc];rfl
theorem mI_get {U1:Nat} (hs:s≤W) (hV:V1+V2≤W) (ho:o.length=(U+1)*(W+1)) (hU:U1+U2≤U):∀ i,i≤U1+1→(mI V1 V2 W U2 x y i o).getD (r*(W+1)+s) 0=o.getD (r*(W+1)+s) 0+sm i (fun i=>sm (V1+1) fun j=>sm (U2+1) fun k=>if i+k=r∧j≤s∧s<j+(V2+1) then x.getD (i*(V1+1)+j) 0*y.getD (k*(V2+1)+(s-j)) 0 else 0)
 | 0,_=>by rw [mI,sm,Rat.add_zero]
 | i+1,h=>by
  rw [mI,mJ_get (U:=U) i hs hV (by rw [mI_len];exact ho) (by omega) _ (Nat.le_refl _),mI_get hs hV ho hU i (by omega),Rat.add_assoc];rfl
end
def tpS (U1 V1 U2 V2:Nat) (a b:List Rat) (r s:Nat):Rat:=sm (U1+1) fun i=>sm (U2+1) fun k=>if i+k=r then cf (sx U1 V1 a i) (sx U2 V2 b k) s else 0
theorem top_get {U1 V1 U2 V2 r s:Nat} {a b:List Rat} (ha:a.length=(U1+1)*(V1+1)) (hb:b.length=(U2+1)*(V2+1)) (hs:s≤V1+V2):(mTop U1 V1 U2 V2 a b).getD (r*(V1+V2+1)+s) 0=tpS U1 V1 U2 V2 a b r s:=by
 rw [mTop,mI_get (U:=U1+U2) (U1:=U1) hs (Nat.le_refl _) (by simp) (Nat.le_refl _) _ (Nat.le_refl _),repl_get,Rat.zero_add]
 refine sm_congr _ _ _ fun i hi=>?_
 rw [sm_comm]
 refine sm_congr _ _ _ fun k hk=>?_
 by_cases h:i+k=r
 ·rw [if_pos h]
  have hG1:∀ j,V1+1≤j→(fun j=>if j≤s then sx U1 V1 a i j*sx U2 V2 b k (s-j) else 0) j=0:=fun j hj=>by
   show (if j≤s then sx U1 V1 a i j*sx U2 V2 b k (s-j) else 0)=0
   split
   ·rw [sx_gt ha (by omega) (by omega),Rat.zero_mul]
   ·rfl
  have hG2:∀ j,s+1≤j→(fun j=>if j≤s then sx U1 V1 a i j*sx U2 V2 b k (s-j) else 0) j=0:=fun j hj=>if_neg (by omega)
  have e:cf (sx U1 V1 a i) (sx U2 V2 b k) s=sm (V1+1) (fun j=>if j≤s then sx U1 V1 a i j*sx U2 V2 b k (s-j) else 0):=by
   rw [←sm_ext _ _ hG1 (s+1),Nat.add_comm,sm_ext _ _ hG2]
   exact sm_congr _ _ _ fun j hj=>(if_pos (by omega)).symm
  rw [e]
  refine sm_congr _ _ _ fun j hj=>?_
  by_cases h2:j≤s
  ·rw [if_pos h2]
   by_cases h3:s<j+(V2+1)
   ·rw [if_pos ⟨h,h2,h3⟩,wt_sx ha (by omega) (by omega),wt_sx hb (by omega) (by omega)]
   ·rw [if_neg (by omega),sx_gt hb (by omega) (by omega),Rat.mul_zero]
  ·rw [if_neg h2,if_neg (by omega)]
 ·rw [if_neg h]
  exact sm_zero _ _ fun j _=>if_neg (by omega)
theorem tm_len (U1 V1 U2 V2:Nat) (a b:List Rat):(tmL U1 V1 U2 V2 a b).length=(U1+U2+1)*(V1+V2+1):=gL_len _ _
theorem tm_get {U1 V1 U2 V2 r s:Nat} {a b:List Rat} (ha:a.length=(U1+1)*(V1+1)) (hb:b.length=(U2+1)*(V2+1)) (hr:r≤U1+U2) (hs:s≤V1+V2):(tmL U1 V1 U2 V2 a b).getD (r*(V1+V2+1)+s) 0=tpS U1 V1 U2 V2 a b r s/(cR (U1+U2) r*cR (V1+V2) s):=by
 rw [tmL,gL_get (ix_lt hr hs),dvV,ix_div hs,ix_mod hs,top_get ha hb hs];rfl
section
variable {U1 V1 U2 V2 i k:Nat} {a b:List Rat} (ha:a.length=(U1+1)*(V1+1)) (hb:b.length=(U2+1)*(V2+1)) (hi:i≤U1) (hk:k≤U2)
def pB (V1 V2 R:Nat):Nat:=(V1+1)*((V2+1)*(2*R+5))+12
end
def oE:Option (List Rat)→LV
 | none=>.v (.slice none 0 0)
 | some p=>plL p
section
variable {U1 V1 U2 V2 R:Nat} {a b:List Rat}
end
theorem oE_ok:EncOK oE 1 false:=⟨fun o=>by cases o<;>rfl,fun o=>by cases o<;>rfl,fun o=>by
 cases o with
 | none=>rfl
 | some p=>exact pure_lst ratE 3 p⟩
theorem oE_z:ZeroOK Tryz.prog 159 (oE none):=⟨Tryz.t159,_,by kernel_rfl,rfl,rfl,fun _ _ _=>⟨rfl,rfl⟩⟩
instance:EC Tryz.prog 159 oE 1 false none:=⟨oE_ok,oE_z,T159⟩
theorem row_get {U V j:Nat} {c:List Rat} (hj:j≤V) (u:Rat):(rowT U V c u).getD j 0=fE (1-u) u U (fun i=>c.getD (i*(V+1)+j) 0):=by
 have:=rs_get (g:=fun p=>[evP p u]) (V:=U) (W:=0) (U:=V) (c:=swL U V c) (fun i hi=>rfl) (i:=j) (j:=0) (Nat.le_refl _) (n:=V+1) (Nat.le_refl _) (by omega)
 rw [show j*(0+1)+0=j by omega] at this
 rw [rowT,this]
 show evP (rwL U (swL U V c) j) u=_
 rw [ev_fE (by rw [rwL_len (swL_len U V c) hj];omega),rwL_len (swL_len U V c) hj,Nat.add_sub_cancel]
 exact fE_congr _ _ _ _ _ fun i hi=>by rw [rwL_get (swL_len U V c) hj hi,sw_get hi hj]
theorem dfV_len {U V:Nat} {c:List Rat} (hc:c.length=(U+1)*(V+1)):(dfV U V c).length=(U+1)*(V-1+1) :=
 rsL_len (W:=V-1) (U:=U) (fun i hi=>dif_W (rwL_len hc hi)) _ (Nat.le_refl _)
theorem dfU_len (U V:Nat) (c:List Rat):(dfU U V c).length=(U-1+1)*(V+1):=swL_len _ _ _
theorem sm_rlT {B:Nat}:∀ (n:Nat) (f:Nat→Rat),(∀ i,i<n→rl (f i)≤B)→rl (sm n f)≤1+n*(B+1)
 | 0,f,_=>by show rl 0≤_;rw [show rl 0=1 from rfl];omega
 | n+1,f,h=>by
  have h1:=sm_rlT n f (fun i hi=>h i (by omega))
  have h2:=h n (by omega)
  have h3:=rl_add (sm n f) (f n)
  rw [sm,Nat.succ_mul];omega
theorem upH_same {U V:Nat} {c:List Rat} (hc:c.length=(U+1)*(V+1)) (hU:U≤40) (hV:V≤40) (hR:∀ x∈c,rl x≤1073741824):upH U V c U V:=by
 have h1:upR V c V U=c:=by
  rw [upR,rs_congr (h:=fun p=>p) (fun i hi=>upP_self (by rw [rwL_len hc hi];omega)) (Nat.le_refl _),rs_one,List.take_of_length_le (by omega)]
 have h2:∀ {p:List Rat} {n:Nat},p.length=n+1→(∀ x∈p,rl x≤1073741824)→upS p n:=fun {p n} hp hpR=>⟨hpR,fun k hk=>by
  obtain rfl:k=0:=by omega
  exact hpR⟩
 refine⟨hc,?_,fun x hx=>Nat.le_trans (hR x hx) (by decide),Nat.le_refl _,Nat.le_refl _,hU,hV,fun i hi=>h2 (rwL_len hc hi) (fun x hx=>hR x (rwL_mem hx)),fun j hj=>?_⟩
 ·rw [hc];exact Nat.le_trans (Nat.mul_le_mul (show U+1≤41 by omega) (show V+1≤41 by omega)) (by decide)
 ·rw [h1]
  exact h2 (rwL_len (swL_len U V c) hj) (fun x hx=>hR x (sw_mem hc (rwL_mem hx)))
theorem dfV_rl {U V R:Nat} {c:List Rat} (hc:c.length=(U+1)*(V+1)) (hV:V≤900) (hR:1≤R) (h:∀ x∈c,rl x≤R):∀ x∈dfV U V c,rl x≤2*R+4 :=
 rs_mem (U:=U) (fun i hi=>difP_rl hR (by rw [rwL_len hc hi];omega) (fun x hx=>h x (rwL_mem hx))) (Nat.le_refl _)
theorem dfU_rl {U V R:Nat} {c:List Rat} (hc:c.length=(U+1)*(V+1)) (hU:U≤900) (hR:1≤R) (h:∀ x∈c,rl x≤R):∀ x∈dfU U V c,rl x≤2*R+4 :=
 sw_rl (by omega) (rs_mem (U:=V) (fun j hj=>difP_rl hR (by rw [rwL_len (swL_len U V c) hj];omega) (fun x hx=>h x (sw_mem hc (rwL_mem hx)))) (Nat.le_refl _))
theorem zipS_rl {R:Nat} {p q:List Rat} {g:Rat→Rat→Rat} (hg:∀ a b,rl (g a b)≤rl a+rl b+1) (hR:1≤R) (hp:∀ x∈p,rl x≤R) (hq:∀ x∈q,rl x≤R):∀ x∈zipG g p q,rl x≤2*R+1:=fun x hx=>by
 obtain⟨i,_,rfl⟩:=List.mem_map.1 hx
 have h1:=getD_rl hR hp i
 have h2:=getD_rl hR hq i
 have h3:=hg (p.getD i 0) (q.getD i 0)
 omega
theorem dfr:(default:List PoR)=[]:=rfl
theorem rep_nets4 (d1 d2 d3 d4 sz:Nat) (x1 x2 x3 x4 y1 y2 y3 y4:LV) (Z:Nat→Prop) (μ:Nat→Option Nat) (w:World) (cs:List Value)
  (h:Rep Z μ w (.agg [.agg [x1,y1,.v (.slice none 0 0)],.agg [x2,y2,.v (.slice none 0 0)],.agg [x3,y3,.v (.slice none 0 0)],.agg [x4,y4,.v (.slice none 0 0)]]) cs) :
  Rep Z μ w (.agg [.agg [x1,y1,.ref d1 sz 0 0],.agg [x2,y2,.ref d2 sz 0 0],.agg [x3,y3,.ref d3 sz 0 0],.agg [x4,y4,.ref d4 sz 0 0]]) cs:=by
 rw [Rep] at h ⊢
 simp only [RepFs] at h ⊢
 obtain⟨a1,b1,e1,l1,g1,a2,b2,e2,l2,g2,a3,b3,e3,l3,g3,a4,b4,e4,l4,g4,e5⟩:=h
 exact⟨a1,b1,e1,l1,rep_net _ _ _ _ _ _ _ _ g1,a2,b2,e2,l2,rep_net _ _ _ _ _ _ _ _ g2,a3,b3,e3,l3,rep_net _ _ _ _ _ _ _ _ g3,a4,b4,e4,l4,rep_net _ _ _ _ _ _ _ _ g4,e5⟩
theorem dropR {rows:List (List PoR)} {i:Nat} (h:i<rows.length):rows.drop i=rows.getD i [] :: rows.drop (i+1):=by
 rw [List.drop_eq_getElem_cons h,List.getD_eq_getElem?_getD,List.getElem?_eq_getElem h];rfl
theorem dropP {po:List PoR} {j:Nat} (h:j<po.length):po.drop j=po.getD j default :: po.drop (j+1):=by
 rw [List.drop_eq_getElem_cons h,List.getD_eq_getElem?_getD,List.getElem?_eq_getElem h];rfl
theorem getR_mem {rows:List (List PoR)} {i:Nat} (h:i<rows.length):rows.getD i []∈rows:=by
 rw [List.getD_eq_getElem?_getD,List.getElem?_eq_getElem h];exact List.getElem_mem h
structure rwOK (rows:List (List PoR)) (R:Nat):Prop where
 ok:∀ r∈rows,∀ q∈r,okP R q
 n:rows.length≤1000
 m:∀ r∈rows,r.length≤1000
 f:rows.flatten.length≤10000
structure rwI (rows:List (List PoR)) (i:Nat) (ps:List PoR):Prop where
 hi:i≤rows.length
 he:ps++(rows.drop i).flatten=rows.flatten
theorem rwI.le {rows:List (List PoR)} {i:Nat} {ps:List PoR} (h:rwI rows i ps):ps.length≤rows.flatten.length:=by
 rw [←h.he];simp
theorem rwI.zero (rows:List (List PoR)):rwI rows 0 []:=⟨Nat.zero_le _,rfl⟩
theorem rwI.last {rows:List (List PoR)} {ps:List PoR} (h:rwI rows rows.length ps):ps=rows.flatten:=by
 have:=h.he
 rwa [List.drop_length,List.flatten_nil,List.append_nil] at this
structure rwJ (rows:List (List PoR)) (i j:Nat) (qs:List PoR):Prop where
 hi:i<rows.length
 hj:j≤(rows.getD i []).length
 he:qs++((rows.getD i []).drop j++(rows.drop (i+1)).flatten)=rows.flatten
theorem rwI.go {rows:List (List PoR)} {i:Nat} {ps:List PoR} (h:rwI rows i ps) (hi:i<rows.length):rwJ rows i 0 ps:=by
 refine⟨hi,Nat.zero_le _,?_⟩
 have:=h.he
 rwa [dropR hi,List.flatten_cons] at this
theorem rwJ.le {rows:List (List PoR)} {i j:Nat} {qs:List PoR} (h:rwJ rows i j qs):qs.length≤rows.flatten.length:=by
 rw [←h.he];simp
theorem rwJ.lt {rows:List (List PoR)} {i j:Nat} {qs:List PoR} (h:rwJ rows i j qs) (hj:j<(rows.getD i []).length):qs.length<rows.flatten.length:=by
 have:=congrArg List.length h.he
 rw [List.length_append,List.length_append,List.length_drop] at this
 omega
theorem rwJ.next {rows:List (List PoR)} {i j:Nat} {qs:List PoR} (h:rwJ rows i j qs) (hj:j<(rows.getD i []).length):rwJ rows i (j+1) (qs++[(rows.getD i []).getD j default]):=by
 refine⟨h.hi,by omega,?_⟩
 have:=h.he
 rw [dropP hj] at this
 rw [←this];simp
theorem rwJ.last {rows:List (List PoR)} {i:Nat} {qs:List PoR} (h:rwJ rows i (rows.getD i []).length qs):rwI rows (i+1) qs:=by
 refine⟨h.hi,?_⟩
 have:=h.he
 rwa [List.drop_length,List.nil_append] at this
theorem nmP_sn (po:List PoR) (q:PoR) (k:Nat):nmP po k++[q.w*q.p.at k]=nmP (po++[q]) k:=by simp [nmP]
theorem wtP_sn (po:List PoR) (q:PoR):wtP po++[q.w]=wtP (po++[q]):=by simp [wtP]
namespace H_c_PNum
theorem zSm {p q:Prop} (k:q) (e:p=q:=by simp only [e1,e2,e3,e4,p1,p2,p3,q1,q2,q3,l1,t0,t1,r1,r2,r3,r4,Nat.zero_add,Nat.reduceMul,Nat.reduceAdd,b1,b2,b3,b4,b5,b6,i1,i2,i3,i4,i5,i6,Nat.reduceBEq,prL,etk0,etk1,etk2,etk3,ers0,ers1,ers2,ers3,len_snoc,prL_kill,kills_map prE,dfr,dfq,take_map_len,map_snoc,len_snoc,List.length_cons,List.length_nil,List.nil_append,List.map_nil,List.take_nil,List.append_nil,List.set_cons_zero,List.set_cons_succ,Nat.reduceEqDiff,reduceIte,if_true,if_false,ptL_kill,poL_kill,kills_map ptE,kills_map poE,kills_map ratE,ratL_kill,spL_kill,LV.kill,kills];exact rfl):p:=e.mpr k
end H_c_PNum
open H_c_PNum in
theorem c_PNum (U V:Nat) (kU kV:List Rat) (rows:List (List PoR)) (hU:U≤1000000) (hV:V≤1000000) (R:Nat) (hR:R≤1000000) (hw:rwOK rows R):CallP Tryz.prog 24 [.agg [nI64 U,nI64 V,.list 3 (kU.map ratL),.list 3 (kV.map ratL),.list 1 (rows.map prL)]] (.agg [.agg [nI64 U,nI64 V,.list 3 ((nmP rows.flatten 0).map ratL)],.agg [nI64 U,nI64 V,.list 3 ((nmP rows.flatten 1).map ratL)],.agg [nI64 U,nI64 V,.list 3 ((nmP rows.flatten 2).map ratL)],.agg [nI64 U,nI64 V,.list 3 ((wtP rows.flatten).map ratL)]]):=by
 have hsp:LV.pure (.agg [nI64 U,nI64 V,.list 3 (kU.map ratL),.list 3 (kV.map ratL),.list 1 (rows.map prL)])=true:=by simp [LV.pure,pures,pures_map ratE,pures_map prE]
 have hwn:=hw.n
 have hwf:=hw.f
 refine fnP Tryz.func24 (ht:=(fun g=>LV.ren_pure g _ (by simp [LV.pure,pures,pures_map ratE,pures_map prE]))) ?_
 have etk0:True:=trivial
 have etk1:True:=trivial
 have etk2:True:=trivial
 have etk3:True:=trivial
 have ers0:True:=trivial
 have ers1:True:=trivial
 have ers2:True:=trivial
 have ers3:True:=trivial
 refine zg18 ?_
 refine wl_unroll ?_
 refine zg6 ?_
 refine wl_condX (b:=_) rfl (by decide) ?_
 refine zg10 ?_
 refine wl_regH rfl 8 3 [1,4,5] (by decide +kernel) rfl ?_
 simp only [List.take_succ_cons,List.take_zero,e1,e2,e3,e4,p1,p2,p3,q1,q2,q3,l1,t0,t1,r1,r2,r3,r4,Nat.zero_add,Nat.reduceMul,Nat.reduceAdd,b1,b2,b3,b4,b5,b6,i1,i2,i3,i4,i5,i6,Nat.reduceBEq,bh7,dh1,dh2,dh3]
 refine zg8 ?_
 refine st_unhide rfl rfl (fun om h=>by cases h;exact⟨_,_,_,_,_,rfl,rfl⟩) ?_
 simp only [List.drop_succ_cons,List.drop_zero]
 refine zg12 ?_
 refine wl_unroll ?_
 refine zg6 ?_
 refine wl_condX (b:=_) rfl (by decide) ?_
 refine zg10 ?_
 refine wl_regH rfl 8 3 [1,4,5] (by decide +kernel) rfl ?_
 simp only [List.take_succ_cons,List.take_zero,e1,e2,e3,e4,p1,p2,p3,q1,q2,q3,l1,t0,t1,r1,r2,r3,r4,Nat.zero_add,Nat.reduceMul,Nat.reduceAdd,b1,b2,b3,b4,b5,b6,i1,i2,i3,i4,i5,i6,Nat.reduceBEq,bh7,dh1,dh2,dh3]
 refine zg8 ?_
 refine st_unhide rfl rfl (fun om h=>by cases h;exact⟨_,_,_,_,_,rfl,rfl⟩) ?_
 simp only [List.drop_succ_cons,List.drop_zero]
 refine zg12 ?_
 refine wl_unroll ?_
 refine zg6 ?_
 refine wl_condX (b:=_) rfl (by decide) ?_
 refine zg10 ?_
 refine wl_regH rfl 8 3 [1,4,5] (by decide +kernel) rfl ?_
 simp only [List.take_succ_cons,List.take_zero,e1,e2,e3,e4,p1,p2,p3,q1,q2,q3,l1,t0,t1,r1,r2,r3,r4,Nat.zero_add,Nat.reduceMul,Nat.reduceAdd,b1,b2,b3,b4,b5,b6,i1,i2,i3,i4,i5,i6,Nat.reduceBEq,bh7,dh1,dh2,dh3]
 refine zg8 ?_
 refine st_unhide rfl rfl (fun om h=>by cases h;exact⟨_,_,_,_,_,rfl,rfl⟩) ?_
 simp only [List.drop_succ_cons,List.drop_zero]
 refine zg12 ?_
 refine wl_unroll ?_
 refine zg6 ?_
 refine wl_condX (b:=_) rfl (by decide) ?_
 refine zg10 ?_
 refine wl_regH rfl 8 3 [1,4,5] (by decide +kernel) rfl ?_
 simp only [List.take_succ_cons,List.take_zero,e1,e2,e3,e4,p1,p2,p3,q1,q2,q3,l1,t0,t1,r1,r2,r3,r4,Nat.zero_add,Nat.reduceMul,Nat.reduceAdd,b1,b2,b3,b4,b5,b6,i1,i2,i3,i4,i5,i6,Nat.reduceBEq,bh7,dh1,dh2,dh3]
 refine zg8 ?_
 refine st_unhide rfl rfl (fun om h=>by cases h;exact⟨_,_,_,_,_,rfl,rfl⟩) ?_
 simp only [List.drop_succ_cons,List.drop_zero]
 refine zg12 ?_
 refine wl_unroll ?_
 refine zg6 ?_
 refine wl_condY (b:=_) rfl (by decide) ?_
 refine zg15 ?_
 refine wl_weak (((Weak.cell 3 rfl (fun Z μ w cs h=>rep_nets4 1001 1002 1003 1004 3 _ _ _ _ _ _ _ _ Z μ w cs h)).trans ((Weak.newB _ 1001 3 rfl).trans ((Weak.newB _ 1002 3 rfl).trans ((Weak.newB _ 1003 3 rfl).trans (Weak.newB _ 1004 3 rfl)))))) ?_
 refine lp2 (fun(i:Nat) (ps:List PoR) L=>((((((St.mk L.slot (hp [(1,⟨5,[.agg [nI64 U,nI64 V,.list 3 (kU.map ratL),.list 3 (kV.map ratL),.list 1 (rows.map prL)]],true⟩),(2,⟨12,[.agg [.agg [.v (.int .i64 0),.v (.int .i64 0),.v (.slice none 0 0)],.agg [.v (.int .i64 0),.v (.int .i64 0),.v (.slice none 0 0)],.agg [.v (.int .i64 0),.v (.int .i64 0),.v (.slice none 0 0)],.agg [.v (.int .i64 0),.v (.int .i64 0),.v (.slice none 0 0)]]],true⟩),(3,⟨12,[.agg [.agg [nI64 U,nI64 V,.ref 1001 3 0 ps.length],.agg [nI64 U,nI64 V,.ref 1002 3 0 ps.length],.agg [nI64 U,nI64 V,.ref 1003 3 0 ps.length],.agg [nI64 U,nI64 V,.ref 1004 3 0 ps.length]]],true⟩),(1001,⟨3,(nmP ps 0).map ratL,true⟩),(1002,⟨3,(nmP ps 1).map ratL,true⟩),(1003,⟨3,(nmP ps 2).map ratL,true⟩),(1004,⟨3,(wtP ps).map ratL,true⟩)])).put (some 2) (.eptr 2 12 0 0)).put (some 3) (.eptr 3 12 0 0)).put (some 26) (.list 1 (rows.map prL))).put (some 27) (nI64 rows.length)).put (some 28) (nI64 i))) (fun i ps=>rwI rows i ps) (fun i ps=>rows.length-i) 0 ([]) (rwI.zero rows) ?_
 rintro i ps L2 hI
 refine zg6 ?_
 refine wl_if rfl (fun h29r h29=>?_) (fun h29r h29=>?_)
 ·have hi2:i<rows.length:=by omega
  refine zg19 ?_
  refine lp2 (fun(j:Nat) (qs:List PoR) L=>(((((((((St.mk L.slot (hp [(1,⟨5,[.agg [nI64 U,nI64 V,.list 3 (kU.map ratL),.list 3 (kV.map ratL),.list 1 (rows.map prL)]],true⟩),(2,⟨12,[.agg [.agg [.v (.int .i64 0),.v (.int .i64 0),.v (.slice none 0 0)],.agg [.v (.int .i64 0),.v (.int .i64 0),.v (.slice none 0 0)],.agg [.v (.int .i64 0),.v (.int .i64 0),.v (.slice none 0 0)],.agg [.v (.int .i64 0),.v (.int .i64 0),.v (.slice none 0 0)]]],true⟩),(3,⟨12,[.agg [.agg [nI64 U,nI64 V,.ref 1001 3 0 qs.length],.agg [nI64 U,nI64 V,.ref 1002 3 0 qs.length],.agg [nI64 U,nI64 V,.ref 1003 3 0 qs.length],.agg [nI64 U,nI64 V,.ref 1004 3 0 qs.length]]],true⟩),(1001,⟨3,(nmP qs 0).map ratL,true⟩),(1002,⟨3,(nmP qs 1).map ratL,true⟩),(1003,⟨3,(nmP qs 2).map ratL,true⟩),(1004,⟨3,(wtP qs).map ratL,true⟩)])).put (some 2) (.eptr 2 12 0 0)).put (some 3) (.eptr 3 12 0 0)).put (some 26) (.list 1 (rows.map prL))).put (some 27) (nI64 rows.length)).put (some 28) (nI64 i)).put (some 32) (.list 12 ((rows.getD i []).map poL))).put (some 33) (nI64 (rows.getD i []).length)).put (some 34) (nI64 j))) (fun j qs=>rwJ rows i j qs) (fun j qs=>(rows.getD i []).length-j) 0 ps (hI.go hi2) ?_
  rintro j qs L3 hJ
  refine zg6 ?_
  refine wl_if rfl (fun h35r h35=>?_) (fun h35r h35=>?_)
  ·have hj2:j<(rows.getD i []).length:=by omega
   have hJe:=hJ.hj
   have hJl:=hJ.le
   have hJi:=hJ.hi
   have hrm:=getR_mem hJi
   have hrl:=hw.m _ hrm
   have hqm:=getD_memP hj2
   have hok:=hw.ok _ hrm _ hqm
   have hJ2:=hJ.lt hj2
   have ers0:(nmP qs 0)++[((rows.getD i []).getD j default).w*((rows.getD i []).getD j default).p.x]=(nmP (qs++[((rows.getD i []).getD j default)]) 0):=nmP_sn _ _ 0
   have ers1:(nmP qs 1)++[((rows.getD i []).getD j default).w*((rows.getD i []).getD j default).p.y]=(nmP (qs++[((rows.getD i []).getD j default)]) 1):=nmP_sn _ _ 1
   have ers2:(nmP qs 2)++[((rows.getD i []).getD j default).w*((rows.getD i []).getD j default).p.z]=(nmP (qs++[((rows.getD i []).getD j default)]) 2):=nmP_sn _ _ 2
   have ers3:(wtP qs)++[((rows.getD i []).getD j default).w]=(wtP (qs++[((rows.getD i []).getD j default)])):=wtP_sn _ _
   have etk0:((nmP qs 0).map ratL).take qs.length=(nmP qs 0).map ratL:=List.take_of_length_le (by rw [List.length_map,nmP_len];omega)
   have etk1:((nmP qs 1).map ratL).take qs.length=(nmP qs 1).map ratL:=List.take_of_length_le (by rw [List.length_map,nmP_len];omega)
   have etk2:((nmP qs 2).map ratL).take qs.length=(nmP qs 2).map ratL:=List.take_of_length_le (by rw [List.length_map,nmP_len];omega)
   have etk3:((wtP qs).map ratL).take qs.length=(wtP qs).map ratL:=List.take_of_length_le (by rw [List.length_map,wtP_len];omega)
   have hn0:=nmP_len qs 0
   have hn1:=nmP_len qs 1
   have hn2:=nmP_len qs 2
   have hn3:=wtP_len qs
   refine zg15 ?_
   refine cp am1 (c_Of2 ((rows.getD i []).getD j default) R hR hok) ?_
   refine zg4 ?_
   refine wl_unroll ?_
   refine zg6 ?_
   refine wl_condX (b:=_) rfl (by decide) ?_
   refine zg13 ?_
   refine wl_regF 7 [0] (by decide +kernel) ?_
   refine zg7 ?_
   refine st_store rfl (.appX (d:=1001) (news:=[ratL (((rows.getD i []).getD j default).w*((rows.getD i []).getD j default).p.x)]) rfl rfl rfl rfl (by simp;omega) (.inl rfl) (by decide) Tryz.underlying159 Tryz.underlying159 Z29a T29 rfl B29 (.inl ⟨50,0,_,rfl,by decide,rfl,rfl,by simp,rfl,by simp [pures,ratE.pure]⟩) (by simp;omega) (by simp;omega) (by decide)) ?_
   refine zg6 ?_
   refine wl_regW ((Weak.kill _ 10).trans (Weak.kill _ 50)) ?_
   refine zg4 ?_
   refine wl_unroll ?_
   refine zg6 ?_
   refine wl_condX (b:=_) rfl (by decide) ?_
   refine zg13 ?_
   refine wl_regF 7 [0] (by decide +kernel) ?_
   refine zg7 ?_
   refine st_store rfl (.appX (d:=1002) (news:=[ratL (((rows.getD i []).getD j default).w*((rows.getD i []).getD j default).p.y)]) rfl rfl rfl rfl (by simp;omega) (.inl rfl) (by decide) Tryz.underlying159 Tryz.underlying159 Z29a T29 rfl B29 (.inl ⟨50,0,_,rfl,by decide,rfl,rfl,by simp,rfl,by simp [pures,ratE.pure]⟩) (by simp;omega) (by simp;omega) (by decide)) ?_
   refine zg6 ?_
   refine wl_regW ((Weak.kill _ 10).trans (Weak.kill _ 50)) ?_
   refine zg4 ?_
   refine wl_unroll ?_
   refine zg6 ?_
   refine wl_condX (b:=_) rfl (by decide) ?_
   refine zg13 ?_
   refine wl_regF 7 [0] (by decide +kernel) ?_
   refine zg7 ?_
   refine st_store rfl (.appX (d:=1003) (news:=[ratL (((rows.getD i []).getD j default).w*((rows.getD i []).getD j default).p.z)]) rfl rfl rfl rfl (by simp;omega) (.inl rfl) (by decide) Tryz.underlying159 Tryz.underlying159 Z29a T29 rfl B29 (.inl ⟨50,0,_,rfl,by decide,rfl,rfl,by simp,rfl,by simp [pures,ratE.pure]⟩) (by simp;omega) (by simp;omega) (by decide)) ?_
   refine zg6 ?_
   refine wl_regW ((Weak.kill _ 10).trans (Weak.kill _ 50)) ?_
   refine zg4 ?_
   refine wl_unroll ?_
   refine zg6 ?_
   refine wl_condX (b:=_) rfl (by decide) ?_
   refine zg13 ?_
   refine wl_regF 7 [0] (by decide +kernel) ?_
   refine zg7 ?_
   refine st_store rfl (.appX (d:=1004) (news:=[ratL (((rows.getD i []).getD j default).w)]) rfl rfl rfl rfl (by simp;omega) (.inl rfl) (by decide) Tryz.underlying159 Tryz.underlying159 Z29a T29 rfl B29 (.inl ⟨50,0,_,rfl,by decide,rfl,rfl,by simp,rfl,by simp [pures,ratE.pure]⟩) (by simp;omega) (by simp;omega) (by decide)) ?_
   refine zg6 ?_
   refine wl_regW ((Weak.kill _ 10).trans (Weak.kill _ 50)) ?_
   refine zg4 ?_
   refine wl_unroll ?_
   refine zg6 ?_
   refine wl_condY (b:=_) rfl (by decide) ?_
   refine zg6 ?_
   refine wl_regW (Weak.kill _ 8) ?_
   refine st_pure rfl (.bin rfl rfl (add1N (by omega))) ?_
   refine zg3 ?_
   exact nx2 (j+1) (qs++[((rows.getD i []).getD j default)]) (hJ.next hj2)
  ·have hJe:=hJ.hj
   have hJl:=hJ.le
   have hJi:=hJ.hi
   have hrm:=getR_mem hJi
   have hrl:=hw.m _ hrm
   obtain rfl:j=(rows.getD i []).length:=by omega
   refine zg7 ?_
   refine st_pure rfl (.bin rfl rfl (add1N (by omega))) ?_
   refine zg3 ?_
   exact nx2 (i+1) qs hJ.last (hm:=by have:=hJ.hi;omega)
 ·have hIi:=hI.hi
  obtain rfl:i=rows.length:=by omega
  have hE:=hI.last
  subst hE
  refine zg12 ?_
  exact retC [1001,1002,1003,1004] rfl rfl rfl cs (at_all cs rfl) T65 (.agg (.cons (.agg (.cons (.pure rfl) (.cons (.pure rfl) (.cons (imm_refm ratE rfl rfl (nmP_len _ 0).symm) .nil)))) (.cons (.agg (.cons (.pure rfl) (.cons (.pure rfl) (.cons (imm_refm ratE rfl rfl (nmP_len _ 1).symm) .nil)))) (.cons (.agg (.cons (.pure rfl) (.cons (.pure rfl) (.cons (imm_refm ratE rfl rfl (nmP_len _ 2).symm) .nil)))) (.cons (.agg (.cons (.pure rfl) (.cons (.pure rfl) (.cons (imm_refm ratE rfl rfl (wtP_len _).symm) .nil)))) .nil)))))
structure pf (R U V:Nat) (rows:List (List PoR)):Prop where
 r1:1≤R
 rB:R≤1000000
 u1:1≤U
 u3:U≤3
 v1:1≤V
 v3:V≤3
 n:rows.length=U+1
 m:∀ r∈rows,r.length=V+1
 ok:∀ r∈rows,∀ q∈r,okP R q
theorem flat_len {rows:List (List PoR)} {m:Nat} (h:∀ r∈rows,r.length=m):rows.flatten.length=rows.length*m:=by
 induction rows with
 | nil=>simp
 | cons r rs ih =>
  rw [List.flatten_cons,List.length_append,ih fun x hx=>h x (List.mem_cons_of_mem _ hx),h r (List.mem_cons_self ..),List.length_cons,Nat.succ_mul,Nat.add_comm]
section
variable {R U V:Nat} {rows:List (List PoR)} (h:pf R U V rows)
include h
theorem pf.len:rows.flatten.length=(U+1)*(V+1):=by rw [flat_len h.m,h.n]
theorem pf.l16:rows.flatten.length≤16:=by
 rw [h.len]
 have h1:=h.u3
 have h2:=h.v3
 exact Nat.le_trans (Nat.mul_le_mul (show U+1≤4 by omega) (show V+1≤4 by omega)) (by decide)
theorem pf.fok:∀ q∈rows.flatten,okP R q:=fun q hq=>by
 obtain⟨r,h1,h2⟩:=List.mem_flatten.1 hq
 exact h.ok r h1 q h2
theorem pf.rw:rwOK rows R:=by
 have h1:=h.u3
 have h2:=h.v3
 have h3:=h.n
 have h4:=h.l16
 exact⟨h.ok,by omega,fun r hr=>by have:=h.m r hr;omega,by omega⟩
theorem pf.nl (k:Nat):(nmP rows.flatten k).length=(U+1)*(V+1):=by rw [nmP_len,h.len]
theorem pf.wl:(wtP rows.flatten).length=(U+1)*(V+1):=by rw [wtP_len,h.len]
theorem pf.nr (k:Nat):∀ x∈nmP rows.flatten k,rl x≤2*R:=nmP_rl h.fok k
theorem pf.wr:∀ x∈wtP rows.flatten,rl x≤R:=wtP_rl h.fok
end
theorem sx_rlR {U V i j R:Nat} {c:List Rat} (hU:U≤40) (hV:V≤40) (hc:c.length=(U+1)*(V+1)) (hi:i≤U) (hR:1≤R) (h:∀ x∈c,rl x≤R):rl (sx U V c i j)≤R+4:=by
 have h1:=chsQ_rl (n:=U) i hU
 have h2:=chsQ_rl (n:=V) j hV
 have h3:=getD_rl (S:=R) hR (fun x hx=>h x (rwL_mem (V:=V) (i:=i) hx)) j
 have h4:=rl_mul (cR V j) ((rwL V c i).getD j 0)
 have h5:=rl_mul (cR U i) (cR V j*(rwL V c i).getD j 0)
 rw [sx,sq,rwL_len hc hi,Nat.add_sub_cancel]
 unfold cR at *
 omega
theorem tm_rlR {S U1 V1 U2 V2:Nat} {a b:List Rat} (ha:a.length=(U1+1)*(V1+1)) (hb:b.length=(U2+1)*(V2+1)) (hU1:U1≤3) (hV1:V1≤3) (hU2:U2≤3) (hV2:V2≤3) (hS:1≤S) (haR:∀ x∈a,rl x≤S) (hbR:∀ x∈b,rl x≤S):∀ x∈tmL U1 V1 U2 V2 a b,rl x≤224*S+1200:=by
 intro x hx
 have ht:=tm_len U1 V1 U2 V2 a b
 obtain⟨k,hk,rfl⟩:=List.getElem_of_mem hx
 rw [ht] at hk
 have h1:k/(V1+V2+1)<U1+U2+1:=Nat.div_lt_of_lt_mul (by rw [Nat.mul_comm];exact hk)
 have h2:=Nat.mod_lt k (show V1+V2+1 > 0 by omega)
 have e:k=k/(V1+V2+1)*(V1+V2+1)+k % (V1+V2+1):=by rw [Nat.mul_comm];exact(Nat.div_add_mod k _).symm
 have e2:(tmL U1 V1 U2 V2 a b)[k]=(tmL U1 V1 U2 V2 a b).getD k 0:=by rw [List.getD_eq_getElem?_getD,List.getElem?_eq_getElem (by rw [ht];exact hk)];rfl
 rw [e2,e]
 generalize k/(V1+V2+1)=r at *
 generalize k % (V1+V2+1)=s at *
 rw [tm_get ha hb (by omega) (by omega)]
 have c1:=chsQ_rl (n:=U1+U2) r (by omega)
 have c2:=chsQ_rl (n:=V1+V2) s (by omega)
 have c3:=rl_mul (cR (U1+U2) r) (cR (V1+V2) s)
 have hcf:∀ i,i<U1+1→∀ k,k<U2+1→rl (if i+k=r then cf (sx U1 V1 a i) (sx U2 V2 b k) s else 0)≤14*S+64:=fun i hi k hk=>by
  split
  ·have:=sm_rlT (B:=2*S+8) (s+1) (fun j=>sx U1 V1 a i j*sx U2 V2 b k (s-j)) (fun j _=>by
    have g1:=sx_rlR (j:=j) (show U1≤40 by omega) (show V1≤40 by omega) ha (show i≤U1 by omega) hS haR
    have g2:=sx_rlR (j:=s-j) (show U2≤40 by omega) (show V2≤40 by omega) hb (show k≤U2 by omega) hS hbR
    have g3:=rl_mul (sx U1 V1 a i j) (sx U2 V2 b k (s-j))
    omega)
   refine Nat.le_trans this ?_
   have:(s+1)*(2*S+8+1)≤7*(2*S+8+1):=Nat.mul_le_mul (by omega) (Nat.le_refl _)
   omega
  ·show rl 0≤_
   rw [show rl 0=1 from rfl];omega
 have h3:=sm_rlT (B:=56*S+261) (U1+1) _ (fun i hi=>Nat.le_trans (sm_rlT (B:=14*S+64) (U2+1) _ (hcf i hi)) (by
  have:(U2+1)*(14*S+64+1)≤4*(14*S+64+1):=Nat.mul_le_mul (by omega) (Nat.le_refl _)
  omega))
 have h4:=rl_div (tpS U1 V1 U2 V2 a b r s) (cR (U1+U2) r*cR (V1+V2) s)
 have h5:rl (tpS U1 V1 U2 V2 a b r s)≤1+(U1+1)*(56*S+261+1):=h3
 have h6:(U1+1)*(56*S+261+1)≤4*(56*S+261+1):=Nat.mul_le_mul (by omega) (Nat.le_refl _)
 unfold cR at *
 omega
def sgN (U V Ud Vd:Nat) (D:List Rat→List Rat) (F:List PoR) (k:Nat):List Rat:=zipG (·-·) (tmL Ud Vd U V (D (nmP F k)) (wtP F)) (tmL U V Ud Vd (nmP F k) (D (wtP F)))
structure dfS (U V Ud Vd:Nat) (D:List Rat→List Rat):Prop where
 u:Ud≤3
 v:Vd≤3
 l:∀ c:List Rat,c.length=(U+1)*(V+1)→(D c).length=(Ud+1)*(Vd+1)
 r:∀ (R:Nat) (c:List Rat),1≤R→c.length=(U+1)*(V+1)→(∀ x∈c,rl x≤R)→∀ x∈D c,rl x≤2*R+4
theorem dfS_U {U V:Nat} (hU:U≤3) (hV:V≤3):dfS U V (U-1) V (dfU U V) :=
 ⟨by omega,hV,fun c _=>dfU_len U V c,fun R c hR hc h=>dfU_rl (R:=R) hc (by omega) hR h⟩
theorem dfS_V {U V:Nat} (hU:U≤3) (hV:V≤3):dfS U V U (V-1) (dfV U V) :=
 ⟨hU,by omega,fun c hc=>dfV_len hc,fun R c hR hc h=>dfV_rl (R:=R) hc (by omega) hR h⟩
section
variable {R U V Ud Vd:Nat} {rows:List (List PoR)} {D:List Rat→List Rat} (h:pf R U V rows) (hd:dfS U V Ud Vd D) (k:Nat)
theorem sg_m1 (h:pf R U V rows) (hd:dfS U V Ud Vd D) (k:Nat):(tmL Ud Vd U V (D (nmP rows.flatten k)) (wtP rows.flatten)).length=(Ud+U+1)*(Vd+V+1)∧∀ x∈tmL Ud Vd U V (D (nmP rows.flatten k)) (wtP rows.flatten),rl x≤900*R+2100 :=
 ⟨tm_len ..,fun x hx=>by
  have hr:=h.r1
  have:=tm_rlR (S:=4*R+4) (hd.l _ (h.nl k)) h.wl hd.u hd.v h.u3 h.v3 (by omega) (fun x hx=>by have:=hd.r _ _ (show 1≤2*R by omega) (h.nl k) (h.nr k) x hx;omega) (fun x hx=>by have:=h.wr x hx;omega) x hx
  omega⟩
theorem sg_m2 (h:pf R U V rows) (hd:dfS U V Ud Vd D) (k:Nat):(tmL U V Ud Vd (nmP rows.flatten k) (D (wtP rows.flatten))).length=(Ud+U+1)*(Vd+V+1)∧∀ x∈tmL U V Ud Vd (nmP rows.flatten k) (D (wtP rows.flatten)),rl x≤900*R+2100 :=
 ⟨by rw [tm_len,Nat.add_comm U Ud,Nat.add_comm V Vd],fun x hx=>by
  have hr:=h.r1
  have:=tm_rlR (S:=4*R+4) (h.nl k) (hd.l _ h.wl) h.u3 h.v3 hd.u hd.v (by omega) (fun x hx=>by have:=h.nr k x hx;omega) (fun x hx=>by have:=hd.r _ _ hr h.wl h.wr x hx;omega) x hx
  omega⟩
theorem sg_len (h:pf R U V rows) (hd:dfS U V Ud Vd D) (k:Nat):(sgN U V Ud Vd D rows.flatten k).length=(Ud+U+1)*(Vd+V+1):=by rw [sgN,zipG_len];exact(sg_m1 h hd k).1
theorem sg_rl (h:pf R U V rows) (hd:dfS U V Ud Vd D) (k:Nat):∀ x∈sgN U V Ud Vd D rows.flatten k,rl x≤1800*R+4201:=fun x hx=>by
 have:=zipS_rl (R:=900*R+2100) rl_sub (by omega) (sg_m1 h hd k).2 (sg_m2 h hd k).2 x hx
 omega
theorem sq_le {a b:Nat} (ha:a≤6) (hb:b≤6):(a+1)*(b+1)≤49:=Nat.le_trans (Nat.mul_le_mul (show a+1≤7 by omega) (show b+1≤7 by omega)) (by decide)
theorem sg_l49 (h:pf R U V rows) (hd:dfS U V Ud Vd D) (k:Nat):(sgN U V Ud Vd D rows.flatten k).length≤49:=by
 have h1:=h.u3
 have h2:=h.v3
 have h3:=hd.u
 have h4:=hd.v
 rw [sg_len h hd k]
 exact sq_le (by omega) (by omega)
end
def shX (x:Rat):Prop:=rl (1-x)+rl x+1≤20
theorem evT_sz {R U V:Nat} {c:List Rat} {u v:Rat} (hc:c.length=(U+1)*(V+1)) (hU:U≤6) (hV:V≤6) (hR1:1≤R) (hR:R≤100000) (h:∀ x∈c,rl x≤R) (hu:shX u) (hv:shX v) :
  (∀ j,j≤V→HS (rwL U (swL U V c) j) u)∧HS (rowT U V c u) v∧(∀ i,i≤U→HS (rwL V c i) v)∧HS (colT U V c v) u∧rl (evT U V c u v)≤4100*(R+30):=by
 unfold shX at hu hv
 have h1:∀ j,j≤V→∀ x∈rwL U (swL U V c) j,rl x≤R:=fun j _ x hx=>h x (sw_mem hc (rwL_mem hx))
 have h2:∀ j,j≤V→(rwL U (swL U V c) j).length=U+1:=fun j hj=>rwL_len (swL_len U V c) hj
 have h3:∀ i,i≤U→∀ x∈rwL V c i,rl x≤R:=fun j _ x hx=>h x (rwL_mem hx)
 have h4:∀ i,i≤U→(rwL V c i).length=V+1:=fun j hj=>rwL_len hc hj
 have p6:∀ n,n≤6→2 ^ n≤64:=fun n hn=>Nat.pow_le_pow_right (n:=2) (by decide) hn
 have hrow:∀ x∈rowT U V c u,rl x≤(R+20)*64:=rs_mem (U:=V) (fun j hj x hx=>by
  rw [List.mem_singleton.1 hx]
  have:=ev_rl (p:=rwL U (swL U V c) j) (t:=u) (by rw [h2 j hj];omega) hR1 (h1 j hj)
  rw [h2 j hj,Nat.add_sub_cancel] at this
  exact Nat.le_trans this (Nat.mul_le_mul (by omega) (p6 U hU))) (Nat.le_refl _)
 have hcol:∀ x∈colT U V c v,rl x≤(R+20)*64:=rs_mem (U:=U) (fun i hi x hx=>by
  rw [List.mem_singleton.1 hx]
  have:=ev_rl (p:=rwL V c i) (t:=v) (by rw [h4 i hi];omega) hR1 (h3 i hi)
  rw [h4 i hi,Nat.add_sub_cancel] at this
  exact Nat.le_trans this (Nat.mul_le_mul (by omega) (p6 V hV))) (Nat.le_refl _)
 refine⟨fun j hj=>hs_ofL (by rw [h2 j hj];omega) (fun y hy=>by have:=h1 j hj y hy;omega) (by omega),hs_ofL (by rw [rowT_len];omega) (fun y hy=>by have:=hrow y hy;omega) (by omega),
  fun j hj=>hs_ofL (by rw [h4 j hj];omega) (fun y hy=>by have:=h3 j hj y hy;omega) (by omega),hs_ofL (by rw [colT_len];omega) (fun y hy=>by have:=hcol y hy;omega) (by omega),?_⟩
 have:=ev_rl (p:=rowT U V c u) (t:=v) (by rw [rowT_len];omega) (show 1≤(R+20)*64 by omega) hrow
 rw [rowT_len,Nat.add_sub_cancel] at this
 refine Nat.le_trans this (Nat.le_trans (Nat.mul_le_mul (show _≤(R+20)*64+20 by omega) (p6 V hV)) ?_)
 omega
namespace H_c_Sends
theorem zSm {p q:Prop} (k:q) (e:p=q:=by simp only [e1,e2,e3,e4,p1,p2,p3,q1,q2,q3,l1,t0,t1,r1,r2,r3,r4,Nat.zero_add,Nat.reduceMul,Nat.reduceAdd,b1,b2,b3,b4,b5,b6,i1,i2,i3,i4,i5,i6,Nat.reduceBEq,dfq,hkl,hlo,hhi,List.length_map,List.set_cons_zero,List.set_cons_succ,Nat.reduceEqDiff,reduceIte,if_true,if_false,ptL_kill,poL_kill,kills_map ptE,kills_map poE,kills_map ratE,ratL_kill,spL_kill,LV.kill,kills];exact rfl):p:=e.mpr k
end H_c_Sends
open H_c_Sends in
theorem c_Sends (d:Nat) (a b:Rat) (ha:rl a≤100) (hb:rl b≤100) (hab:a<b) (h9:d≤6):CallP Tryz.prog 129 [.list 3 ((kn2 d a b).map ratL)] (spL (a,b)):=by
 have hkl:=kn2_len d a b
 have hlo:=kn2_lo d a b
 have hhi:=kn2_hi d a b
 have hkp:=pure_lst ratE 3 (kn2 d a b)
 have hS:=c_SOf a b (by omega)
 rw [mn_lt2 hab,mx_lt2 hab] at hS
 refine fnP Tryz.func129 ?_
 refine zg13 ?_
 refine wl_if rfl (fun h5r h5=>?_) (fun h5r h5=>?_)
 ·omega
 ·refine zg3 ?_
  refine wl_regD 10 (by decide +kernel) ?_
  refine zg6 ?_
  refine st_pure rfl (.bin rfl rfl (sub1N (by omega) (by omega))) ?_
  refine zg2 ?_
  try simp only [t1,dfq,hkl,hlo,hhi,List.length_map]
  refine cp am2 (hS) ?_
  refine zg4 ?_
  exact retC [] rfl rfl rfl (spE.csize _) (spL_all _) T42 (.pure (spE.pure _))
namespace H_c_PDom
theorem zSm {p q:Prop} (k:q) (e:p=q:=by simp only [e1,e2,e3,e4,p1,p2,p3,q1,q2,q3,l1,t0,t1,r1,r2,r3,r4,Nat.zero_add,Nat.reduceMul,Nat.reduceAdd,b1,b2,b3,b4,b5,b6,i1,i2,i3,i4,i5,i6,Nat.reduceBEq,prL_kill,kills_map prE,dfr,dfq,take_map_len,map_snoc,len_snoc,List.length_cons,List.length_nil,List.nil_append,List.map_nil,List.take_nil,List.append_nil,List.set_cons_zero,List.set_cons_succ,Nat.reduceEqDiff,reduceIte,if_true,if_false,ptL_kill,poL_kill,kills_map ptE,kills_map poE,kills_map ratE,ratL_kill,spL_kill,LV.kill,kills];exact rfl):p:=e.mpr k
end H_c_PDom
open H_c_PDom in
theorem c_PDom (U V:Nat) (ua ub va vb:Rat) (rows:List (List PoR)) (hua:rl ua≤100) (hub:rl ub≤100) (hva:rl va≤100) (hvb:rl vb≤100) (hu:ua<ub) (hv:va<vb) (hU:U≤6) (hV:V≤6):CallP Tryz.prog 64 [.agg [nI64 U,nI64 V,.list 3 ((kn2 U ua ub).map ratL),.list 3 ((kn2 V va vb).map ratL),.list 1 (rows.map prL)]] (.tup [spL (ua,ub),spL (va,vb)]):=by
 have hsp:LV.pure (.agg [nI64 U,nI64 V,.list 3 ((kn2 U ua ub).map ratL),.list 3 ((kn2 V va vb).map ratL),.list 1 (rows.map prL)])=true:=by simp [LV.pure,pures,pures_map ratE,pures_map prE]
 have hku:=pure_lst ratE 3 (kn2 U ua ub)
 have hkv:=pure_lst ratE 3 (kn2 V va vb)
 refine fnP Tryz.func64 (ht:=(tame2 (spE.pure _) (spE.pure _))) ?_
 refine zg8 ?_
 refine wl_regD 6 (by decide +kernel) ?_
 refine zg2 ?_
 refine cp am1 (c_Sends U ua ub hua hub hu hU) ?_
 refine zg2 ?_
 refine cp am1 (c_Sends V va vb hva hvb hv hV) ?_
 refine zg5 ?_
 exact retCC [] rfl rfl rfl (spE.csize _) (spL_all _) T42 (.pure (spE.pure _)) rfl rfl (spE.csize _) (spL_all _) T42 (.pure (spE.pure _))
namespace H_c_FDom12
theorem zSm {p q:Prop} (k:q) (e:p=q:=by simp only [e1,e2,e3,e4,p1,p2,p3,q1,q2,q3,l1,t0,t1,r1,r2,r3,r4,Nat.zero_add,Nat.reduceMul,Nat.reduceAdd,b1,b2,b3,b4,b5,b6,i1,i2,i3,i4,i5,i6,Nat.reduceBEq,hlu,hlou,hhiu,hlv,hlov,hhiv,prL_kill,kills_map prE,dfr,dfq,take_map_len,map_snoc,len_snoc,List.length_cons,List.length_nil,List.nil_append,List.map_nil,List.take_nil,List.append_nil,List.set_cons_zero,List.set_cons_succ,Nat.reduceEqDiff,reduceIte,if_true,if_false,ptL_kill,poL_kill,kills_map ptE,kills_map poE,kills_map ratE,ratL_kill,spL_kill,LV.kill,kills];exact rfl):p:=e.mpr k
end H_c_FDom12
open H_c_FDom12 in
theorem c_FDom12 (U V:Nat) (ua ub va vb:Rat) (rows:List (List PoR)) (hua:rl ua≤100) (hub:rl ub≤100) (hva:rl va≤100) (hvb:rl vb≤100) (hu:ua<ub) (hv:va<vb) (hU:U≤6) (hV:V≤6):CallP Tryz.prog 12 [.agg [nI64 U,nI64 V,.list 3 ((kn2 U ua ub).map ratL),.list 3 ((kn2 V va vb).map ratL),.list 1 (rows.map prL)]] (.tup [spL (ua,ub),spL (va,vb)]):=by
 have hsp:LV.pure (.agg [nI64 U,nI64 V,.list 3 ((kn2 U ua ub).map ratL),.list 3 ((kn2 V va vb).map ratL),.list 1 (rows.map prL)])=true:=by simp [LV.pure,pures,pures_map ratE,pures_map prE]
 have hku:=pure_lst ratE 3 (kn2 U ua ub)
 have hkv:=pure_lst ratE 3 (kn2 V va vb)
 have hlu:=kn2_len U ua ub
 have hlou:=kn2_lo U ua ub
 have hhiu:=kn2_hi U ua ub
 have hlv:=kn2_len V va vb
 have hlov:=kn2_lo V va vb
 have hhiv:=kn2_hi V va vb
 refine fnP Tryz.func12 (ht:=(tame2 (spE.pure _) (spE.pure _))) ?_
 refine zg8 ?_
 refine wl_regH rfl 26 2 [13,14,15,16,17,18,19,20,21,22,23,24,25] (by decide +kernel) rfl ?_
 simp only [List.take_succ_cons,List.take_zero,e1,e2,e3,e4,p1,p2,p3,q1,q2,q3,l1,t0,t1,r1,r2,r3,r4,Nat.zero_add,Nat.reduceMul,Nat.reduceAdd,b1,b2,b3,b4,b5,b6,i1,i2,i3,i4,i5,i6,Nat.reduceBEq,bh7,dh1,dh2,dh3]
 refine zg9 ?_
 refine st_pure rfl (.bin rfl rfl (sub1N (by omega) (by omega))) ?_
 refine zg12 ?_
 refine st_pure rfl (.bin rfl rfl (sub1N (by omega) (by omega))) ?_
 refine zg3 ?_
 refine st_unhide rfl rfl (fun om h=>by cases h;exact⟨_,_,_,_,_,rfl,rfl⟩) ?_
 simp only [List.drop_succ_cons,List.drop_zero]
 refine zg5 ?_
 exact retCC [] rfl rfl rfl (spE.csize _) (spL_all _) T42 (.pure (spE.pure _)) rfl rfl (spE.csize _) (spL_all _) T42 (.pure (spE.pure _))
namespace H_c_Pown
theorem zSm {p q:Prop} (k:q) (e:p=q:=by simp only [e1,e2,e3,e4,p1,p2,p3,q1,q2,q3,l1,t0,t1,r1,r2,r3,r4,Nat.zero_add,Nat.reduceMul,Nat.reduceAdd,b1,b2,b3,b4,b5,b6,i1,i2,i3,i4,i5,i6,Nat.reduceBEq,List.set_cons_zero,List.set_cons_succ,Nat.reduceEqDiff,reduceIte,if_true,if_false,ptL_kill,poL_kill,kills_map ptE,kills_map poE,kills_map ratE,ratL_kill,spL_kill,LV.kill,kills];exact rfl):p:=e.mpr k
end H_c_Pown
open H_c_Pown in
theorem c_Pown (a b t:Rat) (ha:rl a≤100) (hb:rl b≤100) (hab:a<b) (ht:rl t≤100) (hi:hasR (a,b) t=true):CallP Tryz.prog 65 [spL (a,b),ratL t] (.tup [ratL ((t-a)/(b-a)),ratL (b-a),bL true]):=by
 have hz1:=rl_sub t a
 have hz2:=rl_sub b a
 have hW:CallP Tryz.prog 110 [spL (a,b)] (ratL (b-a)):=c_SWidth (a,b) (by show rl b+rl a≤_;omega)
 have hQ:CallP Tryz.prog 68 [ratL (t-a),ratL (b-a)] (.tup [ratL ((t-a)/(b-a)),iL 0]):=by
  have:=c_RQuo (t-a) (b-a) (by omega)
  rwa [if_neg (by grind)] at this
 have hH:CallP Tryz.prog 130 [spL (a,b),ratL t] (bL true):=by
  have:=c_SHas (a,b) t (by show rl a+rl t≤_;omega) (by show rl t+rl b≤_;omega)
  rwa [hi] at this
 refine fnP Tryz.func65 (ht:=(tame3 (ratE.pure _) (ratE.pure _) rfl)) ?_
 refine zg14 ?_
 refine cp am2 (hH) ?_
 refine zg3 ?_
 refine wl_if rfl (fun h11r h11=>?_) (fun h11r h11=>?_)
 ·first | exact h11.elim | cases h11r
 ·refine zg5 ?_
  refine cp am1 (hW) ?_
  refine zg4 ?_
  refine wl_regF 9 [8] (by decide +kernel) ?_
  refine zg3 ?_
  refine cp am2 (c_RSub t a (by omega)) ?_
  refine zg1 ?_
  refine cp am2 (hQ) ?_
  refine zg8 ?_
  refine wl_regA ?_
  refine any_3 0 1 2 _ _ _ (by decide +kernel) rfl rfl rfl ?_ ?_ ?_
  ·refine zg1 ?_
   refine st_nil ?_
   refine any_3 1 2 4 _ _ _ (by decide +kernel) rfl rfl rfl ?_ ?_ ?_
   ·refine zg1 ?_
    refine st_nil ?_
    refine any_2 2 4 _ _ (by decide +kernel) rfl rfl ?_ ?_
    ·refine zg1 ?_
     refine st_nil ?_
     refine any_2 3 4 _ _ (by decide +kernel) rfl rfl ?_ ?_
     ·refine zg1 ?_
      refine st_nil ?_
      refine any_1 4 _ (by decide +kernel) rfl ?_
      refine zg1 ?_
      refine st_nil ?_
      refine any_1 5 _ (by decide +kernel) rfl ?_
      refine zg1 ?_
      refine st_nil ?_
      refine any_1 6 _ (by decide +kernel) rfl ?_
      refine zg1 ?_
      refine st_nil ?_
      refine any_0 (by decide +kernel) ?_
      refine zg2 ?_
      exact retCCT [] rfl rfl rfl (ratE.csize _) (ratL_all _) T29 (.pure (ratE.pure _)) rfl rfl (ratE.csize _) (ratL_all _) T29 (.pure (ratE.pure _)) rfl (.pure rfl)
     ·refine zg1 ?_
      refine st_nil ?_
      refine any_2 3 5 _ _ (by decide +kernel) rfl rfl ?_ ?_
      ·refine zg1 ?_
       refine st_nil ?_
       refine any_1 5 _ (by decide +kernel) rfl ?_
       refine zg1 ?_
       refine st_nil ?_
       refine any_1 6 _ (by decide +kernel) rfl ?_
       refine zg1 ?_
       refine st_nil ?_
       refine any_0 (by decide +kernel) ?_
       refine zg2 ?_
       exact retCCT [] rfl rfl rfl (ratE.csize _) (ratL_all _) T29 (.pure (ratE.pure _)) rfl rfl (ratE.csize _) (ratL_all _) T29 (.pure (ratE.pure _)) rfl (.pure rfl)
      ·refine zg1 ?_
       refine st_nil ?_
       refine any_1 3 _ (by decide +kernel) rfl ?_
       refine zg1 ?_
       refine st_nil ?_
       refine any_1 6 _ (by decide +kernel) rfl ?_
       refine zg1 ?_
       refine st_nil ?_
       refine any_0 (by decide +kernel) ?_
       refine zg2 ?_
       exact retCCT [] rfl rfl rfl (ratE.csize _) (ratL_all _) T29 (.pure (ratE.pure _)) rfl rfl (ratE.csize _) (ratL_all _) T29 (.pure (ratE.pure _)) rfl (.pure rfl)
    ·refine zg1 ?_
     refine st_nil ?_
     refine any_2 2 5 _ _ (by decide +kernel) rfl rfl ?_ ?_
     ·refine zg1 ?_
      refine st_nil ?_
      refine any_2 3 5 _ _ (by decide +kernel) rfl rfl ?_ ?_
      ·refine zg1 ?_
       refine st_nil ?_
       refine any_1 5 _ (by decide +kernel) rfl ?_
       refine zg1 ?_
       refine st_nil ?_
       refine any_1 6 _ (by decide +kernel) rfl ?_
       refine zg1 ?_
       refine st_nil ?_
       refine any_0 (by decide +kernel) ?_
       refine zg2 ?_
       exact retCCT [] rfl rfl rfl (ratE.csize _) (ratL_all _) T29 (.pure (ratE.pure _)) rfl rfl (ratE.csize _) (ratL_all _) T29 (.pure (ratE.pure _)) rfl (.pure rfl)
      ·refine zg1 ?_
       refine st_nil ?_
       refine any_1 3 _ (by decide +kernel) rfl ?_
       refine zg1 ?_
       refine st_nil ?_
       refine any_1 6 _ (by decide +kernel) rfl ?_
       refine zg1 ?_
       refine st_nil ?_
       refine any_0 (by decide +kernel) ?_
       refine zg2 ?_
       exact retCCT [] rfl rfl rfl (ratE.csize _) (ratL_all _) T29 (.pure (ratE.pure _)) rfl rfl (ratE.csize _) (ratL_all _) T29 (.pure (ratE.pure _)) rfl (.pure rfl)
     ·refine zg1 ?_
      refine st_nil ?_
      refine any_1 2 _ (by decide +kernel) rfl ?_
      refine zg1 ?_
      refine st_nil ?_
      refine any_1 3 _ (by decide +kernel) rfl ?_
      refine zg1 ?_
      refine st_nil ?_
      refine any_1 6 _ (by decide +kernel) rfl ?_
      refine zg1 ?_
      refine st_nil ?_
      refine any_0 (by decide +kernel) ?_
      refine zg2 ?_
      exact retCCT [] rfl rfl rfl (ratE.csize _) (ratL_all _) T29 (.pure (ratE.pure _)) rfl rfl (ratE.csize _) (ratL_all _) T29 (.pure (ratE.pure _)) rfl (.pure rfl)
   ·refine zg1 ?_
    refine st_nil ?_
    refine any_3 1 3 4 _ _ _ (by decide +kernel) rfl rfl rfl ?_ ?_ ?_
    ·refine zg1 ?_
     refine st_nil ?_
     refine any_2 3 4 _ _ (by decide +kernel) rfl rfl ?_ ?_
     ·refine zg1 ?_
      refine st_nil ?_
      refine any_1 4 _ (by decide +kernel) rfl ?_
      refine zg1 ?_
      refine st_nil ?_
      refine any_1 5 _ (by decide +kernel) rfl ?_
      refine zg1 ?_
      refine st_nil ?_
      refine any_1 6 _ (by decide +kernel) rfl ?_
      refine zg1 ?_
      refine st_nil ?_
      refine any_0 (by decide +kernel) ?_
      refine zg2 ?_
      exact retCCT [] rfl rfl rfl (ratE.csize _) (ratL_all _) T29 (.pure (ratE.pure _)) rfl rfl (ratE.csize _) (ratL_all _) T29 (.pure (ratE.pure _)) rfl (.pure rfl)
     ·refine zg1 ?_
      refine st_nil ?_
      refine any_2 3 5 _ _ (by decide +kernel) rfl rfl ?_ ?_
      ·refine zg1 ?_
       refine st_nil ?_
       refine any_1 5 _ (by decide +kernel) rfl ?_
       refine zg1 ?_
       refine st_nil ?_
       refine any_1 6 _ (by decide +kernel) rfl ?_
       refine zg1 ?_
       refine st_nil ?_
       refine any_0 (by decide +kernel) ?_
       refine zg2 ?_
       exact retCCT [] rfl rfl rfl (ratE.csize _) (ratL_all _) T29 (.pure (ratE.pure _)) rfl rfl (ratE.csize _) (ratL_all _) T29 (.pure (ratE.pure _)) rfl (.pure rfl)
      ·refine zg1 ?_
       refine st_nil ?_
       refine any_1 3 _ (by decide +kernel) rfl ?_
       refine zg1 ?_
       refine st_nil ?_
       refine any_1 6 _ (by decide +kernel) rfl ?_
       refine zg1 ?_
       refine st_nil ?_
       refine any_0 (by decide +kernel) ?_
       refine zg2 ?_
       exact retCCT [] rfl rfl rfl (ratE.csize _) (ratL_all _) T29 (.pure (ratE.pure _)) rfl rfl (ratE.csize _) (ratL_all _) T29 (.pure (ratE.pure _)) rfl (.pure rfl)
    ·refine zg1 ?_
     refine st_nil ?_
     refine any_2 1 4 _ _ (by decide +kernel) rfl rfl ?_ ?_
     ·refine zg1 ?_
      refine st_nil ?_
      refine any_1 4 _ (by decide +kernel) rfl ?_
      refine zg1 ?_
      refine st_nil ?_
      refine any_1 5 _ (by decide +kernel) rfl ?_
      refine zg1 ?_
      refine st_nil ?_
      refine any_1 6 _ (by decide +kernel) rfl ?_
      refine zg1 ?_
      refine st_nil ?_
      refine any_0 (by decide +kernel) ?_
      refine zg2 ?_
      exact retCCT [] rfl rfl rfl (ratE.csize _) (ratL_all _) T29 (.pure (ratE.pure _)) rfl rfl (ratE.csize _) (ratL_all _) T29 (.pure (ratE.pure _)) rfl (.pure rfl)
     ·refine zg1 ?_
      refine st_nil ?_
      refine any_1 1 _ (by decide +kernel) rfl ?_
      refine zg1 ?_
      refine st_nil ?_
      refine any_1 5 _ (by decide +kernel) rfl ?_
      refine zg1 ?_
      refine st_nil ?_
      refine any_1 6 _ (by decide +kernel) rfl ?_
      refine zg1 ?_
      refine st_nil ?_
      refine any_0 (by decide +kernel) ?_
      refine zg2 ?_
      exact retCCT [] rfl rfl rfl (ratE.csize _) (ratL_all _) T29 (.pure (ratE.pure _)) rfl rfl (ratE.csize _) (ratL_all _) T29 (.pure (ratE.pure _)) rfl (.pure rfl)
    ·refine zg1 ?_
     refine st_nil ?_
     refine any_2 1 3 _ _ (by decide +kernel) rfl rfl ?_ ?_
     ·refine zg1 ?_
      refine st_nil ?_
      refine any_2 3 5 _ _ (by decide +kernel) rfl rfl ?_ ?_
      ·refine zg1 ?_
       refine st_nil ?_
       refine any_1 5 _ (by decide +kernel) rfl ?_
       refine zg1 ?_
       refine st_nil ?_
       refine any_1 6 _ (by decide +kernel) rfl ?_
       refine zg1 ?_
       refine st_nil ?_
       refine any_0 (by decide +kernel) ?_
       refine zg2 ?_
       exact retCCT [] rfl rfl rfl (ratE.csize _) (ratL_all _) T29 (.pure (ratE.pure _)) rfl rfl (ratE.csize _) (ratL_all _) T29 (.pure (ratE.pure _)) rfl (.pure rfl)
      ·refine zg1 ?_
       refine st_nil ?_
       refine any_1 3 _ (by decide +kernel) rfl ?_
       refine zg1 ?_
       refine st_nil ?_
       refine any_1 6 _ (by decide +kernel) rfl ?_
       refine zg1 ?_
       refine st_nil ?_
       refine any_0 (by decide +kernel) ?_
       refine zg2 ?_
       exact retCCT [] rfl rfl rfl (ratE.csize _) (ratL_all _) T29 (.pure (ratE.pure _)) rfl rfl (ratE.csize _) (ratL_all _) T29 (.pure (ratE.pure _)) rfl (.pure rfl)
     ·refine zg1 ?_
      refine st_nil ?_
      refine any_1 1 _ (by decide +kernel) rfl ?_
      refine zg1 ?_
      refine st_nil ?_
      refine any_1 5 _ (by decide +kernel) rfl ?_
      refine zg1 ?_
      refine st_nil ?_
      refine any_1 6 _ (by decide +kernel) rfl ?_
      refine zg1 ?_
      refine st_nil ?_
      refine any_0 (by decide +kernel) ?_
      refine zg2 ?_
      exact retCCT [] rfl rfl rfl (ratE.csize _) (ratL_all _) T29 (.pure (ratE.pure _)) rfl rfl (ratE.csize _) (ratL_all _) T29 (.pure (ratE.pure _)) rfl (.pure rfl)
   ·refine zg1 ?_
    refine st_nil ?_
    refine any_2 1 2 _ _ (by decide +kernel) rfl rfl ?_ ?_
    ·refine zg1 ?_
     refine st_nil ?_
     refine any_2 2 5 _ _ (by decide +kernel) rfl rfl ?_ ?_
     ·refine zg1 ?_
      refine st_nil ?_
      refine any_2 3 5 _ _ (by decide +kernel) rfl rfl ?_ ?_
      ·refine zg1 ?_
       refine st_nil ?_
       refine any_1 5 _ (by decide +kernel) rfl ?_
       refine zg1 ?_
       refine st_nil ?_
       refine any_1 6 _ (by decide +kernel) rfl ?_
       refine zg1 ?_
       refine st_nil ?_
       refine any_0 (by decide +kernel) ?_
       refine zg2 ?_
       exact retCCT [] rfl rfl rfl (ratE.csize _) (ratL_all _) T29 (.pure (ratE.pure _)) rfl rfl (ratE.csize _) (ratL_all _) T29 (.pure (ratE.pure _)) rfl (.pure rfl)
      ·refine zg1 ?_
       refine st_nil ?_
       refine any_1 3 _ (by decide +kernel) rfl ?_
       refine zg1 ?_
       refine st_nil ?_
       refine any_1 6 _ (by decide +kernel) rfl ?_
       refine zg1 ?_
       refine st_nil ?_
       refine any_0 (by decide +kernel) ?_
       refine zg2 ?_
       exact retCCT [] rfl rfl rfl (ratE.csize _) (ratL_all _) T29 (.pure (ratE.pure _)) rfl rfl (ratE.csize _) (ratL_all _) T29 (.pure (ratE.pure _)) rfl (.pure rfl)
     ·refine zg1 ?_
      refine st_nil ?_
      refine any_1 2 _ (by decide +kernel) rfl ?_
      refine zg1 ?_
      refine st_nil ?_
      refine any_1 3 _ (by decide +kernel) rfl ?_
      refine zg1 ?_
      refine st_nil ?_
      refine any_1 6 _ (by decide +kernel) rfl ?_
      refine zg1 ?_
      refine st_nil ?_
      refine any_0 (by decide +kernel) ?_
      refine zg2 ?_
      exact retCCT [] rfl rfl rfl (ratE.csize _) (ratL_all _) T29 (.pure (ratE.pure _)) rfl rfl (ratE.csize _) (ratL_all _) T29 (.pure (ratE.pure _)) rfl (.pure rfl)
    ·refine zg1 ?_
     refine st_nil ?_
     refine any_2 1 3 _ _ (by decide +kernel) rfl rfl ?_ ?_
     ·refine zg1 ?_
      refine st_nil ?_
      refine any_2 3 5 _ _ (by decide +kernel) rfl rfl ?_ ?_
      ·refine zg1 ?_
       refine st_nil ?_
       refine any_1 5 _ (by decide +kernel) rfl ?_
       refine zg1 ?_
       refine st_nil ?_
       refine any_1 6 _ (by decide +kernel) rfl ?_
       refine zg1 ?_
       refine st_nil ?_
       refine any_0 (by decide +kernel) ?_
       refine zg2 ?_
       exact retCCT [] rfl rfl rfl (ratE.csize _) (ratL_all _) T29 (.pure (ratE.pure _)) rfl rfl (ratE.csize _) (ratL_all _) T29 (.pure (ratE.pure _)) rfl (.pure rfl)
      ·refine zg1 ?_
       refine st_nil ?_
       refine any_1 3 _ (by decide +kernel) rfl ?_
       refine zg1 ?_
       refine st_nil ?_
       refine any_1 6 _ (by decide +kernel) rfl ?_
       refine zg1 ?_
       refine st_nil ?_
       refine any_0 (by decide +kernel) ?_
       refine zg2 ?_
       exact retCCT [] rfl rfl rfl (ratE.csize _) (ratL_all _) T29 (.pure (ratE.pure _)) rfl rfl (ratE.csize _) (ratL_all _) T29 (.pure (ratE.pure _)) rfl (.pure rfl)
     ·refine zg1 ?_
      refine st_nil ?_
      refine any_1 1 _ (by decide +kernel) rfl ?_
      refine zg1 ?_
      refine st_nil ?_
      refine any_1 5 _ (by decide +kernel) rfl ?_
      refine zg1 ?_
      refine st_nil ?_
      refine any_1 6 _ (by decide +kernel) rfl ?_
      refine zg1 ?_
      refine st_nil ?_
      refine any_0 (by decide +kernel) ?_
      refine zg2 ?_
      exact retCCT [] rfl rfl rfl (ratE.csize _) (ratL_all _) T29 (.pure (ratE.pure _)) rfl rfl (ratE.csize _) (ratL_all _) T29 (.pure (ratE.pure _)) rfl (.pure rfl)
  ·refine zg1 ?_
   refine st_nil ?_
   refine any_2 0 2 _ _ (by decide +kernel) rfl rfl ?_ ?_
   ·refine zg1 ?_
    refine st_nil ?_
    refine any_2 2 4 _ _ (by decide +kernel) rfl rfl ?_ ?_
    ·refine zg1 ?_
     refine st_nil ?_
     refine any_2 3 4 _ _ (by decide +kernel) rfl rfl ?_ ?_
     ·refine zg1 ?_
      refine st_nil ?_
      refine any_1 4 _ (by decide +kernel) rfl ?_
      refine zg1 ?_
      refine st_nil ?_
      refine any_1 5 _ (by decide +kernel) rfl ?_
      refine zg1 ?_
      refine st_nil ?_
      refine any_1 6 _ (by decide +kernel) rfl ?_
      refine zg1 ?_
      refine st_nil ?_
      refine any_0 (by decide +kernel) ?_
      refine zg2 ?_
      exact retCCT [] rfl rfl rfl (ratE.csize _) (ratL_all _) T29 (.pure (ratE.pure _)) rfl rfl (ratE.csize _) (ratL_all _) T29 (.pure (ratE.pure _)) rfl (.pure rfl)
     ·refine zg1 ?_
      refine st_nil ?_
      refine any_2 3 5 _ _ (by decide +kernel) rfl rfl ?_ ?_
      ·refine zg1 ?_
       refine st_nil ?_
       refine any_1 5 _ (by decide +kernel) rfl ?_
       refine zg1 ?_
       refine st_nil ?_
       refine any_1 6 _ (by decide +kernel) rfl ?_
       refine zg1 ?_
       refine st_nil ?_
       refine any_0 (by decide +kernel) ?_
       refine zg2 ?_
       exact retCCT [] rfl rfl rfl (ratE.csize _) (ratL_all _) T29 (.pure (ratE.pure _)) rfl rfl (ratE.csize _) (ratL_all _) T29 (.pure (ratE.pure _)) rfl (.pure rfl)
      ·refine zg1 ?_
       refine st_nil ?_
       refine any_1 3 _ (by decide +kernel) rfl ?_
       refine zg1 ?_
       refine st_nil ?_
       refine any_1 6 _ (by decide +kernel) rfl ?_
       refine zg1 ?_
       refine st_nil ?_
       refine any_0 (by decide +kernel) ?_
       refine zg2 ?_
       exact retCCT [] rfl rfl rfl (ratE.csize _) (ratL_all _) T29 (.pure (ratE.pure _)) rfl rfl (ratE.csize _) (ratL_all _) T29 (.pure (ratE.pure _)) rfl (.pure rfl)
    ·refine zg1 ?_
     refine st_nil ?_
     refine any_2 2 5 _ _ (by decide +kernel) rfl rfl ?_ ?_
     ·refine zg1 ?_
      refine st_nil ?_
      refine any_2 3 5 _ _ (by decide +kernel) rfl rfl ?_ ?_
      ·refine zg1 ?_
       refine st_nil ?_
       refine any_1 5 _ (by decide +kernel) rfl ?_
       refine zg1 ?_
       refine st_nil ?_
       refine any_1 6 _ (by decide +kernel) rfl ?_
       refine zg1 ?_
       refine st_nil ?_
       refine any_0 (by decide +kernel) ?_
       refine zg2 ?_
       exact retCCT [] rfl rfl rfl (ratE.csize _) (ratL_all _) T29 (.pure (ratE.pure _)) rfl rfl (ratE.csize _) (ratL_all _) T29 (.pure (ratE.pure _)) rfl (.pure rfl)
      ·refine zg1 ?_
       refine st_nil ?_
       refine any_1 3 _ (by decide +kernel) rfl ?_
       refine zg1 ?_
       refine st_nil ?_
       refine any_1 6 _ (by decide +kernel) rfl ?_
       refine zg1 ?_
       refine st_nil ?_
       refine any_0 (by decide +kernel) ?_
       refine zg2 ?_
       exact retCCT [] rfl rfl rfl (ratE.csize _) (ratL_all _) T29 (.pure (ratE.pure _)) rfl rfl (ratE.csize _) (ratL_all _) T29 (.pure (ratE.pure _)) rfl (.pure rfl)
     ·refine zg1 ?_
      refine st_nil ?_
      refine any_1 2 _ (by decide +kernel) rfl ?_
      refine zg1 ?_
      refine st_nil ?_
      refine any_1 3 _ (by decide +kernel) rfl ?_
      refine zg1 ?_
      refine st_nil ?_
      refine any_1 6 _ (by decide +kernel) rfl ?_
      refine zg1 ?_
      refine st_nil ?_
      refine any_0 (by decide +kernel) ?_
      refine zg2 ?_
      exact retCCT [] rfl rfl rfl (ratE.csize _) (ratL_all _) T29 (.pure (ratE.pure _)) rfl rfl (ratE.csize _) (ratL_all _) T29 (.pure (ratE.pure _)) rfl (.pure rfl)
   ·refine zg1 ?_
    refine st_nil ?_
    refine any_2 0 3 _ _ (by decide +kernel) rfl rfl ?_ ?_
    ·refine zg1 ?_
     refine st_nil ?_
     refine any_2 3 4 _ _ (by decide +kernel) rfl rfl ?_ ?_
     ·refine zg1 ?_
      refine st_nil ?_
      refine any_1 4 _ (by decide +kernel) rfl ?_
      refine zg1 ?_
      refine st_nil ?_
      refine any_1 5 _ (by decide +kernel) rfl ?_
      refine zg1 ?_
      refine st_nil ?_
      refine any_1 6 _ (by decide +kernel) rfl ?_
      refine zg1 ?_
      refine st_nil ?_
      refine any_0 (by decide +kernel) ?_
      refine zg2 ?_
      exact retCCT [] rfl rfl rfl (ratE.csize _) (ratL_all _) T29 (.pure (ratE.pure _)) rfl rfl (ratE.csize _) (ratL_all _) T29 (.pure (ratE.pure _)) rfl (.pure rfl)
     ·refine zg1 ?_
      refine st_nil ?_
      refine any_2 3 5 _ _ (by decide +kernel) rfl rfl ?_ ?_
      ·refine zg1 ?_
       refine st_nil ?_
       refine any_1 5 _ (by decide +kernel) rfl ?_
       refine zg1 ?_
       refine st_nil ?_
       refine any_1 6 _ (by decide +kernel) rfl ?_
       refine zg1 ?_
       refine st_nil ?_
       refine any_0 (by decide +kernel) ?_
       refine zg2 ?_
       exact retCCT [] rfl rfl rfl (ratE.csize _) (ratL_all _) T29 (.pure (ratE.pure _)) rfl rfl (ratE.csize _) (ratL_all _) T29 (.pure (ratE.pure _)) rfl (.pure rfl)
      ·refine zg1 ?_
       refine st_nil ?_
       refine any_1 3 _ (by decide +kernel) rfl ?_
       refine zg1 ?_
       refine st_nil ?_
       refine any_1 6 _ (by decide +kernel) rfl ?_
       refine zg1 ?_
       refine st_nil ?_
       refine any_0 (by decide +kernel) ?_
       refine zg2 ?_
       exact retCCT [] rfl rfl rfl (ratE.csize _) (ratL_all _) T29 (.pure (ratE.pure _)) rfl rfl (ratE.csize _) (ratL_all _) T29 (.pure (ratE.pure _)) rfl (.pure rfl)
    ·refine zg1 ?_
     refine st_nil ?_
     refine any_1 0 _ (by decide +kernel) rfl ?_
     refine zg1 ?_
     refine st_nil ?_
     refine any_1 4 _ (by decide +kernel) rfl ?_
     refine zg1 ?_
     refine st_nil ?_
     refine any_1 5 _ (by decide +kernel) rfl ?_
     refine zg1 ?_
     refine st_nil ?_
     refine any_1 6 _ (by decide +kernel) rfl ?_
     refine zg1 ?_
     refine st_nil ?_
     refine any_0 (by decide +kernel) ?_
     refine zg2 ?_
     exact retCCT [] rfl rfl rfl (ratE.csize _) (ratL_all _) T29 (.pure (ratE.pure _)) rfl rfl (ratE.csize _) (ratL_all _) T29 (.pure (ratE.pure _)) rfl (.pure rfl)
  ·refine zg1 ?_
   refine st_nil ?_
   refine any_3 0 1 3 _ _ _ (by decide +kernel) rfl rfl rfl ?_ ?_ ?_
   ·refine zg1 ?_
    refine st_nil ?_
    refine any_3 1 3 4 _ _ _ (by decide +kernel) rfl rfl rfl ?_ ?_ ?_
    ·refine zg1 ?_
     refine st_nil ?_
     refine any_2 3 4 _ _ (by decide +kernel) rfl rfl ?_ ?_
     ·refine zg1 ?_
      refine st_nil ?_
      refine any_1 4 _ (by decide +kernel) rfl ?_
      refine zg1 ?_
      refine st_nil ?_
      refine any_1 5 _ (by decide +kernel) rfl ?_
      refine zg1 ?_
      refine st_nil ?_
      refine any_1 6 _ (by decide +kernel) rfl ?_
      refine zg1 ?_
      refine st_nil ?_
      refine any_0 (by decide +kernel) ?_
      refine zg2 ?_
      exact retCCT [] rfl rfl rfl (ratE.csize _) (ratL_all _) T29 (.pure (ratE.pure _)) rfl rfl (ratE.csize _) (ratL_all _) T29 (.pure (ratE.pure _)) rfl (.pure rfl)
     ·refine zg1 ?_
      refine st_nil ?_
      refine any_2 3 5 _ _ (by decide +kernel) rfl rfl ?_ ?_
      ·refine zg1 ?_
       refine st_nil ?_
       refine any_1 5 _ (by decide +kernel) rfl ?_
       refine zg1 ?_
       refine st_nil ?_
       refine any_1 6 _ (by decide +kernel) rfl ?_
       refine zg1 ?_
       refine st_nil ?_
       refine any_0 (by decide +kernel) ?_
       refine zg2 ?_
       exact retCCT [] rfl rfl rfl (ratE.csize _) (ratL_all _) T29 (.pure (ratE.pure _)) rfl rfl (ratE.csize _) (ratL_all _) T29 (.pure (ratE.pure _)) rfl (.pure rfl)
      ·refine zg1 ?_
       refine st_nil ?_
       refine any_1 3 _ (by decide +kernel) rfl ?_
       refine zg1 ?_
       refine st_nil ?_
       refine any_1 6 _ (by decide +kernel) rfl ?_
       refine zg1 ?_
       refine st_nil ?_
       refine any_0 (by decide +kernel) ?_
       refine zg2 ?_
       exact retCCT [] rfl rfl rfl (ratE.csize _) (ratL_all _) T29 (.pure (ratE.pure _)) rfl rfl (ratE.csize _) (ratL_all _) T29 (.pure (ratE.pure _)) rfl (.pure rfl)
    ·refine zg1 ?_
     refine st_nil ?_
     refine any_2 1 4 _ _ (by decide +kernel) rfl rfl ?_ ?_
     ·refine zg1 ?_
      refine st_nil ?_
      refine any_1 4 _ (by decide +kernel) rfl ?_
      refine zg1 ?_
      refine st_nil ?_
      refine any_1 5 _ (by decide +kernel) rfl ?_
      refine zg1 ?_
      refine st_nil ?_
      refine any_1 6 _ (by decide +kernel) rfl ?_
      refine zg1 ?_
      refine st_nil ?_
      refine any_0 (by decide +kernel) ?_
      refine zg2 ?_
      exact retCCT [] rfl rfl rfl (ratE.csize _) (ratL_all _) T29 (.pure (ratE.pure _)) rfl rfl (ratE.csize _) (ratL_all _) T29 (.pure (ratE.pure _)) rfl (.pure rfl)
     ·refine zg1 ?_
      refine st_nil ?_
      refine any_1 1 _ (by decide +kernel) rfl ?_
      refine zg1 ?_
      refine st_nil ?_
      refine any_1 5 _ (by decide +kernel) rfl ?_
      refine zg1 ?_
      refine st_nil ?_
      refine any_1 6 _ (by decide +kernel) rfl ?_
      refine zg1 ?_
      refine st_nil ?_
      refine any_0 (by decide +kernel) ?_
      refine zg2 ?_
      exact retCCT [] rfl rfl rfl (ratE.csize _) (ratL_all _) T29 (.pure (ratE.pure _)) rfl rfl (ratE.csize _) (ratL_all _) T29 (.pure (ratE.pure _)) rfl (.pure rfl)
    ·refine zg1 ?_
     refine st_nil ?_
     refine any_2 1 3 _ _ (by decide +kernel) rfl rfl ?_ ?_
     ·refine zg1 ?_
      refine st_nil ?_
      refine any_2 3 5 _ _ (by decide +kernel) rfl rfl ?_ ?_
      ·refine zg1 ?_
       refine st_nil ?_
       refine any_1 5 _ (by decide +kernel) rfl ?_
       refine zg1 ?_
       refine st_nil ?_
       refine any_1 6 _ (by decide +kernel) rfl ?_
       refine zg1 ?_
       refine st_nil ?_
       refine any_0 (by decide +kernel) ?_
       refine zg2 ?_
       exact retCCT [] rfl rfl rfl (ratE.csize _) (ratL_all _) T29 (.pure (ratE.pure _)) rfl rfl (ratE.csize _) (ratL_all _) T29 (.pure (ratE.pure _)) rfl (.pure rfl)
      ·refine zg1 ?_
       refine st_nil ?_
       refine any_1 3 _ (by decide +kernel) rfl ?_
       refine zg1 ?_
       refine st_nil ?_
       refine any_1 6 _ (by decide +kernel) rfl ?_
       refine zg1 ?_
       refine st_nil ?_
       refine any_0 (by decide +kernel) ?_
       refine zg2 ?_
       exact retCCT [] rfl rfl rfl (ratE.csize _) (ratL_all _) T29 (.pure (ratE.pure _)) rfl rfl (ratE.csize _) (ratL_all _) T29 (.pure (ratE.pure _)) rfl (.pure rfl)
     ·refine zg1 ?_
      refine st_nil ?_
      refine any_1 1 _ (by decide +kernel) rfl ?_
      refine zg1 ?_
      refine st_nil ?_
      refine any_1 5 _ (by decide +kernel) rfl ?_
      refine zg1 ?_
      refine st_nil ?_
      refine any_1 6 _ (by decide +kernel) rfl ?_
      refine zg1 ?_
      refine st_nil ?_
      refine any_0 (by decide +kernel) ?_
      refine zg2 ?_
      exact retCCT [] rfl rfl rfl (ratE.csize _) (ratL_all _) T29 (.pure (ratE.pure _)) rfl rfl (ratE.csize _) (ratL_all _) T29 (.pure (ratE.pure _)) rfl (.pure rfl)
   ·refine zg1 ?_
    refine st_nil ?_
    refine any_2 0 3 _ _ (by decide +kernel) rfl rfl ?_ ?_
    ·refine zg1 ?_
     refine st_nil ?_
     refine any_2 3 4 _ _ (by decide +kernel) rfl rfl ?_ ?_
     ·refine zg1 ?_
      refine st_nil ?_
      refine any_1 4 _ (by decide +kernel) rfl ?_
      refine zg1 ?_
      refine st_nil ?_
      refine any_1 5 _ (by decide +kernel) rfl ?_
      refine zg1 ?_
      refine st_nil ?_
      refine any_1 6 _ (by decide +kernel) rfl ?_
      refine zg1 ?_
      refine st_nil ?_
      refine any_0 (by decide +kernel) ?_
      refine zg2 ?_
      exact retCCT [] rfl rfl rfl (ratE.csize _) (ratL_all _) T29 (.pure (ratE.pure _)) rfl rfl (ratE.csize _) (ratL_all _) T29 (.pure (ratE.pure _)) rfl (.pure rfl)
     ·refine zg1 ?_
      refine st_nil ?_
      refine any_2 3 5 _ _ (by decide +kernel) rfl rfl ?_ ?_
      ·refine zg1 ?_
       refine st_nil ?_
       refine any_1 5 _ (by decide +kernel) rfl ?_
       refine zg1 ?_
       refine st_nil ?_
       refine any_1 6 _ (by decide +kernel) rfl ?_
       refine zg1 ?_
       refine st_nil ?_
       refine any_0 (by decide +kernel) ?_
       refine zg2 ?_
       exact retCCT [] rfl rfl rfl (ratE.csize _) (ratL_all _) T29 (.pure (ratE.pure _)) rfl rfl (ratE.csize _) (ratL_all _) T29 (.pure (ratE.pure _)) rfl (.pure rfl)
      ·refine zg1 ?_
       refine st_nil ?_
       refine any_1 3 _ (by decide +kernel) rfl ?_
       refine zg1 ?_
       refine st_nil ?_
       refine any_1 6 _ (by decide +kernel) rfl ?_
       refine zg1 ?_
       refine st_nil ?_
       refine any_0 (by decide +kernel) ?_
       refine zg2 ?_
       exact retCCT [] rfl rfl rfl (ratE.csize _) (ratL_all _) T29 (.pure (ratE.pure _)) rfl rfl (ratE.csize _) (ratL_all _) T29 (.pure (ratE.pure _)) rfl (.pure rfl)
    ·refine zg1 ?_
     refine st_nil ?_
     refine any_1 0 _ (by decide +kernel) rfl ?_
     refine zg1 ?_
     refine st_nil ?_
     refine any_1 4 _ (by decide +kernel) rfl ?_
     refine zg1 ?_
     refine st_nil ?_
     refine any_1 5 _ (by decide +kernel) rfl ?_
     refine zg1 ?_
     refine st_nil ?_
     refine any_1 6 _ (by decide +kernel) rfl ?_
     refine zg1 ?_
     refine st_nil ?_
     refine any_0 (by decide +kernel) ?_
     refine zg2 ?_
     exact retCCT [] rfl rfl rfl (ratE.csize _) (ratL_all _) T29 (.pure (ratE.pure _)) rfl rfl (ratE.csize _) (ratL_all _) T29 (.pure (ratE.pure _)) rfl (.pure rfl)
   ·refine zg1 ?_
    refine st_nil ?_
    refine any_2 0 1 _ _ (by decide +kernel) rfl rfl ?_ ?_
    ·refine zg1 ?_
     refine st_nil ?_
     refine any_2 1 4 _ _ (by decide +kernel) rfl rfl ?_ ?_
     ·refine zg1 ?_
      refine st_nil ?_
      refine any_1 4 _ (by decide +kernel) rfl ?_
      refine zg1 ?_
      refine st_nil ?_
      refine any_1 5 _ (by decide +kernel) rfl ?_
      refine zg1 ?_
      refine st_nil ?_
      refine any_1 6 _ (by decide +kernel) rfl ?_
      refine zg1 ?_
      refine st_nil ?_
      refine any_0 (by decide +kernel) ?_
      refine zg2 ?_
      exact retCCT [] rfl rfl rfl (ratE.csize _) (ratL_all _) T29 (.pure (ratE.pure _)) rfl rfl (ratE.csize _) (ratL_all _) T29 (.pure (ratE.pure _)) rfl (.pure rfl)
     ·refine zg1 ?_
      refine st_nil ?_
      refine any_1 1 _ (by decide +kernel) rfl ?_
      refine zg1 ?_
      refine st_nil ?_
      refine any_1 5 _ (by decide +kernel) rfl ?_
      refine zg1 ?_
      refine st_nil ?_
      refine any_1 6 _ (by decide +kernel) rfl ?_
      refine zg1 ?_
      refine st_nil ?_
      refine any_0 (by decide +kernel) ?_
      refine zg2 ?_
      exact retCCT [] rfl rfl rfl (ratE.csize _) (ratL_all _) T29 (.pure (ratE.pure _)) rfl rfl (ratE.csize _) (ratL_all _) T29 (.pure (ratE.pure _)) rfl (.pure rfl)
    ·refine zg1 ?_
     refine st_nil ?_
     refine any_1 0 _ (by decide +kernel) rfl ?_
     refine zg1 ?_
     refine st_nil ?_
     refine any_1 4 _ (by decide +kernel) rfl ?_
     refine zg1 ?_
     refine st_nil ?_
     refine any_1 5 _ (by decide +kernel) rfl ?_
     refine zg1 ?_
     refine st_nil ?_
     refine any_1 6 _ (by decide +kernel) rfl ?_
     refine zg1 ?_
     refine st_nil ?_
     refine any_0 (by decide +kernel) ?_
     refine zg2 ?_
     exact retCCT [] rfl rfl rfl (ratE.csize _) (ratL_all _) T29 (.pure (ratE.pure _)) rfl rfl (ratE.csize _) (ratL_all _) T29 (.pure (ratE.pure _)) rfl (.pure rfl)
def v3x (p q:V3):V3:=⟨p.y*q.z-p.z*q.y,p.z*q.x-p.x*q.z,p.x*q.y-p.y*q.x⟩
theorem v3x_bd {R:Nat} {p q:V3} (hp:bd3 R p) (hq:bd3 R q):bd3 (4*R+5) (v3x p q):=by
 obtain⟨a1,a2,a3⟩:=hp
 obtain⟨b1,b2,b3⟩:=hq
 have g:∀ a b c d:Rat,rl a≤R→rl b≤R→rl c≤R→rl d≤R→rl (a*b-c*d)≤4*R+5:=fun a b c d h1 h2 h3 h4=>by
  have m1:=rl_mul a b
  have m2:=rl_mul c d
  have m3:=rl_sub (a*b) (c*d)
  omega
 exact⟨g _ _ _ _ a2 b3 a3 b2,g _ _ _ _ a3 b1 a1 b3,g _ _ _ _ a1 b2 a2 b1⟩
def sbS (s t:Rat × Rat):Rat × Rat:=(s.1-t.2,s.2-t.1)
theorem sbS_bd {R S:Nat} {s t:Rat × Rat} (hs:bdS R s) (ht:bdS S t):bdS (R+S+1) (sbS s t):=by
 have m1:=rl_sub s.1 t.2
 have m2:=rl_sub s.2 t.1
 exact⟨by show rl (s.1-t.2)≤_;have:=hs.1;have:=ht.2;omega,by show rl (s.2-t.1)≤_;have:=hs.2;have:=ht.1;omega⟩
theorem sb_in {A B:Rat × Rat} {a b:Rat} (h1:A.1≤a) (h2:a≤A.2) (h3:B.1≤b) (h4:b≤B.2):(sbS A B).1≤a-b∧a-b≤(sbS A B).2:=by
 unfold sbS
 constructor<;>simp only<;>grind
namespace H_c_VCross
theorem zSm {p q:Prop} (k:q) (e:p=q:=by simp only [e1,e2,e3,e4,p1,p2,p3,q1,q2,q3,l1,t0,t1,r1,r2,r3,r4,Nat.zero_add,Nat.reduceMul,Nat.reduceAdd,b1,b2,b3,b4,b5,b6,i1,i2,i3,i4,i5,i6,Nat.reduceBEq,List.set_cons_zero,List.set_cons_succ,Nat.reduceEqDiff,reduceIte,if_true,if_false,ptL_kill,poL_kill,kills_map ptE,kills_map poE,kills_map ratE,ratL_kill,spL_kill,LV.kill,kills];exact rfl):p:=e.mpr k
end H_c_VCross
open H_c_VCross in
theorem c_VCross (p q:V3) (R:Nat) (hR:R≤1000000000) (hp:bd3 R p) (hq:bd3 R q):CallP Tryz.prog 63 [ptL p,ptL q] (ptL (v3x p q)):=by
 obtain⟨a1,a2,a3⟩:=hp
 obtain⟨y1,y2,y3⟩:=hq
 have m01:=rl_mul p.x q.y
 have m02:=rl_mul p.x q.z
 have m10:=rl_mul p.y q.x
 have m12:=rl_mul p.y q.z
 have m20:=rl_mul p.z q.x
 have m21:=rl_mul p.z q.y
 refine fnP Tryz.func63 (ht:=(fun r=>LV.ren_pure r _ (ptE.pure _))) ?_
 refine zg19 ?_
 refine wl_unroll ?_
 refine zg6 ?_
 refine wl_condX (b:=_) rfl (by decide) ?_
 refine zg13 ?_
 refine st_pure rfl (.bin rfl rfl (show binI .add .i64 0 1=some (.int .i64 ((1:Nat):Int)) from rfl)) ?_
 refine st_pure rfl (.bin rfl rfl (show binI .rem .i64 1 3=some (.int .i64 ((1:Nat):Int)) from rfl)) ?_
 refine zg1 ?_
 refine st_pure rfl (.bin rfl rfl (show binI .add .i64 0 2=some (.int .i64 ((2:Nat):Int)) from rfl)) ?_
 refine st_pure rfl (.bin rfl rfl (show binI .rem .i64 2 3=some (.int .i64 ((2:Nat):Int)) from rfl)) ?_
 refine zg4 ?_
 refine wl_regD 17 (by decide +kernel) ?_
 refine zg7 ?_
 refine cp am2 (c_RMul p.y q.z (by omega)) ?_
 refine zg6 ?_
 refine cp am2 (c_RMul p.z q.y (by omega)) ?_
 refine cp am2 (c_RSub (p.y*q.z) (p.z*q.y) (by omega)) ?_
 refine zg10 ?_
 refine wl_unroll ?_
 refine zg6 ?_
 refine wl_condX (b:=_) rfl (by decide) ?_
 refine zg13 ?_
 refine st_pure rfl (.bin rfl rfl (show binI .add .i64 1 1=some (.int .i64 ((2:Nat):Int)) from rfl)) ?_
 refine st_pure rfl (.bin rfl rfl (show binI .rem .i64 2 3=some (.int .i64 ((2:Nat):Int)) from rfl)) ?_
 refine zg1 ?_
 refine st_pure rfl (.bin rfl rfl (show binI .add .i64 1 2=some (.int .i64 ((3:Nat):Int)) from rfl)) ?_
 refine st_pure rfl (.bin rfl rfl (show binI .rem .i64 3 3=some (.int .i64 ((0:Nat):Int)) from rfl)) ?_
 refine zg4 ?_
 refine wl_regD 17 (by decide +kernel) ?_
 refine zg7 ?_
 refine cp am2 (c_RMul p.z q.x (by omega)) ?_
 refine zg6 ?_
 refine cp am2 (c_RMul p.x q.z (by omega)) ?_
 refine cp am2 (c_RSub (p.z*q.x) (p.x*q.z) (by omega)) ?_
 refine zg10 ?_
 refine wl_unroll ?_
 refine zg6 ?_
 refine wl_condX (b:=_) rfl (by decide) ?_
 refine zg13 ?_
 refine st_pure rfl (.bin rfl rfl (show binI .add .i64 2 1=some (.int .i64 ((3:Nat):Int)) from rfl)) ?_
 refine st_pure rfl (.bin rfl rfl (show binI .rem .i64 3 3=some (.int .i64 ((0:Nat):Int)) from rfl)) ?_
 refine zg1 ?_
 refine st_pure rfl (.bin rfl rfl (show binI .add .i64 2 2=some (.int .i64 ((4:Nat):Int)) from rfl)) ?_
 refine st_pure rfl (.bin rfl rfl (show binI .rem .i64 4 3=some (.int .i64 ((1:Nat):Int)) from rfl)) ?_
 refine zg4 ?_
 refine wl_regD 17 (by decide +kernel) ?_
 refine zg7 ?_
 refine cp am2 (c_RMul p.x q.y (by omega)) ?_
 refine zg6 ?_
 refine cp am2 (c_RMul p.y q.x (by omega)) ?_
 refine cp am2 (c_RSub (p.x*q.y) (p.y*q.x) (by omega)) ?_
 refine zg10 ?_
 refine wl_unroll ?_
 refine zg6 ?_
 refine wl_condY (b:=_) rfl (by decide) ?_
 refine zg12 ?_
 exact retC [] rfl rfl rfl cs (at_all cs rfl) T31 (.pure pu)
namespace H_c_FVCross
theorem zSm {p q:Prop} (k:q) (e:p=q:=by simp only [e1,e2,e3,e4,p1,p2,p3,q1,q2,q3,l1,t0,t1,r1,r2,r3,r4,Nat.zero_add,Nat.reduceMul,Nat.reduceAdd,b1,b2,b3,b4,b5,b6,i1,i2,i3,i4,i5,i6,Nat.reduceBEq,List.set_cons_zero,List.set_cons_succ,Nat.reduceEqDiff,reduceIte,if_true,if_false,ptL_kill,poL_kill,kills_map ptE,kills_map poE,kills_map ratE,ratL_kill,spL_kill,LV.kill,kills];exact rfl):p:=e.mpr k
end H_c_FVCross
open H_c_FVCross in
theorem c_FVCross (p q:V3) (R:Nat) (hR:R≤1000000000) (hp:bd3 R p) (hq:bd3 R q):CallP Tryz.prog 104 [ptL p,ptL q] (ptL (v3x p q)):=by
 obtain⟨a1,a2,a3⟩:=hp
 obtain⟨y1,y2,y3⟩:=hq
 have m01:=rl_mul p.x q.y
 have m02:=rl_mul p.x q.z
 have m10:=rl_mul p.y q.x
 have m12:=rl_mul p.y q.z
 have m20:=rl_mul p.z q.x
 have m21:=rl_mul p.z q.y
 refine fnP Tryz.func104 (ht:=(fun r=>LV.ren_pure r _ (ptE.pure _))) ?_
 refine zg19 ?_
 refine wl_unroll ?_
 refine zg7 ?_
 refine wl_condX (b:=_) rfl (by decide) ?_
 refine zg7 ?_
 refine st_pure rfl (.bin rfl rfl (show binI .add .i64 0 1=some (.int .i64 ((1:Nat):Int)) from rfl)) ?_
 refine st_pure rfl (.bin rfl rfl (show binI .rem .i64 1 3=some (.int .i64 ((1:Nat):Int)) from rfl)) ?_
 refine zg1 ?_
 refine st_pure rfl (.bin rfl rfl (show binI .add .i64 0 2=some (.int .i64 ((2:Nat):Int)) from rfl)) ?_
 refine st_pure rfl (.bin rfl rfl (show binI .rem .i64 2 3=some (.int .i64 ((2:Nat):Int)) from rfl)) ?_
 refine zg4 ?_
 refine wl_regD 17 (by decide +kernel) ?_
 refine zg7 ?_
 refine cp am2 (c_FRMul p.y q.z (by omega)) ?_
 refine zg6 ?_
 refine cp am2 (c_FRMul p.z q.y (by omega)) ?_
 refine cp am2 (c_FRSub (p.y*q.z) (p.z*q.y) (by omega)) ?_
 refine zg11 ?_
 refine wl_unroll ?_
 refine zg7 ?_
 refine wl_condX (b:=_) rfl (by decide) ?_
 refine zg7 ?_
 refine st_pure rfl (.bin rfl rfl (show binI .add .i64 1 1=some (.int .i64 ((2:Nat):Int)) from rfl)) ?_
 refine st_pure rfl (.bin rfl rfl (show binI .rem .i64 2 3=some (.int .i64 ((2:Nat):Int)) from rfl)) ?_
 refine zg1 ?_
 refine st_pure rfl (.bin rfl rfl (show binI .add .i64 1 2=some (.int .i64 ((3:Nat):Int)) from rfl)) ?_
 refine st_pure rfl (.bin rfl rfl (show binI .rem .i64 3 3=some (.int .i64 ((0:Nat):Int)) from rfl)) ?_
 refine zg4 ?_
 refine wl_regD 17 (by decide +kernel) ?_
 refine zg7 ?_
 refine cp am2 (c_FRMul p.z q.x (by omega)) ?_
 refine zg6 ?_
 refine cp am2 (c_FRMul p.x q.z (by omega)) ?_
 refine cp am2 (c_FRSub (p.z*q.x) (p.x*q.z) (by omega)) ?_
 refine zg11 ?_
 refine wl_unroll ?_
 refine zg7 ?_
 refine wl_condX (b:=_) rfl (by decide) ?_
 refine zg7 ?_
 refine st_pure rfl (.bin rfl rfl (show binI .add .i64 2 1=some (.int .i64 ((3:Nat):Int)) from rfl)) ?_
 refine st_pure rfl (.bin rfl rfl (show binI .rem .i64 3 3=some (.int .i64 ((0:Nat):Int)) from rfl)) ?_
 refine zg1 ?_
 refine st_pure rfl (.bin rfl rfl (show binI .add .i64 2 2=some (.int .i64 ((4:Nat):Int)) from rfl)) ?_
 refine st_pure rfl (.bin rfl rfl (show binI .rem .i64 4 3=some (.int .i64 ((1:Nat):Int)) from rfl)) ?_
 refine zg4 ?_
 refine wl_regD 17 (by decide +kernel) ?_
 refine zg7 ?_
 refine cp am2 (c_FRMul p.x q.y (by omega)) ?_
 refine zg6 ?_
 refine cp am2 (c_FRMul p.y q.x (by omega)) ?_
 refine cp am2 (c_FRSub (p.x*q.y) (p.y*q.x) (by omega)) ?_
 refine zg11 ?_
 refine wl_unroll ?_
 refine zg7 ?_
 refine wl_condY (b:=_) rfl (by decide) ?_
 refine zg12 ?_
 exact retC [] rfl rfl rfl cs (at_all cs rfl) T31 (.pure pu)
namespace H_c_SSub
theorem zSm {p q:Prop} (k:q) (e:p=q:=by simp only [e1,e2,e3,e4,p1,p2,p3,q1,q2,q3,l1,t0,t1,r1,r2,r3,r4,Nat.zero_add,Nat.reduceMul,Nat.reduceAdd,b1,b2,b3,b4,b5,b6,i1,i2,i3,i4,i5,i6,Nat.reduceBEq,List.set_cons_zero,List.set_cons_succ,Nat.reduceEqDiff,reduceIte,if_true,if_false,ptL_kill,poL_kill,kills_map ptE,kills_map poE,kills_map ratE,ratL_kill,spL_kill,LV.kill,kills];exact rfl):p:=e.mpr k
end H_c_SSub
open H_c_SSub in
theorem c_SSub (s t:Rat × Rat) (R:Nat) (hR:R≤1000000000) (hs:bdS R s) (ht:bdS R t):CallP Tryz.prog 112 [spL s,spL t] (spL (sbS s t)):=by
 obtain⟨a1,a2⟩:=hs
 obtain⟨y1,y2⟩:=ht
 refine fnP Tryz.func112 ?_
 refine zg8 ?_
 refine wl_regD 11 (by decide +kernel) ?_
 refine zg4 ?_
 refine cp am2 (c_RSub s.1 t.2 (by omega)) ?_
 refine zg4 ?_
 refine cp am2 (c_RSub s.2 t.1 (by omega)) ?_
 refine zg5 ?_
 exact retC [] rfl rfl rfl (spE.csize _) (spL_all _) T42 (.pure (spE.pure _))
theorem sq_le3 {a b:Nat} (ha:a≤3) (hb:b≤3):(a+1)*(b+1)≤16:=Nat.le_trans (Nat.mul_le_mul (show a+1≤4 by omega) (show b+1≤4 by omega)) (by decide)
theorem pk_le {a b c d x:Nat} (ha:a≤3) (hb:b≤3) (hc:c≤3) (hd:d≤3):(a+1)*((b+1)*((c+1)*((d+1)*x)))≤256*x:=by
 have h1:(d+1)*x≤4*x:=Nat.mul_le_mul_right _ (by omega)
 have h2:(c+1)*((d+1)*x)≤4*(4*x):=Nat.mul_le_mul (by omega) h1
 have h3:(b+1)*((c+1)*((d+1)*x))≤4*(4*(4*x)):=Nat.mul_le_mul (by omega) h2
 have h4:(a+1)*((b+1)*((c+1)*((d+1)*x)))≤4*(4*(4*(4*x))):=Nat.mul_le_mul (by omega) h3
 omega
namespace H_c_prod13
theorem zSm {p q:Prop} (k:q) (e:p=q:=by simp only [e1,e2,e3,e4,p1,p2,p3,q1,q2,q3,l1,t0,t1,r1,r2,r3,r4,Nat.zero_add,Nat.reduceMul,Nat.reduceAdd,b1,b2,b3,b4,b5,b6,i1,i2,i3,i4,i5,i6,Nat.reduceBEq,List.set_cons_zero,List.set_cons_succ,Nat.reduceEqDiff,reduceIte,if_true,if_false,ptL_kill,poL_kill,kills_map ptE,kills_map poE,kills_map ratE,ratL_kill,spL_kill,LV.kill,kills];exact rfl):p:=e.mpr k
end H_c_prod13
open H_c_prod13 in
theorem c_prod13 (U1 V1 U2 V2:Nat) (a b:List Rat) (ha:a.length=(U1+1)*(V1+1)) (hb:b.length=(U2+1)*(V2+1)) (hU1:U1≤3) (hV1:V1≤3) (hU2:U2≤3) (hV2:V2≤3) (S:Nat) (hS1:1≤S) (hS:S≤1000000) (haR:∀ x∈a,rl x≤S) (hbR:∀ x∈b,rl x≤S):CallP Tryz.prog 142 [.agg [nI64 U1,nI64 V1,.list 3 (a.map ratL)],.agg [nI64 U2,nI64 V2,.list 3 (b.map ratL)]] (.agg [nI64 (U1+U2),nI64 (V1+V2),.list 3 ((tmL U1 V1 U2 V2 a b).map ratL)]):=by
 have hal:=sq_le3 hU1 hV1
 have hbl:=sq_le3 hU2 hV2
 have hn1:=net_pureN U1 V1 a
 have hn2:=net_pureN U2 V2 b
 have hpk:=pk_le (x:=2*S+14) hU1 hV1 hU2 hV2
 have hn3:=net_pureN (U1+U2) (V1+V2) (tmL U1 V1 U2 V2 a b)
 refine fnP Tryz.func142 (ht:=(fun g=>LV.ren_pure g _ (net_pureN _ _ _))) ?_
 refine zg11 ?_
 refine cp am2 (c_TMulK U1 V1 U2 V2 a b ha hb (by omega) (by omega) (by omega) (by omega) S hS1 hS (by omega) haR hbR) ?_
 refine zg15 ?_
 exact retC [] rfl rfl rfl rfl rfl T64 (.pure (net_pureN _ _ _))
theorem c_tSub13 (U V:Nat) (a b:List Rat) (hU:U≤40) (hV:V≤40) (ha:a.length=(U+1)*(V+1)) (hb:b.length=(U+1)*(V+1)) (haR:∀ x∈a,rl x≤500000000) (hbR:∀ x∈b,rl x≤500000000):CallP Tryz.prog 141 [.agg [nI64 U,nI64 V,.list 3 (a.map ratL)],.agg [nI64 U,nI64 V,.list 3 (b.map ratL)]] (.agg [nI64 U,nI64 V,.list 3 ((zipG (·-·) a b).map ratL)]):=by
 have:=c_TSub U V U V a b U V (upH_same ha hU hV fun x hx=>by have:=haR x hx;omega) (upH_same hb hU hV fun x hx=>by have:=hbR x hx;omega) (.inl rfl) (.inl rfl)
 rwa [upN_self ha,upN_self hb] at this
namespace H_c_turns13
theorem zSm {p q:Prop} (k:q) (e:p=q:=by simp only [e1,e2,e3,e4,p1,p2,p3,q1,q2,q3,l1,t0,t1,r1,r2,r3,r4,Nat.zero_add,Nat.reduceMul,Nat.reduceAdd,b1,b2,b3,b4,b5,b6,i1,i2,i3,i4,i5,i6,Nat.reduceBEq,frz_nil,prL_kill,kills_map prE,dfr,dfq,take_map_len,map_snoc,len_snoc,List.length_cons,List.length_nil,List.nil_append,List.map_nil,List.take_nil,List.append_nil,List.set_cons_zero,List.set_cons_succ,Nat.reduceEqDiff,reduceIte,if_true,if_false,ptL_kill,poL_kill,kills_map ptE,kills_map poE,kills_map ratE,ratL_kill,spL_kill,LV.kill,kills];exact rfl):p:=e.mpr k
end H_c_turns13
open H_c_turns13 in
theorem c_turns13 (R U V Ud Vd:Nat) (kU kV:List Rat) (rows:List (List PoR)) (h:pf R U V rows) (hR:R≤200000) (D:List Rat→List Rat) (hd:dfS U V Ud Vd D) (f:Nat) (hf:∀ c:List Rat,c.length=(U+1)*(V+1)→(∀ x∈c,rl x≤2*R)→CallP Tryz.prog f [.agg [nI64 U,nI64 V,.list 3 (c.map ratL)]] (.agg [nI64 Ud,nI64 Vd,.list 3 ((D c).map ratL)])):CallP Tryz.prog 71 [.agg [nI64 U,nI64 V,.list 3 (kU.map ratL),.list 3 (kV.map ratL),.list 1 (rows.map prL)],.clo f []] (.agg [.agg [nI64 (Ud+U),nI64 (Vd+V),.list 3 ((sgN U V Ud Vd D rows.flatten 0).map ratL)],.agg [nI64 (Ud+U),nI64 (Vd+V),.list 3 ((sgN U V Ud Vd D rows.flatten 1).map ratL)],.agg [nI64 (Ud+U),nI64 (Vd+V),.list 3 ((sgN U V Ud Vd D rows.flatten 2).map ratL)]]):=by
 have hsp:LV.pure (.agg [nI64 U,nI64 V,.list 3 (kU.map ratL),.list 3 (kV.map ratL),.list 1 (rows.map prL)])=true:=by simp [LV.pure,pures,pures_map ratE,pures_map prE]
 have hr1:=h.r1
 have hu3:=h.u3
 have hv3:=h.v3
 have hud:=hd.u
 have hvd:=hd.v
 have hwl:=h.wl
 have hdw:=hd.l _ hwl
 have hwr:=h.wr
 have hdwr:=hd.r _ _ hr1 hwl hwr
 have hpw:=net_pureN U V (wtP rows.flatten)
 have hpdw:=net_pureN Ud Vd (D (wtP rows.flatten))
 have hnl0:=h.nl 0
 have hdn0:=hd.l _ hnl0
 have hnr0:=h.nr 0
 have hdnr0:=hd.r _ _ (show 1≤2*R by omega) hnl0 hnr0
 have hpn0:=net_pureN U V (nmP rows.flatten 0)
 have hpd0:=net_pureN Ud Vd (D (nmP rows.flatten 0))
 have hpa0:=net_pureN (Ud+U) (Vd+V) (tmL Ud Vd U V (D (nmP rows.flatten 0)) (wtP rows.flatten))
 have hpb0:=net_pureN (Ud+U) (Vd+V) (tmL U V Ud Vd (nmP rows.flatten 0) (D (wtP rows.flatten)))
 have hps0:=net_pureN (Ud+U) (Vd+V) (sgN U V Ud Vd D rows.flatten 0)
 obtain⟨hal0,har0⟩:=sg_m1 h hd 0
 obtain⟨hbl0,hbr0⟩:=sg_m2 h hd 0
 have hA0:=c_prod13 Ud Vd U V (D (nmP rows.flatten 0)) (wtP rows.flatten) hdn0 hwl hud hvd hu3 hv3 (4*R+4) (by omega) (by omega) (fun x hx=>by have:=hdnr0 x hx;omega) (fun x hx=>by have:=hwr x hx;omega)
 have hB0:=c_prod13 U V Ud Vd (nmP rows.flatten 0) (D (wtP rows.flatten)) hnl0 hdw hu3 hv3 hud hvd (4*R+4) (by omega) (by omega) (fun x hx=>by have:=hnr0 x hx;omega) (fun x hx=>by have:=hdwr x hx;omega)
 rw [Nat.add_comm U Ud,Nat.add_comm V Vd] at hB0
 have hS0:=c_tSub13 (Ud+U) (Vd+V) (tmL Ud Vd U V (D (nmP rows.flatten 0)) (wtP rows.flatten)) (tmL U V Ud Vd (nmP rows.flatten 0) (D (wtP rows.flatten))) (by omega) (by omega) hal0 hbl0 (fun x hx=>by have:=har0 x hx;omega) (fun x hx=>by have:=hbr0 x hx;omega)
 have hnl1:=h.nl 1
 have hdn1:=hd.l _ hnl1
 have hnr1:=h.nr 1
 have hdnr1:=hd.r _ _ (show 1≤2*R by omega) hnl1 hnr1
 have hpn1:=net_pureN U V (nmP rows.flatten 1)
 have hpd1:=net_pureN Ud Vd (D (nmP rows.flatten 1))
 have hpa1:=net_pureN (Ud+U) (Vd+V) (tmL Ud Vd U V (D (nmP rows.flatten 1)) (wtP rows.flatten))
 have hpb1:=net_pureN (Ud+U) (Vd+V) (tmL U V Ud Vd (nmP rows.flatten 1) (D (wtP rows.flatten)))
 have hps1:=net_pureN (Ud+U) (Vd+V) (sgN U V Ud Vd D rows.flatten 1)
 obtain⟨hal1,har1⟩:=sg_m1 h hd 1
 obtain⟨hbl1,hbr1⟩:=sg_m2 h hd 1
 have hA1:=c_prod13 Ud Vd U V (D (nmP rows.flatten 1)) (wtP rows.flatten) hdn1 hwl hud hvd hu3 hv3 (4*R+4) (by omega) (by omega) (fun x hx=>by have:=hdnr1 x hx;omega) (fun x hx=>by have:=hwr x hx;omega)
 have hB1:=c_prod13 U V Ud Vd (nmP rows.flatten 1) (D (wtP rows.flatten)) hnl1 hdw hu3 hv3 hud hvd (4*R+4) (by omega) (by omega) (fun x hx=>by have:=hnr1 x hx;omega) (fun x hx=>by have:=hdwr x hx;omega)
 rw [Nat.add_comm U Ud,Nat.add_comm V Vd] at hB1
 have hS1:=c_tSub13 (Ud+U) (Vd+V) (tmL Ud Vd U V (D (nmP rows.flatten 1)) (wtP rows.flatten)) (tmL U V Ud Vd (nmP rows.flatten 1) (D (wtP rows.flatten))) (by omega) (by omega) hal1 hbl1 (fun x hx=>by have:=har1 x hx;omega) (fun x hx=>by have:=hbr1 x hx;omega)
 have hnl2:=h.nl 2
 have hdn2:=hd.l _ hnl2
 have hnr2:=h.nr 2
 have hdnr2:=hd.r _ _ (show 1≤2*R by omega) hnl2 hnr2
 have hpn2:=net_pureN U V (nmP rows.flatten 2)
 have hpd2:=net_pureN Ud Vd (D (nmP rows.flatten 2))
 have hpa2:=net_pureN (Ud+U) (Vd+V) (tmL Ud Vd U V (D (nmP rows.flatten 2)) (wtP rows.flatten))
 have hpb2:=net_pureN (Ud+U) (Vd+V) (tmL U V Ud Vd (nmP rows.flatten 2) (D (wtP rows.flatten)))
 have hps2:=net_pureN (Ud+U) (Vd+V) (sgN U V Ud Vd D rows.flatten 2)
 obtain⟨hal2,har2⟩:=sg_m1 h hd 2
 obtain⟨hbl2,hbr2⟩:=sg_m2 h hd 2
 have hA2:=c_prod13 Ud Vd U V (D (nmP rows.flatten 2)) (wtP rows.flatten) hdn2 hwl hud hvd hu3 hv3 (4*R+4) (by omega) (by omega) (fun x hx=>by have:=hdnr2 x hx;omega) (fun x hx=>by have:=hwr x hx;omega)
 have hB2:=c_prod13 U V Ud Vd (nmP rows.flatten 2) (D (wtP rows.flatten)) hnl2 hdw hu3 hv3 hud hvd (4*R+4) (by omega) (by omega) (fun x hx=>by have:=hnr2 x hx;omega) (fun x hx=>by have:=hdwr x hx;omega)
 rw [Nat.add_comm U Ud,Nat.add_comm V Vd] at hB2
 have hS2:=c_tSub13 (Ud+U) (Vd+V) (tmL Ud Vd U V (D (nmP rows.flatten 2)) (wtP rows.flatten)) (tmL U V Ud Vd (nmP rows.flatten 2) (D (wtP rows.flatten))) (by omega) (by omega) hal2 hbl2 (fun x hx=>by have:=har2 x hx;omega) (fun x hx=>by have:=hbr2 x hx;omega)
 have hfw:=hf (wtP rows.flatten) hwl (fun x hx=>by have:=hwr x hx;omega)
 have hf0:=hf (nmP rows.flatten 0) hnl0 hnr0
 have hf1:=hf (nmP rows.flatten 1) hnl1 hnr1
 have hf2:=hf (nmP rows.flatten 2) hnl2 hnr2
 refine fnP Tryz.func71 (ht:=(fun g=>LV.ren_pure g _ (by simp [LV.pure,pures,pures_map ratE]))) ?_
 refine zg9 ?_
 refine cp am1 (c_PNum U V kU kV rows (by omega) (by omega) R (by omega) h.rw) ?_
 refine zg9 ?_
 refine st_opc [] rfl rfl (.clo (f:=f) (cap:=[]) (args:=[.agg [nI64 U,nI64 V,.list 3 ((wtP rows.flatten).map ratL)]]) rfl (.cons im0 .nil) ⟨rfl,fun _ h=>by cases h⟩ hfw.1 (by decide) (fun _ h=>by cases h)) (hfw.2 _) ?_
 refine zg16 ?_
 refine wl_unroll ?_
 refine zg6 ?_
 refine wl_condX (b:=_) rfl (by decide) ?_
 refine zg10 ?_
 refine wl_regD 16 (by decide +kernel) ?_
 refine zg5 ?_
 refine st_opc [] rfl rfl (.clo (f:=f) (cap:=[]) (args:=[.agg [nI64 U,nI64 V,.list 3 ((nmP rows.flatten 0).map ratL)]]) rfl (.cons im0 .nil) ⟨rfl,fun _ h=>by cases h⟩ hf0.1 (by decide) (fun _ h=>by cases h)) (hf0.2 _) ?_
 refine zg2 ?_
 refine cp am2 (hA0) ?_
 refine zg4 ?_
 refine cp am2 (hB0) ?_
 refine cp am2 (hS0) ?_
 refine zg10 ?_
 refine wl_unroll ?_
 refine zg6 ?_
 refine wl_condX (b:=_) rfl (by decide) ?_
 refine zg10 ?_
 refine wl_regD 16 (by decide +kernel) ?_
 refine zg5 ?_
 refine st_opc [] rfl rfl (.clo (f:=f) (cap:=[]) (args:=[.agg [nI64 U,nI64 V,.list 3 ((nmP rows.flatten 1).map ratL)]]) rfl (.cons im0 .nil) ⟨rfl,fun _ h=>by cases h⟩ hf1.1 (by decide) (fun _ h=>by cases h)) (hf1.2 _) ?_
 refine zg2 ?_
 refine cp am2 (hA1) ?_
 refine zg4 ?_
 refine cp am2 (hB1) ?_
 refine cp am2 (hS1) ?_
 refine zg10 ?_
 refine wl_unroll ?_
 refine zg6 ?_
 refine wl_condX (b:=_) rfl (by decide) ?_
 refine zg10 ?_
 refine wl_regD 16 (by decide +kernel) ?_
 refine zg5 ?_
 refine st_opc [] rfl rfl (.clo (f:=f) (cap:=[]) (args:=[.agg [nI64 U,nI64 V,.list 3 ((nmP rows.flatten 2).map ratL)]]) rfl (.cons im0 .nil) ⟨rfl,fun _ h=>by cases h⟩ hf2.1 (by decide) (fun _ h=>by cases h)) (hf2.2 _) ?_
 refine zg2 ?_
 refine cp am2 (hA2) ?_
 refine zg4 ?_
 refine cp am2 (hB2) ?_
 refine cp am2 (hS2) ?_
 refine zg10 ?_
 refine wl_unroll ?_
 refine zg6 ?_
 refine wl_condY (b:=_) rfl (by decide) ?_
 refine zg12 ?_
 exact retC [] rfl rfl rfl cs (at_all cs rfl) T106 (.pure (by simp [LV.pure,pures,pures_map ratE]))
section
variable {R U V:Nat} {rows:List (List PoR)} (h:pf R U V rows)
include h
theorem pf.pos:0<rows.flatten.length:=by rw [h.len];exact Nat.mul_pos (Nat.succ_pos U) (Nat.succ_pos V)
theorem pf.wlo:0<(bndP (wtP rows.flatten)).1:=by
 have h0:0<(wtP rows.flatten).length:=by rw [wtP_len];exact h.pos
 obtain⟨i,hi,e⟩:=((bk_spec (wtP rows.flatten) (wtP rows.flatten).length).2 h0).1
 show 0<(bkP (wtP rows.flatten) (wtP rows.flatten).length).1
 rw [e]
 obtain⟨q,hq,hw⟩:=List.mem_map.1 (getD_mem (p:=wtP rows.flatten) hi)
 rw [←hw]
 exact(h.fok q hq).2.2
theorem pf.wsq:bdS (2*R) (sqS (bndP (wtP rows.flatten)))∧hasR (sqS (bndP (wtP rows.flatten))) 0=false:=by
 have h0:0<(wtP rows.flatten).length:=by rw [wtP_len];exact h.pos
 exact⟨sqS_bd (bnd_rl h.r1 h.wr) h.r1,(sq_pos h.wlo (bnd_le12 h0)).2⟩
end
def pdv (U V Ud Vd:Nat) (D:List Rat→List Rat) (F:List PoR) (wd x y:Rat):V3 :=
 v3m (1/(wd*(evT U V (wtP F) x y*evT U V (wtP F) x y))) ⟨evT (Ud+U) (Vd+V) (sgN U V Ud Vd D F 0) x y,evT (Ud+U) (Vd+V) (sgN U V Ud Vd D F 1) x y,evT (Ud+U) (Vd+V) (sgN U V Ud Vd D F 2) x y⟩
def psK (U V Ud Vd:Nat) (D:List Rat→List Rat) (F:List PoR) (wd:Rat) (k:Nat):Rat × Rat:=muS (quS (bndP (sgN U V Ud Vd D F k)) (sqS (bndP (wtP F)))) (1/wd,1/wd)
def psB (U V Ud Vd:Nat) (D:List Rat→List Rat) (F:List PoR) (wd:Rat):Bx3:=⟨psK U V Ud Vd D F wd 0,psK U V Ud Vd D F wd 1,psK U V Ud Vd D F wd 2⟩
def bxX (a b:Bx3):Bx3:=⟨sbS (muS a.y b.z) (muS a.z b.y),sbS (muS a.z b.x) (muS a.x b.z),sbS (muS a.x b.y) (muS a.y b.x)⟩
theorem rc_pt (w:Rat):rcS (w,w)=(1/w,1/w):=by
 unfold rcS mnR mxR
 simp only [ite_self]
theorem qu_pt (s:Rat × Rat) (w:Rat):quS s (w,w)=muS s (1/w,1/w):=by unfold quS;rw [rc_pt]
theorem pt_no0 {a b:Rat} (h:a<b):hasR (b-a,b-a) 0=false:=by
 unfold hasR
 rw [decide_eq_false (by show ¬(b-a≤0);grind)];rfl
theorem shX_of {x:Rat} (h:rl x≤8):shX x:=by
 have:=rl_sub 1 x
 have:rl 1=1:=rfl
 unfold shX
 omega
theorem sg_bnd {R U V Ud Vd:Nat} {rows:List (List PoR)} {D:List Rat→List Rat} (h:pf R U V rows) (hd:dfS U V Ud Vd D) (k:Nat):bdS (1800*R+4201) (bndP (sgN U V Ud Vd D rows.flatten k)):=bnd_rl (by omega) (sg_rl h hd k)
theorem psK_bd {R U V Ud Vd:Nat} {rows:List (List PoR)} {D:List Rat→List Rat} (h:pf R U V rows) (hd:dfS U V Ud Vd D) {wd:Rat} (hw:rl wd≤1000) (k:Nat) :
  bdS (1802*R+4202) (quS (bndP (sgN U V Ud Vd D rows.flatten k)) (sqS (bndP (wtP rows.flatten))))∧bdS 1001 (1/wd,1/wd)∧bdS (1802*R+5203) (psK U V Ud Vd D rows.flatten wd k):=by
 have h1:=quS_bd (sg_bnd h hd k) h.wsq.1
 have h2:=rl_div 1 wd
 have h3:rl 1=1:=rfl
 have h4:bdS 1001 (1/wd,1/wd):=⟨by show rl (1/wd)≤_;omega,by show rl (1/wd)≤_;omega⟩
 have h5:bdS (1802*R+4202) (quS (bndP (sgN U V Ud Vd D rows.flatten k)) (sqS (bndP (wtP rows.flatten)))):=h1.le (by omega)
 exact⟨h5,h4,(muS_bd h5 h4).le (by omega)⟩
theorem psB_bd {R U V Ud Vd:Nat} {rows:List (List PoR)} {D:List Rat→List Rat} (h:pf R U V rows) (hd:dfS U V Ud Vd D) {wd:Rat} (hw:rl wd≤1000):bdB (1802*R+5203) (psB U V Ud Vd D rows.flatten wd) :=
 ⟨(psK_bd h hd hw 0).2.2,(psK_bd h hd hw 1).2.2,(psK_bd h hd hw 2).2.2⟩
theorem bxX_bd {S:Nat} {a b:Bx3} (ha:bdB S a) (hb:bdB S b):bdB (4*S+1) (bxX a b):=by
 obtain⟨a1,a2,a3⟩:=ha
 obtain⟨b1,b2,b3⟩:=hb
 have g:∀ p q r s:Rat × Rat,bdS S p→bdS S q→bdS S r→bdS S s→bdS (4*S+1) (sbS (muS p q) (muS r s)):=fun p q r s h1 h2 h3 h4=>(sbS_bd (muS_bd h1 h2) (muS_bd h3 h4)).le (by omega)
 exact⟨g _ _ _ _ a2 b3 a3 b2,g _ _ _ _ a3 b1 a1 b3,g _ _ _ _ a1 b2 a2 b1⟩
structure pdS (Du Dv:Nat) (q:List Rat) (x y:Rat):Prop where
 hl:q.length=(Du+1)*(Dv+1)
 du:Du≤6
 dv:Dv≤6
 qr:∀ t∈q,rl t≤22201
 hx:shX x
 hy:shX y
theorem pdS.e {Du Dv:Nat} {q:List Rat} {x y:Rat} (h:pdS Du Dv q x y):rl (evT Du Dv q x y)≤91200000 :=
 Nat.le_trans (evT_sz h.hl h.du h.dv (by omega:1≤22201) (by omega) h.qr h.hx h.hy).2.2.2.2 (by decide)
theorem pdv_bd {R U V Ud Vd:Nat} {rows:List (List PoR)} {D:List Rat→List Rat} (h:pf R U V rows) (hd:dfS U V Ud Vd D) (hR:R≤10) {wd x y:Rat} (hw:rl wd≤1000) (hx:shX x) (hy:shX y) :
  rl (evT U V (wtP rows.flatten) x y)≤164000∧(∀ k,rl (evT (Ud+U) (Vd+V) (sgN U V Ud Vd D rows.flatten k) x y)≤91200000)∧bd3 100000000 (pdv U V Ud Vd D rows.flatten wd x y):=by
 have h1:rl (evT U V (wtP rows.flatten) x y)≤164000:=by
  have:=(evT_sz h.wl (by have:=h.u3;omega) (by have:=h.v3;omega) h.r1 (by omega) h.wr hx hy).2.2.2.2
  have:4100*(R+30)≤4100*40:=Nat.mul_le_mul_left _ (by omega)
  omega
 have hu:=hd.u
 have hv:=hd.v
 have hu3:=h.u3
 have hv3:=h.v3
 have h2:∀ k,rl (evT (Ud+U) (Vd+V) (sgN U V Ud Vd D rows.flatten k) x y)≤91200000:=fun k =>
  Nat.le_trans (evT_sz (R:=22201) (sg_len h hd k) (by omega) (by omega) (by omega) (by omega) (fun t ht=>by have:=sg_rl h hd k t ht;omega) hx hy).2.2.2.2 (by decide)
 refine⟨h1,h2,?_⟩
 have h3:=rl_mul (evT U V (wtP rows.flatten) x y) (evT U V (wtP rows.flatten) x y)
 have h4:=rl_mul wd (evT U V (wtP rows.flatten) x y*evT U V (wtP rows.flatten) x y)
 have h5:=rl_div 1 (wd*(evT U V (wtP rows.flatten) x y*evT U V (wtP rows.flatten) x y))
 have h6:rl 1=1:=rfl
 have g:∀ k,rl (1/(wd*(evT U V (wtP rows.flatten) x y*evT U V (wtP rows.flatten) x y))*evT (Ud+U) (Vd+V) (sgN U V Ud Vd D rows.flatten k) x y)≤100000000:=fun k=>by
  have:=rl_mul (1/(wd*(evT U V (wtP rows.flatten) x y*evT U V (wtP rows.flatten) x y))) (evT (Ud+U) (Vd+V) (sgN U V Ud Vd D rows.flatten k) x y)
  have:=h2 k
  omega
 exact⟨g 0,g 1,g 2⟩
theorem c_tE13 (Du Dv:Nat) (q:List Rat) (x y:Rat) (h:pdS Du Dv q x y):CallP Tryz.prog 66 [.agg [nI64 Du,nI64 Dv,.list 3 (q.map ratL)],ratL x,ratL y] (ratL (evT Du Dv q x y)):=by
 obtain⟨s1,s2,_⟩:=evT_sz h.hl h.du h.dv (by omega:1≤22201) (by omega) h.qr h.hx h.hy
 have h49:(Du+1)*(Dv+1)≤49:=sq_le h.du h.dv
 exact c_TEval Du Dv q h.hl (by rw [h.hl];omega) (fun t ht=>by have:=h.qr t ht;omega) x y s1 s2
namespace H_c_at13
theorem zSm {p q:Prop} (k:q) (e:p=q:=by simp only [e1,e2,e3,e4,p1,p2,p3,q1,q2,q3,l1,t0,t1,r1,r2,r3,r4,Nat.zero_add,Nat.reduceMul,Nat.reduceAdd,b1,b2,b3,b4,b5,b6,i1,i2,i3,i4,i5,i6,Nat.reduceBEq,prL_kill,kills_map prE,dfr,dfq,take_map_len,map_snoc,len_snoc,List.length_cons,List.length_nil,List.nil_append,List.map_nil,List.take_nil,List.append_nil,List.set_cons_zero,List.set_cons_succ,Nat.reduceEqDiff,reduceIte,if_true,if_false,ptL_kill,poL_kill,kills_map ptE,kills_map poE,kills_map ratE,ratL_kill,spL_kill,LV.kill,kills];exact rfl):p:=e.mpr k
end H_c_at13
open H_c_at13 in
theorem c_at13 (Du Dv:Nat) (ql0 ql1 ql2:List Rat) (wd W x y:Rat) (h0:pdS Du Dv ql0 x y) (h1:pdS Du Dv ql1 x y) (h2:pdS Du Dv ql2 x y) (hw:rl wd≤1000) (hW:rl W≤200000):CallP Tryz.prog 67 [.agg [.agg [nI64 Du,nI64 Dv,.list 3 (ql0.map ratL)],.agg [nI64 Du,nI64 Dv,.list 3 (ql1.map ratL)],.agg [nI64 Du,nI64 Dv,.list 3 (ql2.map ratL)]],ratL wd,.boxp (ratL W),.boxp (ratL x),.boxp (ratL y)] (ptL (v3m (1/(wd*(W*W))) ⟨(evT Du Dv ql0 x y),(evT Du Dv ql1 x y),(evT Du Dv ql2 x y)⟩)):=by
 have hpu:∀ l:List Rat,pures (l.map ratL)=true:=fun l=>pures_map ratE l
 have hpq0:=net_pureN Du Dv ql0
 have hpq1:=net_pureN Du Dv ql1
 have hpq2:=net_pureN Du Dv ql2
 have he0:=h0.e
 have he1:=h1.e
 have he2:=h2.e
 have hp3:LV.pure (.agg [.agg [nI64 Du,nI64 Dv,.list 3 (ql0.map ratL)],.agg [nI64 Du,nI64 Dv,.list 3 (ql1.map ratL)],.agg [nI64 Du,nI64 Dv,.list 3 (ql2.map ratL)]])=true:=by simp [LV.pure,pures,pures_map ratE]
 have m1:=rl_mul W W
 have m2:=rl_mul wd (W*W)
 have m3:=rl_div 1 (wd*(W*W))
 have hr1:rl 1=1:=rfl
 refine fnP Tryz.func67 (ht:=(fun r=>LV.ren_pure r _ (ptE.pure _))) ?_
 refine zg8 ?_
 refine wl_regF 11 [9] (by decide +kernel) ?_
 refine cp am1 (c_RInt 1 (by decide) (by decide)) ?_
 refine zg3 ?_
 refine cp am2 (c_RMul W W (by omega)) ?_
 refine cp am2 (c_RMul wd (W*W) (by omega)) ?_
 refine cp am2 (c_RQuo 1 (wd*(W*W)) (by omega)) ?_
 refine zg21 ?_
 refine wl_unroll ?_
 refine zg6 ?_
 refine wl_condX (b:=_) rfl (by decide) ?_
 refine zg13 ?_
 refine wl_regD 8 (by decide +kernel) ?_
 refine zg5 ?_
 refine cp am3 (c_tE13 Du Dv ql0 x y h0) ?_
 refine cp am2 (c_RMul (1/(wd*(W*W))) (evT Du Dv ql0 x y) (by omega)) ?_
 refine zg5 ?_
 refine wl_regW (Weak.kill _ 12) ?_
 refine zg4 ?_
 refine wl_unroll ?_
 refine zg6 ?_
 refine wl_condX (b:=_) rfl (by decide) ?_
 refine zg13 ?_
 refine wl_regD 8 (by decide +kernel) ?_
 refine zg5 ?_
 refine cp am3 (c_tE13 Du Dv ql1 x y h1) ?_
 refine cp am2 (c_RMul (1/(wd*(W*W))) (evT Du Dv ql1 x y) (by omega)) ?_
 refine zg5 ?_
 refine wl_regW (Weak.kill _ 12) ?_
 refine zg4 ?_
 refine wl_unroll ?_
 refine zg6 ?_
 refine wl_condX (b:=_) rfl (by decide) ?_
 refine zg13 ?_
 refine wl_regD 8 (by decide +kernel) ?_
 refine zg5 ?_
 refine cp am3 (c_tE13 Du Dv ql2 x y h2) ?_
 refine cp am2 (c_RMul (1/(wd*(W*W))) (evT Du Dv ql2 x y) (by omega)) ?_
 refine zg5 ?_
 refine wl_regW (Weak.kill _ 12) ?_
 refine zg4 ?_
 refine wl_unroll ?_
 refine zg6 ?_
 refine wl_condY (b:=_) rfl (by decide) ?_
 refine zg12 ?_
 exact retC [] rfl rfl rfl cs (at_all cs rfl) T31 (.pure pu)
namespace H_c_PDer
theorem zSm {p q:Prop} (k:q) (e:p=q:=by simp only [e1,e2,e3,e4,p1,p2,p3,q1,q2,q3,l1,t0,t1,r1,r2,r3,r4,Nat.zero_add,Nat.reduceMul,Nat.reduceAdd,b1,b2,b3,b4,b5,b6,i1,i2,i3,i4,i5,i6,Nat.reduceBEq,frz_nil,prL_kill,kills_map prE,dfr,dfq,take_map_len,map_snoc,len_snoc,List.length_cons,List.length_nil,List.nil_append,List.map_nil,List.take_nil,List.append_nil,List.set_cons_zero,List.set_cons_succ,Nat.reduceEqDiff,reduceIte,if_true,if_false,ptL_kill,poL_kill,kills_map ptE,kills_map poE,kills_map ratE,ratL_kill,spL_kill,LV.kill,kills];exact rfl):p:=e.mpr k
end H_c_PDer
open H_c_PDer in
theorem c_PDer (R U V:Nat) (ua ub va vb:Rat) (rows:List (List PoR)) (h:pf R U V rows) (hua:rl ua≤100) (hub:rl ub≤100) (hva:rl va≤100) (hvb:rl vb≤100) (hu:ua<ub) (hv:va<vb) (u v x y:Rat) (hu1:rl u≤100) (hv1:rl v≤100) (hx:shX x) (hy:shX y) (ex:(u-ua)/(ub-ua)=x) (ey:(v-va)/(vb-va)=y) (hR:R≤10) (hUi:hasR (ua,ub) u=true) (hVi:hasR (va,vb) v=true):CallP Tryz.prog 16 [.agg [nI64 U,nI64 V,.list 3 ((kn2 U ua ub).map ratL),.list 3 ((kn2 V va vb).map ratL),.list 1 (rows.map prL)],ratL u,ratL v] (.tup [ptL (pdv U V (U-1) V (dfU U V) rows.flatten (ub-ua) x y),ptL (pdv U V U (V-1) (dfV U V) rows.flatten (vb-va) x y),iL 0]):=by
 have hpu:∀ l:List Rat,pures (l.map ratL)=true:=fun l=>pures_map ratE l
 have hsp:LV.pure (.agg [nI64 U,nI64 V,.list 3 ((kn2 U ua ub).map ratL),.list 3 ((kn2 V va vb).map ratL),.list 1 (rows.map prL)])=true:=by simp [LV.pure,pures,pures_map ratE,pures_map prE]
 have hku:=pure_lst ratE 3 (kn2 U ua ub)
 have hkv:=pure_lst ratE 3 (kn2 V va vb)
 have hu3:=h.u3
 have hv3:=h.v3
 have hr1:=h.r1
 have hwd1:=rl_sub ub ua
 have hwd2:=rl_sub vb va
 have hdu:dfS U V (U-1) V (dfU U V):=dfS_U h.u3 h.v3
 have hdv:dfS U V U (V-1) (dfV U V):=dfS_V h.u3 h.v3
 have hqU0:pdS ((U-1)+U) (V+V) (sgN U V (U-1) V (dfU U V) rows.flatten 0) x y:=⟨sg_len h hdu 0,by omega,by omega,fun t ht=>by have:=sg_rl h hdu 0 t ht;omega,hx,hy⟩
 have hqU1:pdS ((U-1)+U) (V+V) (sgN U V (U-1) V (dfU U V) rows.flatten 1) x y:=⟨sg_len h hdu 1,by omega,by omega,fun t ht=>by have:=sg_rl h hdu 1 t ht;omega,hx,hy⟩
 have hqU2:pdS ((U-1)+U) (V+V) (sgN U V (U-1) V (dfU U V) rows.flatten 2) x y:=⟨sg_len h hdu 2,by omega,by omega,fun t ht=>by have:=sg_rl h hdu 2 t ht;omega,hx,hy⟩
 have hqV0:pdS (U+U) ((V-1)+V) (sgN U V U (V-1) (dfV U V) rows.flatten 0) x y:=⟨sg_len h hdv 0,by omega,by omega,fun t ht=>by have:=sg_rl h hdv 0 t ht;omega,hx,hy⟩
 have hqV1:pdS (U+U) ((V-1)+V) (sgN U V U (V-1) (dfV U V) rows.flatten 1) x y:=⟨sg_len h hdv 1,by omega,by omega,fun t ht=>by have:=sg_rl h hdv 1 t ht;omega,hx,hy⟩
 have hqV2:pdS (U+U) ((V-1)+V) (sgN U V U (V-1) (dfV U V) rows.flatten 2) x y:=⟨sg_len h hdv 2,by omega,by omega,fun t ht=>by have:=sg_rl h hdv 2 t ht;omega,hx,hy⟩
 have hpU:LV.pure (.agg [.agg [nI64 ((U-1)+U),nI64 (V+V),.list 3 ((sgN U V (U-1) V (dfU U V) rows.flatten 0).map ratL)],.agg [nI64 ((U-1)+U),nI64 (V+V),.list 3 ((sgN U V (U-1) V (dfU U V) rows.flatten 1).map ratL)],.agg [nI64 ((U-1)+U),nI64 (V+V),.list 3 ((sgN U V (U-1) V (dfU U V) rows.flatten 2).map ratL)]])=true:=by simp [LV.pure,pures,pures_map ratE]
 obtain⟨hWU,hEU,hBU⟩:=pdv_bd h hdu hR (wd:=(ub-ua)) (by omega) hx hy
 have hpV:LV.pure (.agg [.agg [nI64 (U+U),nI64 ((V-1)+V),.list 3 ((sgN U V U (V-1) (dfV U V) rows.flatten 0).map ratL)],.agg [nI64 (U+U),nI64 ((V-1)+V),.list 3 ((sgN U V U (V-1) (dfV U V) rows.flatten 1).map ratL)],.agg [nI64 (U+U),nI64 ((V-1)+V),.list 3 ((sgN U V U (V-1) (dfV U V) rows.flatten 2).map ratL)]])=true:=by simp [LV.pure,pures,pures_map ratE]
 obtain⟨hWV,hEV,hBV⟩:=pdv_bd h hdv hR (wd:=(vb-va)) (by omega) hx hy
 have hqW:pdS U V (wtP rows.flatten) x y:=⟨h.wl,by omega,by omega,fun t ht=>by have:=h.wr t ht;omega,hx,hy⟩
 have hpW:=net_pureN U V (wtP rows.flatten)
 have hO1:=c_Pown ua ub u hua hub hu hu1 hUi
 have hO2:=c_Pown va vb v hva hvb hv hv1 hVi
 rw [ex] at hO1
 rw [ey] at hO2
 have hbp:pures [.boxp (ratL (evT U V (wtP rows.flatten) x y)),.boxp (ratL x),.boxp (ratL y)]=true:=by simp [pures,LV.pure,ratE.pure]
 have hAU:=c_at13 ((U-1)+U) (V+V) (sgN U V (U-1) V (dfU U V) rows.flatten 0) (sgN U V (U-1) V (dfU U V) rows.flatten 1) (sgN U V (U-1) V (dfU U V) rows.flatten 2) (ub-ua) (evT U V (wtP rows.flatten) x y) x y hqU0 hqU1 hqU2 (by omega) (by omega)
 have hTU:=c_turns13 R U V (U-1) V (kn2 U ua ub) (kn2 V va vb) rows h (by omega) (dfU U V) hdu 72 (fun c hc hr=>c_DiffU U V c hc (by rw [hc];have:=sq_le3 hu3 hv3;omega) (fun t ht=>by have:=hr t ht;omega) (by omega))
 have hAV:=c_at13 (U+U) ((V-1)+V) (sgN U V U (V-1) (dfV U V) rows.flatten 0) (sgN U V U (V-1) (dfV U V) rows.flatten 1) (sgN U V U (V-1) (dfV U V) rows.flatten 2) (vb-va) (evT U V (wtP rows.flatten) x y) x y hqV0 hqV1 hqV2 (by omega) (by omega)
 have hTV:=c_turns13 R U V U (V-1) (kn2 U ua ub) (kn2 V va vb) rows h (by omega) (dfV U V) hdv 73 (fun c hc hr=>c_DiffV U V c hc (by rw [hc];have:=sq_le3 hu3 hv3;omega) (fun t ht=>by have:=hr t ht;omega) (by omega))
 refine fnP Tryz.func16 (ht:=(tame3 (ptE.pure _) (ptE.pure _) rfl)) ?_
 refine zg13 ?_
 refine cp am1 (c_PDom U V ua ub va vb rows hua hub hva hvb hu hv (by omega) (by omega)) ?_
 refine zg13 ?_
 refine cp am2 (hO1) ?_
 refine zg15 ?_
 refine cp am2 (hO2) ?_
 refine zg17 ?_
 refine st_pure (guardX (v:=false) rfl rfl ((rfl)) rfl) (.move _) ?_
 refine st_pure (guardX (v:=false) rfl rfl ((rfl)) rfl) (.not rfl) ?_
 refine st_pure rfl (.pickF rfl ((rfl))) ?_
 refine zg2 ?_
 refine wl_condY (b:=_) rfl (rfl) ?_
 refine zg3 ?_
 refine wl_regD 7 (by decide +kernel) ?_
 refine zg1 ?_
 refine cp am1 (c_PNum U V (kn2 U ua ub) (kn2 V va vb) rows (by omega) (by omega) R (by omega) h.rw) ?_
 refine zg3 ?_
 refine cp am3 (c_tE13 U V (wtP rows.flatten) x y hqW) ?_
 refine zg6 ?_
 refine st_opc [17,11,14] rfl rfl (.mk (caps:=[.boxp (ratL (evT U V (wtP rows.flatten) x y)),.boxp (ratL x),.boxp (ratL y)]) (.cons (.eptr rfl rfl rfl (ratE.csize _) (ratL_all _) (ratE.pure _) rfl) (.cons (.eptr rfl rfl rfl (ratE.csize _) (ratL_all _) (ratE.pure _) rfl) (.cons (.eptr rfl rfl rfl (ratE.csize _) (ratL_all _) (ratE.pure _) rfl) .nil))) (fun x hx=>by simp only [List.mem_cons,List.not_mem_nil,or_false] at hx;rcases hx with rfl | rfl | rfl<;>exact⟨rfl,rfl⟩)) rfl ?_
 refine zg4 ?_
 refine wl_regD 10 (by decide +kernel) ?_
 refine zg2 ?_
 refine cp am2 (hTU) ?_
 refine zg1 ?_
 refine st_opc [] rfl rfl (.clo (f:=67) (cap:=[.boxp (ratL (evT U V (wtP rows.flatten) x y)),.boxp (ratL x),.boxp (ratL y)]) (args:=[.agg [.agg [nI64 ((U-1)+U),nI64 (V+V),.list 3 ((sgN U V (U-1) V (dfU U V) rows.flatten 0).map ratL)],.agg [nI64 ((U-1)+U),nI64 (V+V),.list 3 ((sgN U V (U-1) V (dfU U V) rows.flatten 1).map ratL)],.agg [nI64 ((U-1)+U),nI64 (V+V),.list 3 ((sgN U V (U-1) V (dfU U V) rows.flatten 2).map ratL)]],ratL (ub-ua)]) rfl (.cons im0 (.cons im0 .nil)) ⟨hbp,(fun x hx=>by simp only [List.mem_cons,List.not_mem_nil,or_false] at hx;rcases hx with rfl | rfl | rfl<;>exact⟨rfl,rfl⟩)⟩ hAU.1 (by decide) (fun _ h=>by cases h)) (hAU.2 _) ?_
 refine zg2 ?_
 refine cp am2 (hTV) ?_
 refine zg1 ?_
 refine st_opc [] rfl rfl (.clo (f:=67) (cap:=[.boxp (ratL (evT U V (wtP rows.flatten) x y)),.boxp (ratL x),.boxp (ratL y)]) (args:=[.agg [.agg [nI64 (U+U),nI64 ((V-1)+V),.list 3 ((sgN U V U (V-1) (dfV U V) rows.flatten 0).map ratL)],.agg [nI64 (U+U),nI64 ((V-1)+V),.list 3 ((sgN U V U (V-1) (dfV U V) rows.flatten 1).map ratL)],.agg [nI64 (U+U),nI64 ((V-1)+V),.list 3 ((sgN U V U (V-1) (dfV U V) rows.flatten 2).map ratL)]],ratL (vb-va)]) rfl (.cons im0 (.cons im0 .nil)) ⟨hbp,(fun x hx=>by simp only [List.mem_cons,List.not_mem_nil,or_false] at hx;rcases hx with rfl | rfl | rfl<;>exact⟨rfl,rfl⟩)⟩ hAV.1 (by decide) (fun _ h=>by cases h)) (hAV.2 _) ?_
 refine zg6 ?_
 exact retCCT [] rfl rfl rfl cs (at_all cs rfl) T31 (.pure pu) rfl rfl cs (at_all cs rfl) T31 (.pure pu) rfl (.pure rfl)
namespace H_c_PNor
theorem zSm {p q:Prop} (k:q) (e:p=q:=by simp only [e1,e2,e3,e4,p1,p2,p3,q1,q2,q3,l1,t0,t1,r1,r2,r3,r4,Nat.zero_add,Nat.reduceMul,Nat.reduceAdd,b1,b2,b3,b4,b5,b6,i1,i2,i3,i4,i5,i6,Nat.reduceBEq,prL_kill,kills_map prE,dfr,dfq,take_map_len,map_snoc,len_snoc,List.length_cons,List.length_nil,List.nil_append,List.map_nil,List.take_nil,List.append_nil,List.set_cons_zero,List.set_cons_succ,Nat.reduceEqDiff,reduceIte,if_true,if_false,ptL_kill,poL_kill,kills_map ptE,kills_map poE,kills_map ratE,ratL_kill,spL_kill,LV.kill,kills];exact rfl):p:=e.mpr k
end H_c_PNor
open H_c_PNor in
theorem c_PNor (U V:Nat) (kU kV:List Rat) (rows:List (List PoR)) (u v:Rat) (a b:V3) (e:Int) (ha:bd3 100000000 a) (hb:bd3 100000000 b) (hD:CallP Tryz.prog 16 [.agg [nI64 U,nI64 V,.list 3 (kU.map ratL),.list 3 (kV.map ratL),.list 1 (rows.map prL)],ratL u,ratL v] (.tup [ptL a,ptL b,iL e])):CallP Tryz.prog 14 [.agg [nI64 U,nI64 V,.list 3 (kU.map ratL),.list 3 (kV.map ratL),.list 1 (rows.map prL)],ratL u,ratL v] (.tup [ptL (v3x a b),iL e]):=by
 have hsp:LV.pure (.agg [nI64 U,nI64 V,.list 3 (kU.map ratL),.list 3 (kV.map ratL),.list 1 (rows.map prL)])=true:=by simp [LV.pure,pures,pures_map ratE,pures_map prE]
 refine fnP Tryz.func14 (ht:=(tame2 (ptE.pure _) rfl)) ?_
 refine zg14 ?_
 refine cp am3 (hD) ?_
 refine zg15 ?_
 refine cp am2 (c_VCross a b 100000000 (by decide) ha hb) ?_
 refine zg6 ?_
 exact retCT [] rfl rfl rfl cs (at_all cs rfl) T31 (.pure pu) rfl (.pure rfl)
namespace H_c_box13
theorem zSm {p q:Prop} (k:q) (e:p=q:=by simp only [e1,e2,e3,e4,p1,p2,p3,q1,q2,q3,l1,t0,t1,r1,r2,r3,r4,Nat.zero_add,Nat.reduceMul,Nat.reduceAdd,b1,b2,b3,b4,b5,b6,i1,i2,i3,i4,i5,i6,Nat.reduceBEq,prL_kill,kills_map prE,dfr,dfq,take_map_len,map_snoc,len_snoc,List.length_cons,List.length_nil,List.nil_append,List.map_nil,List.take_nil,List.append_nil,List.set_cons_zero,List.set_cons_succ,Nat.reduceEqDiff,reduceIte,if_true,if_false,ptL_kill,poL_kill,kills_map ptE,kills_map poE,kills_map ratE,ratL_kill,spL_kill,LV.kill,kills];exact rfl):p:=e.mpr k
end H_c_box13
open H_c_box13 in
theorem c_box13 (Du Dv:Nat) (ql0 ql1 ql2:List Rat) (a b:Rat) (w:Rat × Rat) (S:Nat) (hS1:1≤S) (hS:S≤49000000) (ha:rl a≤100) (hb:rl b≤100) (hab:a<b) (hw:bdS S w) (hz:hasR w 0=false) (hl0:ql0.length≤49) (hr0:∀ t∈ql0,rl t≤S) (hl1:ql1.length≤49) (hr1:∀ t∈ql1,rl t≤S) (hl2:ql2.length≤49) (hr2:∀ t∈ql2,rl t≤S):CallP Tryz.prog 107 [.agg [.agg [nI64 Du,nI64 Dv,.list 3 (ql0.map ratL)],.agg [nI64 Du,nI64 Dv,.list 3 (ql1.map ratL)],.agg [nI64 Du,nI64 Dv,.list 3 (ql2.map ratL)]],spL (a,b),.boxp (spL w)] (bxL ⟨(muS (quS (bndP ql0) w) (1/(b-a),1/(b-a))),(muS (quS (bndP ql1) w) (1/(b-a),1/(b-a))),(muS (quS (bndP ql2) w) (1/(b-a),1/(b-a)))⟩):=by
 have hpu:∀ l:List Rat,pures (l.map ratL)=true:=fun l=>pures_map ratE l
 have hpq0:=net_pureN Du Dv ql0
 have hpq1:=net_pureN Du Dv ql1
 have hpq2:=net_pureN Du Dv ql2
 have hp3:LV.pure (.agg [.agg [nI64 Du,nI64 Dv,.list 3 (ql0.map ratL)],.agg [nI64 Du,nI64 Dv,.list 3 (ql1.map ratL)],.agg [nI64 Du,nI64 Dv,.list 3 (ql2.map ratL)]])=true:=by simp [LV.pure,pures,pures_map ratE]
 have hwd:=rl_sub b a
 have hpt:bdS (2*S+1001) (b-a,b-a):=⟨by show rl (b-a)≤_;omega,by show rl (b-a)≤_;omega⟩
 have hbn0:=bnd_rl hS1 hr0
 have hqb0:bdS (2*S+1001) (quS (bndP ql0) w):=(quS_bd hbn0 hw).le (by omega)
 have hz0:=c_SQuo (quS (bndP ql0) w) (b-a,b-a) (2*S+1001) (by omega) hqb0 hpt (pt_no0 hab)
 rw [qu_pt] at hz0
 have hbn1:=bnd_rl hS1 hr1
 have hqb1:bdS (2*S+1001) (quS (bndP ql1) w):=(quS_bd hbn1 hw).le (by omega)
 have hz1:=c_SQuo (quS (bndP ql1) w) (b-a,b-a) (2*S+1001) (by omega) hqb1 hpt (pt_no0 hab)
 rw [qu_pt] at hz1
 have hbn2:=bnd_rl hS1 hr2
 have hqb2:bdS (2*S+1001) (quS (bndP ql2) w):=(quS_bd hbn2 hw).le (by omega)
 have hz2:=c_SQuo (quS (bndP ql2) w) (b-a,b-a) (2*S+1001) (by omega) hqb2 hpt (pt_no0 hab)
 rw [qu_pt] at hz2
 refine fnP Tryz.func107 (ht:=(fun r=>LV.ren_pure r _ (bxE.pure _))) ?_
 refine zg20 ?_
 refine wl_unroll ?_
 refine zg6 ?_
 refine wl_condX (b:=_) rfl (by decide) ?_
 refine zg14 ?_
 refine wl_regF 8 [6] (by decide +kernel) ?_
 refine zg1 ?_
 refine cp am1 (c_TBnd Du Dv ql0 (by omega) (fun t ht=>by have:=hr0 t ht;omega)) ?_
 refine zg1 ?_
 refine cp am2 (c_SQuo (bndP ql0) w S (by omega) hbn0 hw hz) ?_
 refine zg8 ?_
 refine wl_regF 10 [8] (by decide +kernel) ?_
 refine zg3 ?_
 refine cp am1 (c_SWidth (a,b) (by show rl b+rl a≤_;omega)) ?_
 refine cp am1 (c_SPoint (b-a) (by omega)) ?_
 refine cp am2 (hz0) ?_
 refine zg8 ?_
 refine wl_regW ((Weak.kill _ 9).trans (Weak.kill _ 8)) ?_
 refine zg4 ?_
 refine wl_unroll ?_
 refine zg6 ?_
 refine wl_condX (b:=_) rfl (by decide) ?_
 refine zg14 ?_
 refine wl_regF 8 [6] (by decide +kernel) ?_
 refine zg1 ?_
 refine cp am1 (c_TBnd Du Dv ql1 (by omega) (fun t ht=>by have:=hr1 t ht;omega)) ?_
 refine zg1 ?_
 refine cp am2 (c_SQuo (bndP ql1) w S (by omega) hbn1 hw hz) ?_
 refine zg8 ?_
 refine wl_regF 10 [8] (by decide +kernel) ?_
 refine zg3 ?_
 refine cp am1 (c_SWidth (a,b) (by show rl b+rl a≤_;omega)) ?_
 refine cp am1 (c_SPoint (b-a) (by omega)) ?_
 refine cp am2 (hz1) ?_
 refine zg8 ?_
 refine wl_regW ((Weak.kill _ 9).trans (Weak.kill _ 8)) ?_
 refine zg4 ?_
 refine wl_unroll ?_
 refine zg6 ?_
 refine wl_condX (b:=_) rfl (by decide) ?_
 refine zg14 ?_
 refine wl_regF 8 [6] (by decide +kernel) ?_
 refine zg1 ?_
 refine cp am1 (c_TBnd Du Dv ql2 (by omega) (fun t ht=>by have:=hr2 t ht;omega)) ?_
 refine zg1 ?_
 refine cp am2 (c_SQuo (bndP ql2) w S (by omega) hbn2 hw hz) ?_
 refine zg8 ?_
 refine wl_regF 10 [8] (by decide +kernel) ?_
 refine zg3 ?_
 refine cp am1 (c_SWidth (a,b) (by show rl b+rl a≤_;omega)) ?_
 refine cp am1 (c_SPoint (b-a) (by omega)) ?_
 refine cp am2 (hz2) ?_
 refine zg8 ?_
 refine wl_regW ((Weak.kill _ 9).trans (Weak.kill _ 8)) ?_
 refine zg4 ?_
 refine wl_unroll ?_
 refine zg6 ?_
 refine wl_condY (b:=_) rfl (by decide) ?_
 refine zg12 ?_
 exact retC [] rfl rfl rfl cs (at_all cs rfl) T74 (.pure pu)
namespace H_c_PSpd
theorem zSm {p q:Prop} (k:q) (e:p=q:=by simp only [e1,e2,e3,e4,p1,p2,p3,q1,q2,q3,l1,t0,t1,r1,r2,r3,r4,Nat.zero_add,Nat.reduceMul,Nat.reduceAdd,b1,b2,b3,b4,b5,b6,i1,i2,i3,i4,i5,i6,Nat.reduceBEq,frz_nil,prL_kill,kills_map prE,dfr,dfq,take_map_len,map_snoc,len_snoc,List.length_cons,List.length_nil,List.nil_append,List.map_nil,List.take_nil,List.append_nil,List.set_cons_zero,List.set_cons_succ,Nat.reduceEqDiff,reduceIte,if_true,if_false,ptL_kill,poL_kill,kills_map ptE,kills_map poE,kills_map ratE,ratL_kill,spL_kill,LV.kill,kills];exact rfl):p:=e.mpr k
end H_c_PSpd
open H_c_PSpd in
theorem c_PSpd (R U V:Nat) (ua ub va vb:Rat) (rows:List (List PoR)) (h:pf R U V rows) (hua:rl ua≤100) (hub:rl ub≤100) (hva:rl va≤100) (hvb:rl vb≤100) (hu:ua<ub) (hv:va<vb) (hR:R≤20000):CallP Tryz.prog 40 [.agg [nI64 U,nI64 V,.list 3 ((kn2 U ua ub).map ratL),.list 3 ((kn2 V va vb).map ratL),.list 1 (rows.map prL)]] (.tup [bxL (psB U V (U-1) V (dfU U V) rows.flatten (ub-ua)),bxL (psB U V U (V-1) (dfV U V) rows.flatten (vb-va))]):=by
 have hpu:∀ l:List Rat,pures (l.map ratL)=true:=fun l=>pures_map ratE l
 have hsp:LV.pure (.agg [nI64 U,nI64 V,.list 3 ((kn2 U ua ub).map ratL),.list 3 ((kn2 V va vb).map ratL),.list 1 (rows.map prL)])=true:=by simp [LV.pure,pures,pures_map ratE,pures_map prE]
 have hku:=pure_lst ratE 3 (kn2 U ua ub)
 have hkv:=pure_lst ratE 3 (kn2 V va vb)
 have hu3:=h.u3
 have hv3:=h.v3
 have hr1:=h.r1
 have hwd1:=rl_sub ub ua
 have hwd2:=rl_sub vb va
 have hdu:dfS U V (U-1) V (dfU U V):=dfS_U h.u3 h.v3
 have hdv:dfS U V U (V-1) (dfV U V):=dfS_V h.u3 h.v3
 have hwq:=h.wsq
 have hwb:=bnd_rl h.r1 h.wr
 have hwl:=h.wl
 have h49:=sq_le3 hu3 hv3
 have hw49:(wtP rows.flatten).length≤49:=by omega
 have hpW:=net_pureN U V (wtP rows.flatten)
 have hpU:LV.pure (.agg [.agg [nI64 ((U-1)+U),nI64 (V+V),.list 3 ((sgN U V (U-1) V (dfU U V) rows.flatten 0).map ratL)],.agg [nI64 ((U-1)+U),nI64 (V+V),.list 3 ((sgN U V (U-1) V (dfU U V) rows.flatten 1).map ratL)],.agg [nI64 ((U-1)+U),nI64 (V+V),.list 3 ((sgN U V (U-1) V (dfU U V) rows.flatten 2).map ratL)]])=true:=by simp [LV.pure,pures,pures_map ratE]
 have hpV:LV.pure (.agg [.agg [nI64 (U+U),nI64 ((V-1)+V),.list 3 ((sgN U V U (V-1) (dfV U V) rows.flatten 0).map ratL)],.agg [nI64 (U+U),nI64 ((V-1)+V),.list 3 ((sgN U V U (V-1) (dfV U V) rows.flatten 1).map ratL)],.agg [nI64 (U+U),nI64 ((V-1)+V),.list 3 ((sgN U V U (V-1) (dfV U V) rows.flatten 2).map ratL)]])=true:=by simp [LV.pure,pures,pures_map ratE]
 have hbp:pures [.boxp (spL (sqS (bndP (wtP rows.flatten))))]=true:=by simp [pures,LV.pure,spE.pure]
 have hAU:=c_box13 ((U-1)+U) (V+V) (sgN U V (U-1) V (dfU U V) rows.flatten 0) (sgN U V (U-1) V (dfU U V) rows.flatten 1) (sgN U V (U-1) V (dfU U V) rows.flatten 2) ua ub (sqS (bndP (wtP rows.flatten))) (1800*R+4201) (by omega) (by omega) hua hub hu (hwq.1.le (by omega)) hwq.2 (sg_l49 h hdu 0) (sg_rl h hdu 0) (sg_l49 h hdu 1) (sg_rl h hdu 1) (sg_l49 h hdu 2) (sg_rl h hdu 2)
 have hTU:=c_turns13 R U V (U-1) V (kn2 U ua ub) (kn2 V va vb) rows h (by omega) (dfU U V) hdu 72 (fun c hc hr=>c_DiffU U V c hc (by rw [hc];have:=sq_le3 hu3 hv3;omega) (fun t ht=>by have:=hr t ht;omega) (by omega))
 have hAV:=c_box13 (U+U) ((V-1)+V) (sgN U V U (V-1) (dfV U V) rows.flatten 0) (sgN U V U (V-1) (dfV U V) rows.flatten 1) (sgN U V U (V-1) (dfV U V) rows.flatten 2) va vb (sqS (bndP (wtP rows.flatten))) (1800*R+4201) (by omega) (by omega) hva hvb hv (hwq.1.le (by omega)) hwq.2 (sg_l49 h hdv 0) (sg_rl h hdv 0) (sg_l49 h hdv 1) (sg_rl h hdv 1) (sg_l49 h hdv 2) (sg_rl h hdv 2)
 have hTV:=c_turns13 R U V U (V-1) (kn2 U ua ub) (kn2 V va vb) rows h (by omega) (dfV U V) hdv 73 (fun c hc hr=>c_DiffV U V c hc (by rw [hc];have:=sq_le3 hu3 hv3;omega) (fun t ht=>by have:=hr t ht;omega) (by omega))
 refine fnP Tryz.func40 (ht:=(tame2 (bxE.pure _) (bxE.pure _))) ?_
 refine zg10 ?_
 refine cp am1 (c_PNum U V (kn2 U ua ub) (kn2 V va vb) rows (by omega) (by omega) R (by omega) h.rw) ?_
 refine zg1 ?_
 refine cp am1 (c_TBnd U V (wtP rows.flatten) (by omega) (fun t ht=>by have:=h.wr t ht;omega)) ?_
 refine cp am1 (c_SSqr (bndP (wtP rows.flatten)) R (by omega) hwb) ?_
 refine zg6 ?_
 refine st_opc [4] rfl rfl (.mk (caps:=[.boxp (spL (sqS (bndP (wtP rows.flatten))))]) (.cons (.eptr rfl rfl rfl (spE.csize _) (spL_all _) (spE.pure _) rfl) .nil) (fun x hx=>by rw [List.mem_singleton.1 hx];exact⟨rfl,rfl⟩)) rfl ?_
 refine zg6 ?_
 refine cp am1 (c_PDom U V ua ub va vb rows hua hub hva hvb hu hv (by omega) (by omega)) ?_
 refine zg10 ?_
 refine wl_regD 10 (by decide +kernel) ?_
 refine zg2 ?_
 refine cp am2 (hTU) ?_
 refine zg1 ?_
 refine st_opc [] rfl rfl (.clo (f:=107) (cap:=[.boxp (spL (sqS (bndP (wtP rows.flatten))))]) (args:=[.agg [.agg [nI64 ((U-1)+U),nI64 (V+V),.list 3 ((sgN U V (U-1) V (dfU U V) rows.flatten 0).map ratL)],.agg [nI64 ((U-1)+U),nI64 (V+V),.list 3 ((sgN U V (U-1) V (dfU U V) rows.flatten 1).map ratL)],.agg [nI64 ((U-1)+U),nI64 (V+V),.list 3 ((sgN U V (U-1) V (dfU U V) rows.flatten 2).map ratL)]],spL (ua,ub)]) rfl (.cons im0 (.cons im0 .nil)) ⟨hbp,(fun x hx=>by rw [List.mem_singleton.1 hx];exact⟨rfl,rfl⟩)⟩ hAU.1 (by decide) (fun _ h=>by cases h)) (hAU.2 _) ?_
 refine zg2 ?_
 refine cp am2 (hTV) ?_
 refine zg1 ?_
 refine st_opc [] rfl rfl (.clo (f:=107) (cap:=[.boxp (spL (sqS (bndP (wtP rows.flatten))))]) (args:=[.agg [.agg [nI64 (U+U),nI64 ((V-1)+V),.list 3 ((sgN U V U (V-1) (dfV U V) rows.flatten 0).map ratL)],.agg [nI64 (U+U),nI64 ((V-1)+V),.list 3 ((sgN U V U (V-1) (dfV U V) rows.flatten 1).map ratL)],.agg [nI64 (U+U),nI64 ((V-1)+V),.list 3 ((sgN U V U (V-1) (dfV U V) rows.flatten 2).map ratL)]],spL (va,vb)]) rfl (.cons im0 (.cons im0 .nil)) ⟨hbp,(fun x hx=>by rw [List.mem_singleton.1 hx];exact⟨rfl,rfl⟩)⟩ hAV.1 (by decide) (fun _ h=>by cases h)) (hAV.2 _) ?_
 refine zg5 ?_
 exact retCC [] rfl rfl rfl cs (at_all cs rfl) T74 (.pure pu) rfl rfl cs (at_all cs rfl) T74 (.pure pu)
namespace H_c_PNors
theorem zSm {p q:Prop} (k:q) (e:p=q:=by simp only [e1,e2,e3,e4,p1,p2,p3,q1,q2,q3,l1,t0,t1,r1,r2,r3,r4,Nat.zero_add,Nat.reduceMul,Nat.reduceAdd,b1,b2,b3,b4,b5,b6,i1,i2,i3,i4,i5,i6,Nat.reduceBEq,prL_kill,kills_map prE,dfr,dfq,take_map_len,map_snoc,len_snoc,List.length_cons,List.length_nil,List.nil_append,List.map_nil,List.take_nil,List.append_nil,List.set_cons_zero,List.set_cons_succ,Nat.reduceEqDiff,reduceIte,if_true,if_false,ptL_kill,poL_kill,kills_map ptE,kills_map poE,kills_map ratE,ratL_kill,spL_kill,LV.kill,kills];exact rfl):p:=e.mpr k
end H_c_PNors
open H_c_PNors in
theorem c_PNors (U V:Nat) (kU kV:List Rat) (rows:List (List PoR)) (a b:Bx3) (S:Nat) (hS:S≤100000000) (ha:bdB S a) (hb:bdB S b) (hD:CallP Tryz.prog 40 [.agg [nI64 U,nI64 V,.list 3 (kU.map ratL),.list 3 (kV.map ratL),.list 1 (rows.map prL)]] (.tup [bxL a,bxL b])):CallP Tryz.prog 42 [.agg [nI64 U,nI64 V,.list 3 (kU.map ratL),.list 3 (kV.map ratL),.list 1 (rows.map prL)]] (bxL (bxX a b)):=by
 have hsp:LV.pure (.agg [nI64 U,nI64 V,.list 3 (kU.map ratL),.list 3 (kV.map ratL),.list 1 (rows.map prL)])=true:=by simp [LV.pure,pures,pures_map ratE,pures_map prE]
 obtain⟨a1,a2,a3⟩:=ha
 obtain⟨y1,y2,y3⟩:=hb
 have m01:=muS_bd a1 y2
 have m02:=muS_bd a1 y3
 have m10:=muS_bd a2 y1
 have m12:=muS_bd a2 y3
 have m20:=muS_bd a3 y1
 have m21:=muS_bd a3 y2
 refine fnP Tryz.func42 (ht:=(fun r=>LV.ren_pure r _ (bxE.pure _))) ?_
 refine zg9 ?_
 refine cp am1 (hD) ?_
 refine zg21 ?_
 refine wl_unroll ?_
 refine zg6 ?_
 refine wl_condX (b:=_) rfl (by decide) ?_
 refine zg13 ?_
 refine st_pure rfl (.bin rfl rfl (show binI .add .i64 0 1=some (.int .i64 ((1:Nat):Int)) from rfl)) ?_
 refine st_pure rfl (.bin rfl rfl (show binI .rem .i64 1 3=some (.int .i64 ((1:Nat):Int)) from rfl)) ?_
 refine zg1 ?_
 refine st_pure rfl (.bin rfl rfl (show binI .add .i64 0 2=some (.int .i64 ((2:Nat):Int)) from rfl)) ?_
 refine st_pure rfl (.bin rfl rfl (show binI .rem .i64 2 3=some (.int .i64 ((2:Nat):Int)) from rfl)) ?_
 refine zg4 ?_
 refine wl_regD 17 (by decide +kernel) ?_
 refine zg7 ?_
 refine cp am2 (c_SMul a.y b.z S (by omega) a2 y3) ?_
 refine zg6 ?_
 refine cp am2 (c_SMul a.z b.y S (by omega) a3 y2) ?_
 refine cp am2 (c_SSub (muS a.y b.z) (muS a.z b.y) (S+S) (by omega) m12 m21) ?_
 refine zg10 ?_
 refine wl_unroll ?_
 refine zg6 ?_
 refine wl_condX (b:=_) rfl (by decide) ?_
 refine zg13 ?_
 refine st_pure rfl (.bin rfl rfl (show binI .add .i64 1 1=some (.int .i64 ((2:Nat):Int)) from rfl)) ?_
 refine st_pure rfl (.bin rfl rfl (show binI .rem .i64 2 3=some (.int .i64 ((2:Nat):Int)) from rfl)) ?_
 refine zg1 ?_
 refine st_pure rfl (.bin rfl rfl (show binI .add .i64 1 2=some (.int .i64 ((3:Nat):Int)) from rfl)) ?_
 refine st_pure rfl (.bin rfl rfl (show binI .rem .i64 3 3=some (.int .i64 ((0:Nat):Int)) from rfl)) ?_
 refine zg4 ?_
 refine wl_regD 17 (by decide +kernel) ?_
 refine zg7 ?_
 refine cp am2 (c_SMul a.z b.x S (by omega) a3 y1) ?_
 refine zg6 ?_
 refine cp am2 (c_SMul a.x b.z S (by omega) a1 y3) ?_
 refine cp am2 (c_SSub (muS a.z b.x) (muS a.x b.z) (S+S) (by omega) m20 m02) ?_
 refine zg10 ?_
 refine wl_unroll ?_
 refine zg6 ?_
 refine wl_condX (b:=_) rfl (by decide) ?_
 refine zg13 ?_
 refine st_pure rfl (.bin rfl rfl (show binI .add .i64 2 1=some (.int .i64 ((3:Nat):Int)) from rfl)) ?_
 refine st_pure rfl (.bin rfl rfl (show binI .rem .i64 3 3=some (.int .i64 ((0:Nat):Int)) from rfl)) ?_
 refine zg1 ?_
 refine st_pure rfl (.bin rfl rfl (show binI .add .i64 2 2=some (.int .i64 ((4:Nat):Int)) from rfl)) ?_
 refine st_pure rfl (.bin rfl rfl (show binI .rem .i64 4 3=some (.int .i64 ((1:Nat):Int)) from rfl)) ?_
 refine zg4 ?_
 refine wl_regD 17 (by decide +kernel) ?_
 refine zg7 ?_
 refine cp am2 (c_SMul a.x b.y S (by omega) a1 y2) ?_
 refine zg6 ?_
 refine cp am2 (c_SMul a.y b.x S (by omega) a2 y1) ?_
 refine cp am2 (c_SSub (muS a.x b.y) (muS a.y b.x) (S+S) (by omega) m01 m10) ?_
 refine zg10 ?_
 refine wl_unroll ?_
 refine zg6 ?_
 refine wl_condY (b:=_) rfl (by decide) ?_
 refine zg12 ?_
 exact retC [] rfl rfl rfl cs (at_all cs rfl) T74 (.pure pu)
end Go.Proofs.YtfpdccbgngdhkaaGreat
end
