/- Texts Y22 of this proof, joined. -/
import Derived.Test.YtfpdccbgngdhkaaGreatQL7
set_option linter.unusedVariables false
set_option linter.unusedSimpArgs false
section
set_option linter.unusedVariables false
set_option linter.unusedSimpArgs false
set_option maxHeartbeats 8000000
set_option maxRecDepth 100000
attribute [local irreducible] Go.Lg.opsL Go.Lg.wpL Go.Lg.thenL Go.Lg.blockL
namespace Go.Proofs.YtfpdccbgngdhkaaGreat
open Go.Lg
end Go.Proofs.YtfpdccbgngdhkaaGreat
namespace Go.Lg
theorem bI.cellI {L:St} (b:Nat) (bs:List Nat) (h0:bs.contains 0=false) {sz:Nat} {x y:LV} {mt:Bool} (hb:(L.frz bs).heap b=some ⟨sz,[x],mt⟩) (hi:Imm (L.frz bs).heap x y):bI L ((L.frz bs).setB b (some ⟨sz,[y],mt⟩)):=by
 rintro n W X Z0 a w ⟨hdf,hsz,μ,Z,hc0,hr⟩
 obtain⟨Z',hc,hz⟩:=hc0.widen (kM bs h0)
 refine⟨hdf,hsz,μ,Z',?_,fun s=>bZ.mono hz (fun _ _ h=>h) (Frame.refl Z μ w) (hr s)⟩
 have hs:∀ c,((L.frz bs).setB b (some ⟨sz,[y],mt⟩)).heap c=if c=b then some ⟨sz,[y],mt⟩ else(L.frz bs).heap c:=fun c=>rfl
 refine⟨hc.keep,hc.zone,hc.zsup,hc.zsub,hc.inj,hc.own,hc.x0,hc.xlt,hc.x1,fun c id blk g1 g2=>?_,fun c id blk g1 g2=>?_,fun c id g1=>?_⟩
 ·rw [hs] at g2
  split at g2
  ·rename_i e;subst e;cases g2;exact hc.mutz c id ⟨sz,[x],mt⟩ g1 hb
  ·exact hc.mutz c id blk g1 g2
 ·rw [hs] at g2
  split at g2
  ·rename_i e;subst e;cases g2;exact hc.frz c id ⟨sz,[x],mt⟩ g1 hb
  ·exact hc.frz c id blk g1 g2
 ·obtain⟨blk,k1,k2⟩:=hc.heap c id g1
  rw [hs]
  by_cases e:c=b
  ·subst e
   rw [if_pos rfl]
   rw [hb] at k1
   cases k1
   refine⟨_,rfl,?_⟩
   obtain⟨cs,T,part,rest,e1,e2,e3⟩:=k2
   refine⟨cs,T,part,rest,e1,e2,?_⟩
   simp only [aQ] at e3 ⊢
   obtain⟨c1,c2,q1,q2,q3,q4⟩:=e3
   exact⟨c1,c2,q1,q2,Imm.sound (μ':=μ) hc hi q3,q4⟩
  ·rw [if_neg e];exact⟨blk,k1,k2⟩
end Go.Lg
namespace Go.Proofs.YtfpdccbgngdhkaaGreat
open Go.Lg
def w6 (o:List (List PoR)) (i j:Nat) (p:V3):List (List PoR):=o.set i ((o.getD i []).set j ⟨p,((o.getD i []).getD j default).w⟩)
theorem aFB (o:List (List PoR)) (i j:Nat) (p:V3):(w6 o i j p).length=o.length:=by simp [w6]
theorem aDQ {R U V:Nat} {o:List (List PoR)} {i j:Nat} {p:V3} (h:pf R U V o) (hi:i≤U) (hj:j≤V) (hp:jF R p):pf R U V (w6 o i j p):=by
 have hr:=h.r0 hi
 have hm:o.getD i []∈o:=dZ (by rw [h.n];omega)
 refine⟨h.r1,h.rB,h.u1,h.u3,h.v1,h.v3,by rw [aFB,h.n],fun r hx=>?_,fun r hx q hq=>?_⟩
 ·rcases List.mem_or_eq_of_mem_set hx with hx | rfl
  ·exact h.m r hx
  ·rw [List.length_set,hr]
 ·rcases List.mem_or_eq_of_mem_set hx with hx | rfl
  ·exact h.ok r hx q hq
  ·rcases List.mem_or_eq_of_mem_set hq with hq | rfl
   ·exact h.ok _ hm q hq
   ·have:=h.ok _ hm _ (fY (j:=j) (by rw [hr];omega))
    exact⟨hp,this.2⟩
theorem wD {o:List (List PoR)} {i j a:Nat} {p:V3} (h:a≠i):dK (w6 o i j p) a=dK o a:=by
 simp [dK,w6,List.getD_eq_getElem?_getD,List.getElem?_set_ne (Ne.symm h)]
theorem yQ {o:List (List PoR)} {i j:Nat} {p:V3} (h:i<o.length):dK (w6 o i j p) i=⟨12,(dK o i).vals.set j (gZ ⟨p,((o.getD i []).getD j default).w⟩),true⟩:=by
 simp [dK,w6,List.getD_eq_getElem?_getD,List.getElem?_set_self h,List.map_set]
theorem sC {o:List (List PoR)} {i j:Nat} (h:j<(o.getD i []).length):(dK o i).vals[j]?=some (gZ ((o.getD i []).getD j default)):=by
 have e:(o.getD i [])[j]?=some ((o.getD i []).getD j default):=by
  rw [List.getD_eq_getElem?_getD (l:=o.getD i []),List.getElem?_eq_getElem h];rfl
 show ((o.getD i []).map gZ)[j]?=_
 rw [List.getElem?_map,e];rfl
def hpR (b7 b8 bO:Blk) (o:List (List PoR)):List (Nat × Blk):=[(7,b7),(1000433,bO),(1000434,dK o 0),(1000435,dK o 1),(1000436,dK o 2),(1000437,dK o 3),(8,b8)]
theorem rW {b7 b8 bO:Blk} {o:List (List PoR)} {k:Nat} (h:k<4):hp (hpR b7 b8 bO o) (1000434+k)=some (dK o k):=by
 rcases(show k=0∨k=1∨k=2∨k=3 by omega) with rfl | rfl | rfl | rfl<;>rfl
theorem aBq {b7 b8 bO v:Blk} {o o':List (List PoR)} {k:Nat} (h:k<4) (hv:v=dK o' k) (ho:∀ a,a≠k→dK o' a=dK o a):hp (ins (1000434+k) v (hpR b7 b8 bO o))=hp (hpR b7 b8 bO o'):=by
 subst hv
 rcases(show k=0∨k=1∨k=2∨k=3 by omega) with rfl | rfl | rfl | rfl
 ·show hp [(7,b7),(1000433,bO),(1000434,dK o' 0),(1000435,dK o 1),(1000436,dK o 2),(1000437,dK o 3),(8,b8)]=_
  rw [←ho 1 (by decide),←ho 2 (by decide),←ho 3 (by decide)];rfl
 ·show hp [(7,b7),(1000433,bO),(1000434,dK o 0),(1000435,dK o' 1),(1000436,dK o 2),(1000437,dK o 3),(8,b8)]=_
  rw [←ho 0 (by decide),←ho 2 (by decide),←ho 3 (by decide)];rfl
 ·show hp [(7,b7),(1000433,bO),(1000434,dK o 0),(1000435,dK o 1),(1000436,dK o' 2),(1000437,dK o 3),(8,b8)]=_
  rw [←ho 0 (by decide),←ho 1 (by decide),←ho 3 (by decide)];rfl
 ·show hp [(7,b7),(1000433,bO),(1000434,dK o 0),(1000435,dK o 1),(1000436,dK o 2),(1000437,dK o' 3),(8,b8)]=_
  rw [←ho 0 (by decide),←ho 1 (by decide),←ho 2 (by decide)];rfl
theorem aDI {H:dA}:∀ (xs ys:List LV),xs.length=ys.length→(∀ (i:Nat) (x y:LV),xs[i]?=some x→ys[i]?=some y→Imm H x y)→ImmL H xs ys
 | [],[],_,_=>.nil
 | [],_ :: _,h,_=>by simp at h
 | _ :: _,[],h,_=>by simp at h
 | x :: xs,y :: ys,h,k=>.cons (k 0 x y rfl rfl) (aDI xs ys (by simpa using h) fun i a b ha hb=>k (i+1) a b (by simpa using ha) (by simpa using hb))
theorem bI.rows {L:St} {b7 bO:Blk} {x y z u:LV} {o:List (List PoR)} {U V:Nat} (hn:o.length=U+1) (hu:U≤3) (hm:∀ r∈o,r.length=V+1) (hx:x.pure=true) (hy:y.pure=true) (hz:z.pure=true) (hq:u.pure=true) (h7:aY b7.vals=true)
  (hO:bO=⟨1,kJ 1000434 (V+1) (U+1),true⟩) (hL:L.heap=hp (hpR b7 ⟨5,[.agg [x,y,z,u,.ref 1000433 1 0 (U+1)]],true⟩ bO o)) :
  bI L ⟨fun t=>(((((L.slot t).kill 1000433).kill 1000434).kill 1000435).kill 1000436).kill 1000437,hp [(7,b7),(8,⟨5,[.agg [x,y,z,u,.list 1 (o.map cM)]],true⟩)]⟩:=by
 subst hO
 have hf:∀ c,(L.frz [1000433,1000434,1000435,1000436,1000437]).heap c=(hp (hpR b7 ⟨5,[.agg [x,y,z,u,.ref 1000433 1 0 (U+1)]],true⟩ ⟨1,kJ 1000434 (V+1) (U+1),true⟩ o) c).map fun blk=>⟨blk.sz,blk.vals,blk.mt && !([1000433,1000434,1000435,1000436,1000437]:List Nat).contains c⟩:=fun c=>by simp only [St.frz,hL]
 have hb8:(L.frz [1000433,1000434,1000435,1000436,1000437]).heap 8=some ⟨5,[.agg [x,y,z,u,.ref 1000433 1 0 (U+1)]],true⟩:=by rw [hf];rfl
 have hbO:(L.frz [1000433,1000434,1000435,1000436,1000437]).heap 1000433=some ⟨1,kJ 1000434 (V+1) (U+1),false⟩:=by rw [hf];rfl
 have hbR:∀ k,k<4→(L.frz [1000433,1000434,1000435,1000436,1000437]).heap (1000434+k)=some ⟨12,(o.getD k []).map gZ,false⟩:=fun k hk=>by
  rw [hf,rW hk]
  rcases(show k=0∨k=1∨k=2∨k=3 by omega) with rfl | rfl | rfl | rfl<;>rfl
 have hi:Imm (L.frz [1000433,1000434,1000435,1000436,1000437]).heap (.ref 1000433 1 0 (U+1)) (.list 1 (o.map cM)):=by
  refine .refI hbO rfl (by rw [sL];omega) rfl ?_
  rw [List.drop_zero,aBo]
  refine aDI _ _ (by rw [sL,List.length_map,hn]) fun i a b ha hb=>?_
  have hi:i<U+1:=by have:=(List.getElem?_eq_some_iff.1 ha).1;rwa [sL] at this
  rw [qD hi] at ha
  cases ha
  have hlt:i<o.length:=by omega
  rw [List.getElem?_map,List.getElem?_eq_getElem hlt] at hb
  simp only [Option.map_some,Option.some.injEq] at hb
  subst hb
  have hr:(o.getD i []).length=V+1:=hm _ (dZ hlt)
  have he:o[i]=o.getD i []:=by simp [List.getD_eq_getElem?_getD,List.getElem?_eq_getElem hlt]
  have:=Imm.ref (off:=0) (len:=V+1) (sz:=12) (hbR i (by omega)) rfl (aH eI _) (by rw [List.length_map,hr];omega) rfl
  rw [List.drop_zero,List.take_of_length_le (by rw [List.length_map,hr];exact Nat.le_refl _)] at this
  rw [he]
  exact this
 have e1:=bI.cellI (L:=L) 8 [1000433,1000434,1000435,1000436,1000437] rfl hb8 (.agg (.cons (.pure hx) (.cons (.pure hy) (.cons (.pure hz) (.cons (.pure hq) (.cons hi .nil))))))
 refine e1.trans ((bI.kill _ 1000433).trans ((bI.kill _ 1000434).trans ((bI.kill _ 1000435).trans ((bI.kill _ 1000436).trans ((bI.kill _ 1000437).trans (bI.of_eq ?_))))))
 have hpl:aY [LV.agg [x,y,z,u,.list 1 (o.map cM)]]=true:=by simp [aY,LV.pure,hx,hy,hz,hq,aH gY]
 have k8:∀ c,bB c [LV.agg [x,y,z,u,.list 1 (o.map cM)]]=[LV.agg [x,y,z,u,.list 1 (o.map cM)]]:=fun c=>kY c _ hpl
 have k7:∀ c,bB c b7.vals=b7.vals:=fun c=>kY c _ h7
 have hl:((L.frz [1000433,1000434,1000435,1000436,1000437]).setB 8 (some ⟨5,[.agg [x,y,z,u,.list 1 (o.map cM)]],true⟩))=St.mk L.slot (hp (ins 8 ⟨5,[.agg [x,y,z,u,.list 1 (o.map cM)]],true⟩ (z9 [1000433,1000434,1000435,1000436,1000437] (hpR b7 ⟨5,[.agg [x,y,z,u,.ref 1000433 1 0 (U+1)]],true⟩ ⟨1,kJ 1000434 (V+1) (U+1),true⟩ o)))):=by
  simp only [St.setB,St.mk.injEq]
  refine⟨rfl,?_⟩
  funext c
  rw [aCF,aCy,hf]
 rw [hl]
 simp only [b3,St.mk.injEq,true_and]
 have hbq:∀ a b:Nat,Nat.beq a b=(a==b):=fun a b=>by rw [Bool.eq_iff_iff,Nat.beq_eq,beq_iff_eq]
 simp only [hpR,z9,ins,jY,hbq,Nat.reduceBEq,cond_true,cond_false,k8,k7,List.contains_cons,List.contains_nil,Bool.or_false,Bool.false_or,Bool.not_false,Bool.and_true]
theorem aI6 (l:List Int) (hl5:l.length≤500):∃ (U V J:Nat) (kU kV:List Rat) (rows:List (List PoR)) (e:Int),
  gH Tryz.prog 11 ⟨2,[fJ l 0],true⟩ [.eptr 0 2 0 0,aE 2,aE 2] (.agg [aE U,aE V,.list 3 (kU.map ratL),.list 3 (kV.map ratL),.list 1 (rows.map cM)]) ⟨2,[fJ l J],true⟩ ∧
  aM Tryz.prog 29 [.agg [aE U,aE V,.list 3 (kU.map ratL),.list 3 (kV.map ratL),.list 1 (rows.map cM)]] (iL e)∧aM Tryz.prog 30 [.agg [aE U,aE V,.list 3 (kU.map ratL),.list 3 (kV.map ratL),.list 1 (rows.map cM)]] (iL e):=by
 have h:=aEZ l (k:=0) (n:=2) (m:=2) hl5 (Nat.zero_le 500) (by decide) (by decide) (by decide)
 have h1:=h.rl
 have h2:=h.lu
 have h3:=h.lv
 have hq:∀ r∈sR l 0 2 2,∀ q∈r,pY 64 q:=fun r hr q hx=>((h.rk r hr).2 q hx).le (by decide)
 exact⟨_,_,_,_,_,_,pcE (sU l 0 2) (sV l 0 2) (sR l 0 2 2),aCB l 0 hl5 2 (by decide) (by decide) 2 (by decide) (Nat.zero_le _),
  aIG _ _ _ _ _ h.ku h.kv (by omega) (fun r hr=>by have:=(h.rk r hr).1;omega) hq,aFC _ _ _ _ _ h.ku h.kv (by omega) (fun r hr=>by have:=(h.rk r hr).1;omega) hq⟩
theorem aEC (l:List Int) (hl5:l.length≤500):∃ (U V J:Nat) (kU kV:List Rat) (rows:List (List PoR)),pf 4 U V rows∧kOK kU U∧kOK kV V∧kU.length=2*(U+1)∧kV.length=2*(V+1) ∧
  f3 Tryz.prog 22 [.list 1 (l.map lJ)] (.agg [aE U,aE V,.list 3 (kU.map ratL),.list 3 (kV.map ratL),.ref 1 1 0 (U+1)]) [⟨1,kJ 2 (V+1) (U+1),true⟩,dK rows 0,dK rows 1,dK rows 2,dK rows 3,
   ⟨5,[.agg [aE U,aE V,.list 3 (kU.map ratL),.list 3 (kV.map ratL),.ref 1 1 0 (U+1)]],true⟩,⟨5,[.agg [aE U,aE V,.list 3 (kU.map ratL),.list 3 (kV.map ratL),.ref 1 1 0 (U+1)]],true⟩,⟨2,[fJ l J],true⟩,⟨5,[.agg [aE U,aE V,.list 3 (kU.map ratL),.list 3 (kV.map ratL),.ref 1 1 0 (U+1)]],true⟩]:=by
 have h:=aEZ l (k:=0) (n:=3) (m:=0) hl5 (Nat.zero_le 500) (by decide) (by decide) (by decide)
 have ha:sA l 0 3 0=sU l 0 3+1:=by unfold sA;rw [aBH]
 have hb:sB l 0 3 0=sV l 0 3+1:=by unfold sB;rw [aBH]
 have hu:=h.ku
 have hv:=h.kv
 have h2:=h.lu
 have h3:=h.lv
 rw [aGW l 0 3] at hu h2
 rw [aGT l 0 3] at hv h3
 have hM:=aEF l hl5
 rw [ha,hb] at hM
 exact⟨_,_,_,_,_,_,aNr (n:=3) hl5 (Nat.zero_le 500) (by decide) (by decide),hu,hv,by omega,by omega,hM⟩
theorem aGK (U V:Nat) (kU kV:List Rat) (o:List (List PoR)) (h:pf 4 U V o):∃ (q:Rat) (e:Int),rl q≤100000000 ∧
  aM Tryz.prog 27 [.agg [aE U,aE V,.list 3 (kU.map ratL),.list 3 (kV.map ratL),.list 1 (o.map cM)]] (.tup [ratL q,iL e])∧aM Tryz.prog 28 [.agg [aE U,aE V,.list 3 (kU.map ratL),.list 3 (kV.map ratL),.list 1 (o.map cM)]] (.tup [ratL q,iL e]):=by
 cases hz:l6 (d7 ((o.getD 0 []).getD 0 default).p ((o.getD U []).getD 0 default).p ((o.getD 0 []).getD V default).p) ⟨0,0,0⟩ with
 | true=>exact⟨0,9,by decide +kernel,aFZ 4 U V kU kV o h (by decide) hz,aEv 4 U V kU kV o h (by decide) hz⟩
 | false =>
  have hu:=h.u3
  have hv:=h.v3
  have hn:=h.thb
  have hp0:=h.pt (i:=0) (j:=0) (Nat.zero_le _) (Nat.zero_le _)
  have hd:=rI hn hp0
  refine⟨_,0,?_,aDJ 4 U V kU kV o h (by decide) hz,aFP 4 U V kU kV o h (by decide) hz⟩
  have hdr:rl (fL (d7 ((o.getD 0 []).getD 0 default).p ((o.getD U []).getD 0 default).p ((o.getD 0 []).getD V default).p) ((o.getD 0 []).getD 0 default).p)≤27*4+31:=by omega
  have hfa:=aCi hn hdr h.fa (o.flatten.map (·.p)).length
  rw [List.take_length] at hfa
  have hdd:=rI hn hn
  exact Nat.le_trans (pQ _ _) (by omega)
theorem aJg (U V:Nat) (kU kV:List Rat) (o:List (List PoR)) (h:pf 4 U V o) (hkU:kOK kU U) (hkV:kOK kV V) (hlU:kU.length=2*(U+1)) (hlV:kV.length=2*(V+1)) :
  ∃ (q:Rat) (e:Int) (X:Bx3) (n0 n1 n2 n3:List Rat) (b0 b1 b2 b3:Bool),rl q≤100000000∧bdB 1000000 X∧(∀ c∈[n0,n1,n2,n3],c.length≤1048576∧∀ x∈c,rl x≤137438953472) ∧
  aM Tryz.prog 24 [.agg [aE U,aE V,.list 3 (kU.map ratL),.list 3 (kV.map ratL),.list 1 (o.map cM)]] (.agg [.agg [aE U,aE V,.list 3 (n0.map ratL)],.agg [aE U,aE V,.list 3 (n1.map ratL)],.agg [aE U,aE V,.list 3 (n2.map ratL)],.agg [aE U,aE V,.list 3 (n3.map ratL)]]) ∧
  aM Tryz.prog 25 [.agg [aE U,aE V,.list 3 (kU.map ratL),.list 3 (kV.map ratL),.list 1 (o.map cM)]] (.agg [.agg [aE U,aE V,.list 3 (n0.map ratL)],.agg [aE U,aE V,.list 3 (n1.map ratL)],.agg [aE U,aE V,.list 3 (n2.map ratL)],.agg [aE U,aE V,.list 3 (n3.map ratL)]]) ∧
  aM Tryz.prog 27 [.agg [aE U,aE V,.list 3 (kU.map ratL),.list 3 (kV.map ratL),.list 1 (o.map cM)]] (.tup [ratL q,iL e])∧aM Tryz.prog 28 [.agg [aE U,aE V,.list 3 (kU.map ratL),.list 3 (kV.map ratL),.list 1 (o.map cM)]] (.tup [ratL q,iL e]) ∧
  aM Tryz.prog 29 [.agg [aE U,aE V,.list 3 (kU.map ratL),.list 3 (kV.map ratL),.list 1 (o.map cM)]] (iL 0) ∧
  aM Tryz.prog 33 [.agg [aE U,aE V,.list 3 (kU.map ratL),.list 3 (kV.map ratL),.list 1 (o.map cM)]] (bxL X)∧aM Tryz.prog 34 [.agg [aE U,aE V,.list 3 (kU.map ratL),.list 3 (kV.map ratL),.list 1 (o.map cM)]] (bxL X) ∧
  aM Tryz.prog 35 [.agg [aE U,aE V,.list 3 (kU.map ratL),.list 3 (kV.map ratL),.list 1 (o.map cM)]] (.agg [bL b0,bL b1,bL b2,bL b3])∧aM Tryz.prog 36 [.agg [aE U,aE V,.list 3 (kU.map ratL),.list 3 (kV.map ratL),.list 1 (o.map cM)]] (.agg [bL b0,bL b1,bL b2,bL b3]):=by
 obtain⟨q,e,hq,hF1,hF2⟩:=aGK U V kU kV o h
 have hu:=h.u3
 have hv:=h.v3
 have hl:=h.l16
 have hn:=h.n
 have hpos:=h.pos
 have hB:bdB 4 (bxP (o.flatten.map (·.p))):=by
  have hw:=fun k=>aCD (l:=o.flatten.map (·.p)) (R:=4) (fun i hi=>h.fp hi) k ((o.flatten.map (·.p)).length-1) (by rw [List.length_map];omega)
  exact⟨hw 0,hw 1,hw 2⟩
 have hlen:=h.len
 refine⟨q,e,_,f7 o.flatten 0,f7 o.flatten 1,f7 o.flatten 2,gI o.flatten,_,_,_,_,hq,hB.le (by decide),?_,aDi U V kU kV o (by omega) (by omega) 4 (by decide) h.rw,aId U V kU kV o (by omega) (by omega) 4 (by decide) h.rw,hF1,hF2,
  aGU U V kU kV o hkU hkV (by omega) (fun r hr=>by rw [h.m r hr];omega) (fun r hr p hp=>(h.ok r hr p hp).le (by decide)) hn (h.r0 (Nat.zero_le _)),aK2 4 U V kU kV o h (by decide),aJo 4 U V kU kV o h (by decide),
  aHQ 4 U V kU kV o h (by decide) (by omega) (by omega),aEB 4 U V kU kV o h (by decide) (by omega) (by omega)⟩
 intro c hc
 simp only [List.mem_cons,List.not_mem_nil,or_false] at hc
 have hN:=fun k=>h.nl k
 have hW:=h.wl
 rcases hc with rfl | rfl | rfl | rfl
 ·exact⟨by rw [fI];omega,fun x hx=>Nat.le_trans (h.nr 0 x hx) (by decide)⟩
 ·exact⟨by rw [fI];omega,fun x hx=>Nat.le_trans (h.nr 1 x hx) (by decide)⟩
 ·exact⟨by rw [fI];omega,fun x hx=>Nat.le_trans (h.nr 2 x hx) (by decide)⟩
 ·exact⟨by rw [k9];omega,fun x hx=>Nat.le_trans (h.wr x hx) (by decide)⟩
namespace Zq93
theorem dG {p q:Prop} (k:q) (e:p=q:=by simp only [e1,e2,e3,e4,p1,p2,p3,q1,q2,q3,l1,t0,t1,r1,r2,r3,r4,Nat.zero_add,Nat.reduceMul,Nat.reduceAdd,b1,b2,b3,b4,b5,b6,i1,i2,i3,i4,i5,i6,Nat.reduceBEq,ek0,ek1,ek2,ek3,pT,aKk,aJR,aJZ,aKi,aJY,aKn,aKu,aJ5,aJV,aDE,aJQ,aA1,aA2,yC,Nat.reduceMul,Nat.reduceAdd,fW,fz0,aDp,aAw,rfk,Nat.zero_add,Int.toNat_natCast,dS,aC gY,gB,gW,bJ,cI,bQ,List.length_cons,List.length_nil,List.nil_append,List.map_nil,List.take_nil,List.append_nil,List.set_cons_zero,List.set_cons_succ,Nat.reduceEqDiff,reduceIte,if_true,if_false,bG,bF,aC fF,aC eI,aC aD,aS,aZ,LV.kill,bB];exact rfl):p:=e.mpr k
end Zq93
open Zq93 in
theorem zC (l:List Int) (w a:Int) (hl:l.length≤9223372036854775807∧∀ n∈l,-9223372036854775808≤n∧n≤9223372036854775807) (hw:-9223372036854775808≤w∧w≤9223372036854775807) (ha:-9223372036854775808≤a∧a≤9223372036854775807):aM Tryz.prog 4 [.list 1 (l.map lJ),iL w,iL a] (bL true):=by
 have hlt:=hl.1
 refine dI Tryz.func4 ?_
 have ek0:True:=trivial
 have ek1:True:=trivial
 have ek2:True:=trivial
 have ek3:True:=trivial
 refine dU ?_
 refine cp dC (aIm l hlt) ?_
 refine cP ?_
 refine aK rfl (fun h21r h21=>?_) (fun h21r h21=>?_)
 ·refine cY ?_
  refine cp am0 (yD) ?_
  refine dR ?_
  exact bM rfl (.pure rfl)
 ·have hl5:l.length≤500:=by simpa using h21
  obtain⟨xU,xV,xJ,xkU,xkV,xr,xe,hX,hX1,hX2⟩:=aI6 l hl5
  obtain⟨U,V,J,kU,kV,R0,hp0,hkU,hkV,hlU,hlV,hM⟩:=aEC l hl5
  have hcx:LV.pure (.agg [aE xU,aE xV,.list 3 (xkU.map ratL),.list 3 (xkV.map ratL),.list 1 (xr.map cM)])=true:=by simp [LV.pure,aY,aH aD,aH gY]
  have hu3:=hp0.u3
  have hv3:=hp0.v3
  obtain⟨k,hk,hk1⟩:∃ k:Nat,a % ((U+1:Nat):Int)=k∧k<U+1:=by
   have e1:=Int.emod_nonneg a (show ((U+1:Nat):Int)≠0 by omega)
   have e2:=Int.emod_lt_of_pos a (show (0:Int)<((U+1:Nat):Int) by omega)
   exact⟨(a % ((U+1:Nat):Int)).toNat,by omega,by omega⟩
  have hU4:U+1≤4:=by have:=hp0.u3;omega
  have ek0:bB 1000438 (kJ 1000434 (V+1) (U+1))=kJ 1000434 (V+1) (U+1):=l7 _ (.inr (by omega))
  have ek1:bB 1000439 (kJ 1000434 (V+1) (U+1))=kJ 1000434 (V+1) (U+1):=l7 _ (.inr (by omega))
  have ek2:bB 1000440 (kJ 1000434 (V+1) (U+1))=kJ 1000434 (V+1) (U+1):=l7 _ (.inr (by omega))
  have ek3:bB 1000441 (kJ 1000434 (V+1) (U+1))=kJ 1000434 (V+1) (U+1):=l7 _ (.inr (by omega))
  have hMk:aM Tryz.prog 23 [iL a,aE (U+1)] (aE k):=by
   have:=aGo a ((U+1:Nat):Int) (by omega) (by omega)
   rwa [hk] at this
  refine dR ?_
  refine lE [] rfl rfl (.cons kR .nil) (aFX l) (aR l 0) rfl ?_
  refine cG 1000385 rfl rfl rfl (aR l _) (.cons .ptr (.cons (.imm (.pure rfl)) (.cons (.imm (.pure rfl)) .nil))) .ptr hX rfl (aR l _) hcx ?_
  refine dR ?_
  refine aHt 1 (bI.kill _ 1000385) ?_
  simp only [List.take_succ_cons,List.take_zero]
  refine bE ?_
  try refine dG ?_
  refine zG rfl (aE5 27 rfl (.cons kR .nil) hM (by simp) (fun k hk=>aJ6 (by intro x hx;simp at hx;unfold bP;omega))) ?_
  simp only [List.drop_succ_cons,List.drop_zero]
  refine dR ?_
  refine bR ((((bI.kill _ 1000438).trans (bI.kill _ 1000439)).trans (bI.kill _ 1000440)).trans (bI.kill _ 1000441)) ?_
  refine cO ?_
  refine cp b9 (hMk) ?_
  refine dL ?_
  refine cp b9 (aGo w 4 (by decide) (by decide)) ?_
  refine dU ?_
  refine eB (fun L=>∃ (o:List (List PoR)) (L1:St),(pf 4 U V o)∧L=(((St.mk L1.slot (hp [(7,⟨5,[.agg [aE xU,aE xV,.list 3 (xkU.map ratL),.list 3 (xkV.map ratL),.list 1 (xr.map cM)]],true⟩),(1000433,⟨1,kJ 1000434 (V+1) (U+1),true⟩),(1000434,(dK o 0)),(1000435,(dK o 1)),(1000436,(dK o 2)),(1000437,(dK o 3)),(8,⟨5,[.agg [aE U,aE V,.list 3 (kU.map ratL),.list 3 (kV.map ratL),.ref 1000433 1 0 (U+1)]],true⟩)])).put (some 7) (.eptr 7 5 0 0)).put (some 8) (.eptr 8 5 0 0))) ?_ ?_
  ·refine aK rfl (fun h35r h35=>?_) (fun h35r h35=>?_)
   ·refine dB ?_
    refine nD (fun(j:Nat) (o:List (List PoR)) L=>(((((St.mk L.slot (hp [(7,⟨5,[.agg [aE xU,aE xV,.list 3 (xkU.map ratL),.list 3 (xkV.map ratL),.list 1 (xr.map cM)]],true⟩),(1000433,⟨1,kJ 1000434 (V+1) (U+1),true⟩),(1000434,(dK o 0)),(1000435,(dK o 1)),(1000436,(dK o 2)),(1000437,(dK o 3)),(8,⟨5,[.agg [aE U,aE V,.list 3 (kU.map ratL),.list 3 (kV.map ratL),.ref 1000433 1 0 (U+1)]],true⟩)])).put (some 7) (.eptr 7 5 0 0)).put (some 8) (.eptr 8 5 0 0)).put (some 9) (aE k)).put (some 10) (aE j))) (fun j o=>j≤V+1∧pf 4 U V o) (fun j o=>V+1-j) 0 R0 ⟨Nat.zero_le _,hp0⟩ ?_
    rintro j o L1 ⟨hj,ho⟩
    refine dL ?_
    try refine dG ?_
    refine aB rfl (.idxR rfl Tryz.underlying37 T60 rfl (by omega) (by omega)) ?_
    try refine dG ?_
    refine aB rfl (.loadE (b:=1000433) (sz:=1) (i:=k) (o:=0) (x:=.ref (1000434+k) 12 0 (V+1)) (r:=.ref (1000434+k) 12 0 (V+1)) rfl rfl rfl (qD (by omega)) rfl rfl T60) ?_
    refine cO ?_
    refine aK rfl (fun h44r h44=>?_) (fun h44r h44=>?_)
    ·have on:=ho.n
     have u3:=ho.u3
     have v3:=ho.v3
     have hj2:j<V+1:=by omega
     have hrk:=ho.r0 (i:=k) (by omega)
     refine cO ?_
     refine aP 16 (by decide +kernel) ?_
     refine cP ?_
     try refine dG ?_
     refine aB rfl (.idxR rfl Tryz.underlying37 T60 rfl (by omega) (by omega)) ?_
     try refine dG ?_
     refine aB rfl (.loadE (b:=1000433) (sz:=1) (i:=k) (o:=0) (x:=.ref (1000434+k) 12 0 (V+1)) (r:=.ref (1000434+k) 12 0 (V+1)) rfl rfl rfl (qD (by omega)) rfl rfl T60) ?_
     refine cO ?_
     try refine dG ?_
     refine aB rfl (.idxR rfl Tryz.underlying37 T60 rfl (by omega) (by omega)) ?_
     try refine dG ?_
     refine aB rfl (.loadE (b:=1000433) (sz:=1) (i:=k) (o:=0) (x:=.ref (1000434+k) 12 0 (V+1)) (r:=.ref (1000434+k) 12 0 (V+1)) rfl rfl rfl (qD (by omega)) rfl rfl T60) ?_
     try refine dG ?_
     refine aB rfl (.idxR rfl Tryz.underlying60 uC rfl (by omega) (by omega)) ?_
     refine bE ?_
     try refine dG ?_
     refine aB rfl (.loadE (b:=1000434+k) (sz:=12) (i:=0) (o:=0) (x:=gZ ((o.getD k []).getD 0 default)) (r:=fA ((o.getD k []).getD 0 default).p) (n:=9) (ag:=true) rfl (rW (b7:=⟨5,[.agg [aE xU,aE xV,.list 3 (xkU.map ratL),.list 3 (xkV.map ratL),.list 1 (xr.map cM)]],true⟩) (b8:=⟨5,[.agg [aE U,aE V,.list 3 (kU.map ratL),.list 3 (kV.map ratL),.ref 1000433 1 0 (U+1)]],true⟩) (bO:=⟨1,kJ 1000434 (V+1) (U+1),true⟩) (o:=o) (k:=k) (by omega)) rfl (sC (by omega)) (eI.csize _) atp sW) ?_
     try refine dG ?_
     refine aB rfl (.idxR rfl Tryz.underlying60 uC rfl (by omega) (by omega)) ?_
     refine bE ?_
     try refine dG ?_
     refine bD rfl (.store (b:=1000434+k) (sz:=12) (i:=j) (o:=0) (y:=gZ ((o.getD k []).getD j default)) (y':=gZ ⟨((o.getD k []).getD 0 default).p,((o.getD k []).getD j default).w⟩) rfl (rW (k:=k) (by omega)) rfl rfl (sC (by omega)) (eI.csize _) (by show LV.put (gZ _) 0 (fA ((o.getD k []).getD 0 default).p)=some _;exact ptp) (by show cF _ _ (LV.csize (fA ((o.getD k []).getD 0 default).p)) (LV.isAgg (fA ((o.getD k []).getD 0 default).p));rw [fF.csize,fF.isAgg];exact sW) (by show fA ((o.getD k []).getD 0 default).p≠.any∧∀ l,fA ((o.getD k []).getD 0 default).p≠.tup l;exact⟨by simp [fA],by simp [fA]⟩)) ?_
     refine dR ?_
     refine aB rfl (.bin rfl rfl (bV (by omega))) ?_
     refine cP ?_
     exact lI (j+1) (w6 o k j ((o.getD k []).getD 0 default).p) ⟨by omega,aDQ ho (by omega) (by omega) (ho.pt (by omega) (Nat.zero_le _))⟩ (he:=bI.of_eq (aA (aA (aA (aA (bC (aBq (b7:=⟨5,[.agg [aE xU,aE xV,.list 3 (xkU.map ratL),.list 3 (xkV.map ratL),.list 1 (xr.map cM)]],true⟩) (b8:=⟨5,[.agg [aE U,aE V,.list 3 (kU.map ratL),.list 3 (kV.map ratL),.ref 1000433 1 0 (U+1)]],true⟩) (bO:=⟨1,kJ 1000434 (V+1) (U+1),true⟩) (o:=o) (o':=w6 o k j ((o.getD k []).getD 0 default).p) (k:=k) (by omega) (yQ (by omega)).symm (fun a h=>wD h))) cl) cl) cl) cl))
    ·refine dR ?_
     exact⟨o,_,ho,((aA (aA (bC cl) cl) cl)).symm⟩
   ·refine dB ?_
    refine aK rfl (fun h63r h63=>?_) (fun h63r h63=>?_)
    ·refine dB ?_
     refine nD (fun(i:Nat) (o:List (List PoR)) L=>((((St.mk L.slot (hp [(7,⟨5,[.agg [aE xU,aE xV,.list 3 (xkU.map ratL),.list 3 (xkV.map ratL),.list 1 (xr.map cM)]],true⟩),(1000433,⟨1,kJ 1000434 (V+1) (U+1),true⟩),(1000434,(dK o 0)),(1000435,(dK o 1)),(1000436,(dK o 2)),(1000437,(dK o 3)),(8,⟨5,[.agg [aE U,aE V,.list 3 (kU.map ratL),.list 3 (kV.map ratL),.ref 1000433 1 0 (U+1)]],true⟩)])).put (some 7) (.eptr 7 5 0 0)).put (some 8) (.eptr 8 5 0 0)).put (some 11) (aE i))) (fun i o=>i≤U+1∧pf 4 U V o) (fun i o=>U+1-i) 0 R0 ⟨Nat.zero_le _,hp0⟩ ?_
     rintro i o L2 ⟨hi,ho⟩
     refine cN ?_
     refine aK rfl (fun h69r h69=>?_) (fun h69r h69=>?_)
     ·have on:=ho.n
      have u3:=ho.u3
      have v3:=ho.v3
      have hi2:i<U+1:=by omega
      have hr0:=ho.r0 (i:=0) (by omega)
      have hri:=ho.r0 (i:=i) (by omega)
      refine cO ?_
      refine aP 18 (by decide +kernel) ?_
      refine cP ?_
      try refine dG ?_
      refine aB rfl (.idxR rfl Tryz.underlying37 T60 rfl (by omega) (by omega)) ?_
      try refine dG ?_
      refine aB rfl (.loadE (b:=1000433) (sz:=1) (i:=i) (o:=0) (x:=.ref (1000434+i) 12 0 (V+1)) (r:=.ref (1000434+i) 12 0 (V+1)) rfl rfl rfl (qD (by omega)) rfl rfl T60) ?_
      refine cO ?_
      try refine dG ?_
      refine aB rfl (.idxR rfl Tryz.underlying37 T60 rfl (by omega) (by omega)) ?_
      try refine dG ?_
      refine aB rfl (.loadE (b:=1000433) (sz:=1) (i:=0) (o:=0) (x:=.ref (1000434+0) 12 0 (V+1)) (r:=.ref (1000434+0) 12 0 (V+1)) rfl rfl rfl (qD (by omega)) rfl rfl T60) ?_
      refine cY ?_
      try refine dG ?_
      refine aB rfl (.idxR rfl Tryz.underlying60 uC rfl (by omega) (by omega)) ?_
      refine bE ?_
      try refine dG ?_
      refine aB rfl (.loadE (b:=1000434+0) (sz:=12) (i:=V) (o:=0) (x:=gZ ((o.getD 0 []).getD V default)) (r:=fA ((o.getD 0 []).getD V default).p) (n:=9) (ag:=true) rfl (rW (b7:=⟨5,[.agg [aE xU,aE xV,.list 3 (xkU.map ratL),.list 3 (xkV.map ratL),.list 1 (xr.map cM)]],true⟩) (b8:=⟨5,[.agg [aE U,aE V,.list 3 (kU.map ratL),.list 3 (kV.map ratL),.ref 1000433 1 0 (U+1)]],true⟩) (bO:=⟨1,kJ 1000434 (V+1) (U+1),true⟩) (o:=o) (k:=0) (by omega)) rfl (sC (by omega)) (eI.csize _) atp sW) ?_
      try refine dG ?_
      refine aB rfl (.idxR rfl Tryz.underlying60 uC rfl (by omega) (by omega)) ?_
      refine bE ?_
      try refine dG ?_
      refine bD rfl (.store (b:=1000434+i) (sz:=12) (i:=V) (o:=0) (y:=gZ ((o.getD i []).getD V default)) (y':=gZ ⟨((o.getD 0 []).getD V default).p,((o.getD i []).getD V default).w⟩) rfl (rW (k:=i) (by omega)) rfl rfl (sC (by omega)) (eI.csize _) (by show LV.put (gZ _) 0 (fA ((o.getD 0 []).getD V default).p)=some _;exact ptp) (by show cF _ _ (LV.csize (fA ((o.getD 0 []).getD V default).p)) (LV.isAgg (fA ((o.getD 0 []).getD V default).p));rw [fF.csize,fF.isAgg];exact sW) (by show fA ((o.getD 0 []).getD V default).p≠.any∧∀ l,fA ((o.getD 0 []).getD V default).p≠.tup l;exact⟨by simp [fA],by simp [fA]⟩)) ?_
      refine dR ?_
      refine aB rfl (.bin rfl rfl (bV (by omega))) ?_
      refine cP ?_
      exact lI (i+1) (w6 o i V ((o.getD 0 []).getD V default).p) ⟨by omega,aDQ ho (by omega) (by omega) (ho.pt (Nat.zero_le _) (by omega))⟩ (he:=bI.of_eq (aA (aA (aA (bC (aBq (b7:=⟨5,[.agg [aE xU,aE xV,.list 3 (xkU.map ratL),.list 3 (xkV.map ratL),.list 1 (xr.map cM)]],true⟩) (b8:=⟨5,[.agg [aE U,aE V,.list 3 (kU.map ratL),.list 3 (kV.map ratL),.ref 1000433 1 0 (U+1)]],true⟩) (bO:=⟨1,kJ 1000434 (V+1) (U+1),true⟩) (o:=o) (o':=w6 o i V ((o.getD 0 []).getD V default).p) (k:=i) (by omega) (yQ (by omega)).symm (fun a h=>wD h))) cl) cl) cl))
     ·refine dR ?_
      exact⟨o,_,ho,((aA (aA (bC cl) cl) cl)).symm⟩
    ·refine cY ?_
     exact⟨R0,_,hp0,((aA (aA (bC cl) cl) cl)).symm⟩
  ·rintro _ ⟨o,LC35,ho,rfl⟩
   refine cP ?_
   obtain⟨q,e,X,n0,n1,n2,n3,b0,b1,b2,b3,hq,hXb,hnn,hN1,hN2,hF1,hF2,hCk,hB1,hB2,hS1,hS2⟩:=aJg U V kU kV o ho hkU hkV hlU hlV
   have hsl:LV.pure (.agg [aE U,aE V,.list 3 (kU.map ratL),.list 3 (kV.map ratL),.list 1 (o.map cM)])=true:=by simp [LV.pure,aY,aH aD,aH gY]
   have hpN0:LV.pure (.agg [aE U,aE V,.list 3 (n0.map ratL)])=true:=by simp [LV.pure,aY,aH aD]
   have hpN1:LV.pure (.agg [aE U,aE V,.list 3 (n1.map ratL)])=true:=by simp [LV.pure,aY,aH aD]
   have hpN2:LV.pure (.agg [aE U,aE V,.list 3 (n2.map ratL)])=true:=by simp [LV.pure,aY,aH aD]
   have hpN3:LV.pure (.agg [aE U,aE V,.list 3 (n3.map ratL)])=true:=by simp [LV.pure,aY,aH aD]
   obtain⟨hl0,hr0⟩:=hnn n0 (by simp)
   obtain⟨hl1,hr1⟩:=hnn n1 (by simp)
   obtain⟨hl2,hr2⟩:=hnn n2 (by simp)
   obtain⟨hl3,hr3⟩:=hnn n3 (by simp)
   refine aH1 6 (by decide +kernel) (bI.rows ho.n ho.u3 ho.m rfl rfl (aG aD 3 kU) (aG aD 3 kV) (by simp only [aY,Bool.and_true];exact hcx) rfl rfl) ?_
   refine bE ?_
   refine cp dC (hN1) ?_
   refine bE ?_
   refine cp dC (hN2) ?_
   refine eA ?_
   refine aW ?_
   refine dL ?_
   refine bK (b:=_) rfl (by decide) ?_
   refine dR ?_
   refine aP 8 (by decide +kernel) ?_
   refine dB ?_
   refine dX rfl (.cons (.pure hpN0) (.cons (.pure hpN0) .nil)) (sP U V n0 n0 hl0 hl0 hr0 hr0) ?_
   refine cP ?_
   refine bX (b:=_) rfl (by simp) ?_
   refine dU ?_
   refine aW ?_
   refine dL ?_
   refine bK (b:=_) rfl (by decide) ?_
   refine dR ?_
   refine aP 8 (by decide +kernel) ?_
   refine dB ?_
   refine dX rfl (.cons (.pure hpN1) (.cons (.pure hpN1) .nil)) (sP U V n1 n1 hl1 hl1 hr1 hr1) ?_
   refine cP ?_
   refine bX (b:=_) rfl (by simp) ?_
   refine dU ?_
   refine aW ?_
   refine dL ?_
   refine bK (b:=_) rfl (by decide) ?_
   refine dR ?_
   refine aP 8 (by decide +kernel) ?_
   refine dB ?_
   refine dX rfl (.cons (.pure hpN2) (.cons (.pure hpN2) .nil)) (sP U V n2 n2 hl2 hl2 hr2 hr2) ?_
   refine cP ?_
   refine bX (b:=_) rfl (by simp) ?_
   refine dU ?_
   refine aW ?_
   refine dL ?_
   refine bK (b:=_) rfl (by decide) ?_
   refine dR ?_
   refine aP 8 (by decide +kernel) ?_
   refine dB ?_
   refine dX rfl (.cons (.pure hpN3) (.cons (.pure hpN3) .nil)) (sP U V n3 n3 hl3 hl3 hr3 hr3) ?_
   refine cP ?_
   refine bX (b:=_) rfl (by simp) ?_
   refine dU ?_
   refine aW ?_
   refine dL ?_
   refine bX (b:=_) rfl (by decide) ?_
   refine eC ?_
   refine cp dC (hF1) ?_
   refine cV ?_
   refine cp dC (hF2) ?_
   refine dU ?_
   refine aP 38 (by decide +kernel) ?_
   refine bE ?_
   refine cp dC (hX1) ?_
   refine bE ?_
   refine cp dC (hX2) ?_
   refine cY ?_
   refine aB (aL (v:=true) rfl rfl ((beq_self_eq_true _)) rfl) kS ?_
   refine dX (aL (v:=true) rfl rfl ((beq_self_eq_true _)) rfl) (.cons kR .nil) (hCk) ?_
   refine aB (aL (v:=true) rfl rfl ((beq_self_eq_true _)) rfl) (.bin rfl rfl rfl) ?_
   refine aB rfl (.pickT rfl ((beq_self_eq_true _))) ?_
   refine bE ?_
   refine aB (aL (v:=true) rfl rfl ((rfl)) rfl) (.move _) ?_
   refine aB (aL (v:=true) rfl rfl ((rfl)) rfl) (.move _) ?_
   refine aB (aL (v:=true) rfl rfl ((rfl)) rfl) (.bin rfl rfl rfl) ?_
   refine aB rfl (.pickT rfl ((rfl))) ?_
   refine bE ?_
   refine aB (aL (v:=true) rfl rfl ((beq_self_eq_true _)) rfl) kS ?_
   refine aB (aL (v:=true) rfl rfl ((beq_self_eq_true _)) rfl) kS ?_
   refine dX (aL (v:=true) rfl rfl ((beq_self_eq_true _)) rfl) (.cons kR (.cons kR .nil)) (jO q q (by omega)) ?_
   refine aB rfl (.pickT rfl ((beq_self_eq_true _))) ?_
   refine bE ?_
   refine aB (aL (v:=true) rfl rfl ((decide_eq_true rfl)) rfl) kS ?_
   refine dX (aL (v:=true) rfl rfl ((decide_eq_true rfl)) rfl) (.cons kR .nil) (hB1) ?_
   refine aB (aL (v:=true) rfl rfl ((decide_eq_true rfl)) rfl) kS ?_
   refine dX (aL (v:=true) rfl rfl ((decide_eq_true rfl)) rfl) (.cons kR .nil) (hB2) ?_
   refine dX (aL (v:=true) rfl rfl ((decide_eq_true rfl)) rfl) (.cons (.pure (bxE.pure _)) (.cons (.pure (bxE.pure _)) .nil)) (aFf X hXb) ?_
   refine aB rfl (.pickT rfl ((decide_eq_true rfl))) ?_
   refine cY ?_
   refine cp dC (hS1) ?_
   refine bE ?_
   refine cp dC (hS2) ?_
   refine aB (aL (v:=true) rfl rfl (rfl) rfl) (.eqA4 rfl rfl Tryz.underlying76 Tryz.underlying4 T4 (by decide +kernel)) ?_
   refine cY ?_
   refine dX (aL (v:=true) rfl rfl ((by simp)) rfl) .nil (yD) ?_
   refine aB rfl (.pickT rfl ((by simp))) ?_
   refine cO ?_
   exact bM rfl (.pure rfl)
end Go.Proofs.YtfpdccbgngdhkaaGreat
end
