/- Texts Y22 of this proof, joined. -/
import Derived.Test.YtfpdccbgngdhkaaGreatQL7
set_option linter.unusedVariables false
set_option linter.unusedSimpArgs false
section
set_option linter.unusedVariables false
set_option linter.unusedSimpArgs false
set_option maxHeartbeats 8000000
set_option maxRecDepth 100000
attribute [local irreducible] Go.Lg.opsL Go.Lg.wpL Go.Lg.thenL Go.Lg.blockL
namespace Go.Proofs.YtfpdccbgngdhkaaGreat
open Go.Lg
end Go.Proofs.YtfpdccbgngdhkaaGreat
namespace Go.Lg
theorem aP.cellI {L:St} (b:Nat) (bs:List Nat) (h0:bs.contains 0=false) {sz:Nat} {x y:LV} {mt:Bool} (hb:(L.frz bs).heap b=some ⟨sz,[x],mt⟩) (hi:Imm (L.frz bs).heap x y):aP L ((L.frz bs).setB b (some ⟨sz,[y],mt⟩)):=by
 rintro n W X Z0 a w ⟨hdf,hsz,μ,Z,hc0,hr⟩
 obtain⟨Z',hc,hz⟩:=hc0.widen (fF bs h0)
 refine⟨hdf,hsz,μ,Z',?_,fun s=>be.mono hz (fun _ _ h=>h) (Frame.refl Z μ w) (hr s)⟩
 have hs:∀ c,((L.frz bs).setB b (some ⟨sz,[y],mt⟩)).heap c=if c=b then some ⟨sz,[y],mt⟩ else(L.frz bs).heap c:=fun c=>rfl
 refine⟨hc.keep,hc.zone,hc.zsup,hc.zsub,hc.inj,hc.own,hc.x0,hc.xlt,hc.x1,fun c id blk g1 g2=>?_,fun c id blk g1 g2=>?_,fun c id g1=>?_⟩
 ·rw [hs] at g2
  split at g2
  ·rename_i e;subst e;cases g2;exact hc.mutz c id ⟨sz,[x],mt⟩ g1 hb
  ·exact hc.mutz c id blk g1 g2
 ·rw [hs] at g2
  split at g2
  ·rename_i e;subst e;cases g2;exact hc.frz c id ⟨sz,[x],mt⟩ g1 hb
  ·exact hc.frz c id blk g1 g2
 ·obtain⟨blk,k1,k2⟩:=hc.heap c id g1
  rw [hs]
  by_cases e:c=b
  ·subst e
   rw [if_pos rfl]
   rw [hb] at k1
   cases k1
   refine⟨_,rfl,?_⟩
   obtain⟨cs,T,part,rest,e1,e2,e3⟩:=k2
   refine⟨cs,T,part,rest,e1,e2,?_⟩
   simp only [av] at e3 ⊢
   obtain⟨c1,c2,q1,q2,q3,q4⟩:=e3
   exact⟨c1,c2,q1,q2,Imm.sound (μ':=μ) hc hi q3,q4⟩
  ·rw [if_neg e];exact⟨blk,k1,k2⟩
end Go.Lg
namespace Go.Proofs.YtfpdccbgngdhkaaGreat
open Go.Lg
def nR (o:List (List PoR)) (i j:Nat) (p:V3):List (List PoR):=o.set i ((o.getD i []).set j ⟨p,((o.getD i []).getD j default).w⟩)
theorem yl (o:List (List PoR)) (i j:Nat) (p:V3):(nR o i j p).length=o.length:=by simp [nR]
theorem vj {R U V:Nat} {o:List (List PoR)} {i j:Nat} {p:V3} (h:pf R U V o) (hi:i≤U) (hj:j≤V) (hp:eN R p):pf R U V (nR o i j p):=by
 have hr:=h.r0 hi
 have hm:o.getD i []∈o:=cm (by rw [h.n];omega)
 refine⟨h.r1,h.rB,h.u1,h.u3,h.v1,h.v3,by rw [yl,h.n],fun r hx=>?_,fun r hx q hq=>?_⟩
 ·rcases List.mem_or_eq_of_mem_set hx with hx | rfl
  ·exact h.m r hx
  ·rw [List.length_set,hr]
 ·rcases List.mem_or_eq_of_mem_set hx with hx | rfl
  ·exact h.ok r hx q hq
  ·rcases List.mem_or_eq_of_mem_set hq with hq | rfl
   ·exact h.ok _ hm q hq
   ·have:=h.ok _ hm _ (dl (j:=j) (by rw [hr];omega))
    exact⟨hp,this.2⟩
theorem n8 {o:List (List PoR)} {i j a:Nat} {p:V3} (h:a≠i):bU (nR o i j p) a=bU o a:=by
 simp [bU,nR,List.getD_eq_getElem?_getD,List.getElem?_set_ne (Ne.symm h)]
theorem py {o:List (List PoR)} {i j:Nat} {p:V3} (h:i<o.length):bU (nR o i j p) i=⟨12,(bU o i).vals.set j (dX ⟨p,((o.getD i []).getD j default).w⟩),true⟩:=by
 simp [bU,nR,List.getD_eq_getElem?_getD,List.getElem?_set_self h,List.map_set]
theorem lk {o:List (List PoR)} {i j:Nat} (h:j<(o.getD i []).length):(bU o i).vals[j]?=some (dX ((o.getD i []).getD j default)):=by
 have e:(o.getD i [])[j]?=some ((o.getD i []).getD j default):=by
  rw [List.getD_eq_getElem?_getD (l:=o.getD i []),List.getElem?_eq_getElem h];rfl
 show ((o.getD i []).map dX)[j]?=_
 rw [List.getElem?_map,e];rfl
def wU (b7 b8 bO:Blk) (o:List (List PoR)):List (Nat × Blk):=[(7,b7),(1000433,bO),(1000434,bU o 0),(1000435,bU o 1),(1000436,bU o 2),(1000437,bU o 3),(8,b8)]
theorem k6 {b7 b8 bO:Blk} {o:List (List PoR)} {k:Nat} (h:k<4):hp (wU b7 b8 bO o) (1000434+k)=some (bU o k):=by
 rcases(show k=0∨k=1∨k=2∨k=3 by omega) with rfl | rfl | rfl | rfl<;>rfl
theorem sZ {b7 b8 bO v:Blk} {o o':List (List PoR)} {k:Nat} (h:k<4) (hv:v=bU o' k) (ho:∀ a,a≠k→bU o' a=bU o a):hp (uQ (1000434+k) v (wU b7 b8 bO o))=hp (wU b7 b8 bO o'):=by
 subst hv
 rcases(show k=0∨k=1∨k=2∨k=3 by omega) with rfl | rfl | rfl | rfl
 ·show hp [(7,b7),(1000433,bO),(1000434,bU o' 0),(1000435,bU o 1),(1000436,bU o 2),(1000437,bU o 3),(8,b8)]=_
  rw [←ho 1 (by decide),←ho 2 (by decide),←ho 3 (by decide)];rfl
 ·show hp [(7,b7),(1000433,bO),(1000434,bU o 0),(1000435,bU o' 1),(1000436,bU o 2),(1000437,bU o 3),(8,b8)]=_
  rw [←ho 0 (by decide),←ho 2 (by decide),←ho 3 (by decide)];rfl
 ·show hp [(7,b7),(1000433,bO),(1000434,bU o 0),(1000435,bU o 1),(1000436,bU o' 2),(1000437,bU o 3),(8,b8)]=_
  rw [←ho 0 (by decide),←ho 1 (by decide),←ho 3 (by decide)];rfl
 ·show hp [(7,b7),(1000433,bO),(1000434,bU o 0),(1000435,bU o 1),(1000436,bU o 2),(1000437,bU o' 3),(8,b8)]=_
  rw [←ho 0 (by decide),←ho 1 (by decide),←ho 2 (by decide)];rfl
theorem uz {H:bI}:∀ (xs ys:List LV),xs.length=ys.length→(∀ (i:Nat) (x y:LV),xs[i]?=some x→ys[i]?=some y→Imm H x y)→ImmL H xs ys
 | [],[],_,_=>.nil
 | [],_ :: _,h,_=>by simp at h
 | _ :: _,[],h,_=>by simp at h
 | x :: xs,y :: ys,h,k=>.cons (k 0 x y rfl rfl) (uz xs ys (by simpa using h) fun i a b ha hb=>k (i+1) a b (by simpa using ha) (by simpa using hb))
theorem aP.rows {L:St} {b7 bO:Blk} {x y z u:LV} {o:List (List PoR)} {U V:Nat} (hn:o.length=U+1) (hu:U≤3) (hm:∀ r∈o,r.length=V+1) (hx:x.pure=true) (hy:y.pure=true) (hz:z.pure=true) (hq:u.pure=true) (h7:aD b7.vals=true)
  (hO:bO=⟨1,fP 1000434 (V+1) (U+1),true⟩) (hL:L.heap=hp (wU b7 ⟨5,[.agg [x,y,z,u,.ref 1000433 1 0 (U+1)]],true⟩ bO o)) :
  aP L ⟨fun t=>(((((L.slot t).kill 1000433).kill 1000434).kill 1000435).kill 1000436).kill 1000437,hp [(7,b7),(8,⟨5,[.agg [x,y,z,u,.list 1 (o.map bu)]],true⟩)]⟩:=by
 subst hO
 have hf:∀ c,(L.frz [1000433,1000434,1000435,1000436,1000437]).heap c=(hp (wU b7 ⟨5,[.agg [x,y,z,u,.ref 1000433 1 0 (U+1)]],true⟩ ⟨1,fP 1000434 (V+1) (U+1),true⟩ o) c).map fun blk=>⟨blk.sz,blk.vals,blk.mt && !([1000433,1000434,1000435,1000436,1000437]:List Nat).contains c⟩:=fun c=>by simp only [St.frz,hL]
 have hb8:(L.frz [1000433,1000434,1000435,1000436,1000437]).heap 8=some ⟨5,[.agg [x,y,z,u,.ref 1000433 1 0 (U+1)]],true⟩:=by rw [hf];rfl
 have hbO:(L.frz [1000433,1000434,1000435,1000436,1000437]).heap 1000433=some ⟨1,fP 1000434 (V+1) (U+1),false⟩:=by rw [hf];rfl
 have hbR:∀ k,k<4→(L.frz [1000433,1000434,1000435,1000436,1000437]).heap (1000434+k)=some ⟨12,(o.getD k []).map dX,false⟩:=fun k hk=>by
  rw [hf,k6 hk]
  rcases(show k=0∨k=1∨k=2∨k=3 by omega) with rfl | rfl | rfl | rfl<;>rfl
 have hi:Imm (L.frz [1000433,1000434,1000435,1000436,1000437]).heap (.ref 1000433 1 0 (U+1)) (.list 1 (o.map bu)):=by
  refine .refI hbO rfl (by rw [kP];omega) rfl ?_
  rw [List.drop_zero,rP]
  refine uz _ _ (by rw [kP,List.length_map,hn]) fun i a b ha hb=>?_
  have hi:i<U+1:=by have:=(List.getElem?_eq_some_iff.1 ha).1;rwa [kP] at this
  rw [jL hi] at ha
  cases ha
  have hlt:i<o.length:=by omega
  rw [List.getElem?_map,List.getElem?_eq_getElem hlt] at hb
  simp only [Option.map_some,Option.some.injEq] at hb
  subst hb
  have hr:(o.getD i []).length=V+1:=hm _ (cm hlt)
  have he:o[i]=o.getD i []:=by simp [List.getD_eq_getElem?_getD,List.getElem?_eq_getElem hlt]
  have:=Imm.ref (off:=0) (len:=V+1) (sz:=12) (hbR i (by omega)) rfl (al cA _) (by rw [List.length_map,hr];omega) rfl
  rw [List.drop_zero,List.take_of_length_le (by rw [List.length_map,hr];exact Nat.le_refl _)] at this
  rw [he]
  exact this
 have e1:=aP.cellI (L:=L) 8 [1000433,1000434,1000435,1000436,1000437] rfl hb8 (.agg (.cons (.pure hx) (.cons (.pure hy) (.cons (.pure hz) (.cons (.pure hq) (.cons hi .nil))))))
 refine e1.trans ((aP.kill _ 1000433).trans ((aP.kill _ 1000434).trans ((aP.kill _ 1000435).trans ((aP.kill _ 1000436).trans ((aP.kill _ 1000437).trans (aP.of_eq ?_))))))
 have hpl:aD [LV.agg [x,y,z,u,.list 1 (o.map bu)]]=true:=by simp [aD,LV.pure,hx,hy,hz,hq,al dW]
 have k8:∀ c,aH c [LV.agg [x,y,z,u,.list 1 (o.map bu)]]=[LV.agg [x,y,z,u,.list 1 (o.map bu)]]:=fun c=>fW c _ hpl
 have k7:∀ c,aH c b7.vals=b7.vals:=fun c=>fW c _ h7
 have hl:((L.frz [1000433,1000434,1000435,1000436,1000437]).setB 8 (some ⟨5,[.agg [x,y,z,u,.list 1 (o.map bu)]],true⟩))=St.mk L.slot (hp (uQ 8 ⟨5,[.agg [x,y,z,u,.list 1 (o.map bu)]],true⟩ (pL [1000433,1000434,1000435,1000436,1000437] (wU b7 ⟨5,[.agg [x,y,z,u,.ref 1000433 1 0 (U+1)]],true⟩ ⟨1,fP 1000434 (V+1) (U+1),true⟩ o)))):=by
  simp only [St.setB,St.mk.injEq]
  refine⟨rfl,?_⟩
  funext c
  rw [tO,tV,hf]
 rw [hl]
 simp only [b3,St.mk.injEq,true_and]
 have hbq:∀ a b:Nat,Nat.beq a b=(a==b):=fun a b=>by rw [Bool.eq_iff_iff,Nat.beq_eq,beq_iff_eq]
 simp only [wU,pL,uQ,fy,hbq,Nat.reduceBEq,cond_true,cond_false,k8,k7,List.contains_cons,List.contains_nil,Bool.or_false,Bool.false_or,Bool.not_false,Bool.and_true]
theorem Bb (l:List Int) (hl5:l.length≤500):∃ (U V J:Nat) (kU kV:List Rat) (rows:List (List PoR)) (e:Int),
  dK Tryz.prog 11 ⟨2,[cW l 0],true⟩ [.eptr 0 2 0 0,ai 2,ai 2] (.agg [ai U,ai V,.list 3 (kU.map ratL),.list 3 (kV.map ratL),.list 1 (rows.map bu)]) ⟨2,[cW l J],true⟩ ∧
  ap Tryz.prog 29 [.agg [ai U,ai V,.list 3 (kU.map ratL),.list 3 (kV.map ratL),.list 1 (rows.map bu)]] (iL e)∧ap Tryz.prog 30 [.agg [ai U,ai V,.list 3 (kU.map ratL),.list 3 (kV.map ratL),.list 1 (rows.map bu)]] (iL e):=by
 have h:=wz l (k:=0) (n:=2) (m:=2) hl5 (Nat.zero_le 500) (by decide) (by decide) (by decide)
 have h1:=h.rl
 have h2:=h.lu
 have h3:=h.lv
 have hq:∀ r∈sR l 0 2 2,∀ q∈r,jN 64 q:=fun r hr q hx=>((h.rk r hr).2 q hx).le (by decide)
 exact⟨_,_,_,_,_,_,Es (sU l 0 2) (sV l 0 2) (sR l 0 2 2),tt l 0 hl5 2 (by decide) (by decide) 2 (by decide) (Nat.zero_le _),
  A2 _ _ _ _ _ h.ku h.kv (by omega) (fun r hr=>by have:=(h.rk r hr).1;omega) hq,yH _ _ _ _ _ h.ku h.kv (by omega) (fun r hr=>by have:=(h.rk r hr).1;omega) hq⟩
theorem wP (l:List Int) (hl5:l.length≤500):∃ (U V J:Nat) (kU kV:List Rat) (rows:List (List PoR)),pf 4 U V rows∧kOK kU U∧kOK kV V∧kU.length=2*(U+1)∧kV.length=2*(V+1) ∧
  dB Tryz.prog 22 [.list 1 (l.map gi)] (.agg [ai U,ai V,.list 3 (kU.map ratL),.list 3 (kV.map ratL),.ref 1 1 0 (U+1)]) [⟨1,fP 2 (V+1) (U+1),true⟩,bU rows 0,bU rows 1,bU rows 2,bU rows 3,
   ⟨5,[.agg [ai U,ai V,.list 3 (kU.map ratL),.list 3 (kV.map ratL),.ref 1 1 0 (U+1)]],true⟩,⟨5,[.agg [ai U,ai V,.list 3 (kU.map ratL),.list 3 (kV.map ratL),.ref 1 1 0 (U+1)]],true⟩,⟨2,[cW l J],true⟩,⟨5,[.agg [ai U,ai V,.list 3 (kU.map ratL),.list 3 (kV.map ratL),.ref 1 1 0 (U+1)]],true⟩]:=by
 have h:=wz l (k:=0) (n:=3) (m:=0) hl5 (Nat.zero_le 500) (by decide) (by decide) (by decide)
 have ha:sA l 0 3 0=sU l 0 3+1:=by unfold sA;rw [r7]
 have hb:sB l 0 3 0=sV l 0 3+1:=by unfold sB;rw [r7]
 have hu:=h.ku
 have hv:=h.kv
 have h2:=h.lu
 have h3:=h.lv
 rw [xF l 0 3] at hu h2
 rw [yh l 0 3] at hv h3
 have hM:=wv l hl5
 rw [ha,hb] at hM
 exact⟨_,_,_,_,_,_,Fv (n:=3) hl5 (Nat.zero_le 500) (by decide) (by decide),hu,hv,by omega,by omega,hM⟩
theorem yP (U V:Nat) (kU kV:List Rat) (o:List (List PoR)) (h:pf 4 U V o):∃ (q:Rat) (e:Int),rl q≤100000000 ∧
  ap Tryz.prog 27 [.agg [ai U,ai V,.list 3 (kU.map ratL),.list 3 (kV.map ratL),.list 1 (o.map bu)]] (.tup [ratL q,iL e])∧ap Tryz.prog 28 [.agg [ai U,ai V,.list 3 (kU.map ratL),.list 3 (kV.map ratL),.list 1 (o.map bu)]] (.tup [ratL q,iL e]):=by
 cases hz:gF (cn ((o.getD 0 []).getD 0 default).p ((o.getD U []).getD 0 default).p ((o.getD 0 []).getD V default).p) ⟨0,0,0⟩ with
 | true=>exact⟨0,9,by decide +kernel,zp 4 U V kU kV o h (by decide) hz,v7 4 U V kU kV o h (by decide) hz⟩
 | false =>
  have hu:=h.u3
  have hv:=h.v3
  have hn:=h.thb
  have hp0:=h.pt (i:=0) (j:=0) (Nat.zero_le _) (Nat.zero_le _)
  have hd:=kz hn hp0
  refine⟨_,0,?_,vk 4 U V kU kV o h (by decide) hz,xM 4 U V kU kV o h (by decide) hz⟩
  have hdr:rl (cZ (cn ((o.getD 0 []).getD 0 default).p ((o.getD U []).getD 0 default).p ((o.getD 0 []).getD V default).p) ((o.getD 0 []).getD 0 default).p)≤27*4+31:=by omega
  have hfa:=tE hn hdr h.fa (o.flatten.map (·.p)).length
  rw [List.take_length] at hfa
  have hdd:=kz hn hn
  exact Nat.le_trans (ji _ _) (by omega)
theorem AK (U V:Nat) (kU kV:List Rat) (o:List (List PoR)) (h:pf 4 U V o) (hkU:kOK kU U) (hkV:kOK kV V) (hlU:kU.length=2*(U+1)) (hlV:kV.length=2*(V+1)) :
  ∃ (q:Rat) (e:Int) (X:Bx3) (n0 n1 n2 n3:List Rat) (b0 b1 b2 b3:Bool),rl q≤100000000∧Eu 1000000 X∧(∀ c∈[n0,n1,n2,n3],c.length≤1048576∧∀ x∈c,rl x≤137438953472) ∧
  ap Tryz.prog 24 [.agg [ai U,ai V,.list 3 (kU.map ratL),.list 3 (kV.map ratL),.list 1 (o.map bu)]] (.agg [.agg [ai U,ai V,.list 3 (n0.map ratL)],.agg [ai U,ai V,.list 3 (n1.map ratL)],.agg [ai U,ai V,.list 3 (n2.map ratL)],.agg [ai U,ai V,.list 3 (n3.map ratL)]]) ∧
  ap Tryz.prog 25 [.agg [ai U,ai V,.list 3 (kU.map ratL),.list 3 (kV.map ratL),.list 1 (o.map bu)]] (.agg [.agg [ai U,ai V,.list 3 (n0.map ratL)],.agg [ai U,ai V,.list 3 (n1.map ratL)],.agg [ai U,ai V,.list 3 (n2.map ratL)],.agg [ai U,ai V,.list 3 (n3.map ratL)]]) ∧
  ap Tryz.prog 27 [.agg [ai U,ai V,.list 3 (kU.map ratL),.list 3 (kV.map ratL),.list 1 (o.map bu)]] (.tup [ratL q,iL e])∧ap Tryz.prog 28 [.agg [ai U,ai V,.list 3 (kU.map ratL),.list 3 (kV.map ratL),.list 1 (o.map bu)]] (.tup [ratL q,iL e]) ∧
  ap Tryz.prog 29 [.agg [ai U,ai V,.list 3 (kU.map ratL),.list 3 (kV.map ratL),.list 1 (o.map bu)]] (iL 0) ∧
  ap Tryz.prog 33 [.agg [ai U,ai V,.list 3 (kU.map ratL),.list 3 (kV.map ratL),.list 1 (o.map bu)]] (wx X)∧ap Tryz.prog 34 [.agg [ai U,ai V,.list 3 (kU.map ratL),.list 3 (kV.map ratL),.list 1 (o.map bu)]] (wx X) ∧
  ap Tryz.prog 35 [.agg [ai U,ai V,.list 3 (kU.map ratL),.list 3 (kV.map ratL),.list 1 (o.map bu)]] (.agg [bL b0,bL b1,bL b2,bL b3])∧ap Tryz.prog 36 [.agg [ai U,ai V,.list 3 (kU.map ratL),.list 3 (kV.map ratL),.list 1 (o.map bu)]] (.agg [bL b0,bL b1,bL b2,bL b3]):=by
 obtain⟨q,e,hq,hF1,hF2⟩:=yP U V kU kV o h
 have hu:=h.u3
 have hv:=h.v3
 have hl:=h.l16
 have hn:=h.n
 have hpos:=h.pos
 have hB:Eu 4 (Fn (o.flatten.map (·.p))):=by
  have hw:=fun k=>tJ (l:=o.flatten.map (·.p)) (R:=4) (fun i hi=>h.fp hi) k ((o.flatten.map (·.p)).length-1) (by rw [List.length_map];omega)
  exact⟨hw 0,hw 1,hw 2⟩
 have hlen:=h.len
 refine⟨q,e,_,dz o.flatten 0,dz o.flatten 1,dz o.flatten 2,dL o.flatten,_,_,_,_,hq,hB.le (by decide),?_,tg U V kU kV o (by omega) (by omega) 4 (by decide) h.rw,A6 U V kU kV o (by omega) (by omega) 4 (by decide) h.rw,hF1,hF2,
  zV U V kU kV o hkU hkV (by omega) (fun r hr=>by rw [h.m r hr];omega) (fun r hr p hp=>(h.ok r hr p hp).le (by decide)) hn (h.r0 (Nat.zero_le _)),D5 4 U V kU kV o h (by decide),A8 4 U V kU kV o h (by decide),
  yx 4 U V kU kV o h (by decide) (by omega) (by omega),wQ 4 U V kU kV o h (by decide) (by omega) (by omega)⟩
 intro c hc
 simp only [List.mem_cons,List.not_mem_nil,or_false] at hc
 have hN:=fun k=>h.nl k
 have hW:=h.wl
 rcases hc with rfl | rfl | rfl | rfl
 ·exact⟨by rw [cV];omega,fun x hx=>Nat.le_trans (h.nr 0 x hx) (by decide)⟩
 ·exact⟨by rw [cV];omega,fun x hx=>Nat.le_trans (h.nr 1 x hx) (by decide)⟩
 ·exact⟨by rw [cV];omega,fun x hx=>Nat.le_trans (h.nr 2 x hx) (by decide)⟩
 ·exact⟨by rw [f5];omega,fun x hx=>Nat.le_trans (h.wr x hx) (by decide)⟩
namespace Lz
theorem bQ {p q:Prop} (k:q) (e:p=q:=by simp only [e1,e2,e3,e4,p1,p2,p3,q1,q2,q3,l1,t0,t1,r1,r2,r3,r4,Nat.zero_add,Nat.reduceMul,Nat.reduceAdd,b1,b2,b3,b4,b5,b6,i1,i2,i3,i4,i5,i6,Nat.reduceBEq,ek0,ek1,ek2,ek3,jm,Cf,BT,BP,Cz,BX,CF,BU,Cn,CC,uS,Co,sK,r9,o9,Nat.reduceMul,Nat.reduceAdd,dq,Ej,vm,qg,Ep,Nat.zero_add,Int.toNat_natCast,cb,ae dW,dE,dU,aQ,bo,aW,List.length_cons,List.length_nil,List.nil_append,List.map_nil,List.take_nil,List.append_nil,List.set_cons_zero,List.set_cons_succ,Nat.reduceEqDiff,reduceIte,if_true,if_false,aN,aM,ae cT,ae cA,ae ah,ax,aC,LV.kill,aH];exact rfl):p:=e.mpr k
end Lz
open Lz in
theorem qS (l:List Int) (w a:Int) (hl:l.length≤9223372036854775807∧∀ n∈l,-9223372036854775808≤n∧n≤9223372036854775807) (hw:-9223372036854775808≤w∧w≤9223372036854775807) (ha:-9223372036854775808≤a∧a≤9223372036854775807):ap Tryz.prog 4 [.list 1 (l.map gi),iL w,iL a] (bL true):=by
 have hlt:=hl.1
 refine bS Tryz.func4 ?_
 have ek0:True:=trivial
 have ek1:True:=trivial
 have ek2:True:=trivial
 have ek3:True:=trivial
 refine cg ?_
 refine cp bK (Ay l hlt) ?_
 refine bx ?_
 refine an rfl (fun h21r h21=>?_) (fun h21r h21=>?_)
 ·refine bG ?_
  refine cp Gc (oW) ?_
  refine ca ?_
  exact aS rfl (.pure rfl)
 ·have hl5:l.length≤500:=by simpa using h21
  obtain⟨xU,xV,xJ,xkU,xkV,xr,xe,hX,hX1,hX2⟩:=Bb l hl5
  obtain⟨U,V,J,kU,kV,R0,hp0,hkU,hkV,hlU,hlV,hM⟩:=wP l hl5
  have hcx:LV.pure (.agg [ai xU,ai xV,.list 3 (xkU.map ratL),.list 3 (xkV.map ratL),.list 1 (xr.map bu)])=true:=by simp [LV.pure,aD,al ah,al dW]
  have hu3:=hp0.u3
  have hv3:=hp0.v3
  obtain⟨k,hk,hk1⟩:∃ k:Nat,a % ((U+1:Nat):Int)=k∧k<U+1:=by
   have e1:=Int.emod_nonneg a (show ((U+1:Nat):Int)≠0 by omega)
   have e2:=Int.emod_lt_of_pos a (show (0:Int)<((U+1:Nat):Int) by omega)
   exact⟨(a % ((U+1:Nat):Int)).toNat,by omega,by omega⟩
  have hU4:U+1≤4:=by have:=hp0.u3;omega
  have ek0:aH 1000438 (fP 1000434 (V+1) (U+1))=fP 1000434 (V+1) (U+1):=gB _ (.inr (by omega))
  have ek1:aH 1000439 (fP 1000434 (V+1) (U+1))=fP 1000434 (V+1) (U+1):=gB _ (.inr (by omega))
  have ek2:aH 1000440 (fP 1000434 (V+1) (U+1))=fP 1000434 (V+1) (U+1):=gB _ (.inr (by omega))
  have ek3:aH 1000441 (fP 1000434 (V+1) (U+1))=fP 1000434 (V+1) (U+1):=gB _ (.inr (by omega))
  have hMk:ap Tryz.prog 23 [iL a,ai (U+1)] (ai k):=by
   have:=zJ a ((U+1:Nat):Int) (by omega) (by omega)
   rwa [hk] at this
  refine ca ?_
  refine gc [] rfl rfl (.cons fR .nil) (x6 l) (aw l 0) rfl ?_
  refine bm 1000385 rfl rfl rfl (aw l _) (.cons .ptr (.cons (.imm (.pure rfl)) (.cons (.imm (.pure rfl)) .nil))) .ptr hX rfl (aw l _) hcx ?_
  refine ca ?_
  refine zi 1 (aP.kill _ 1000385) ?_
  simp only [List.take_succ_cons,List.take_zero]
  refine aL ?_
  try refine bQ ?_
  refine pO rfl (wo 27 rfl (.cons fR .nil) hM (by simp) (fun k hk=>BV (by intro x hx;simp at hx;unfold aV;omega))) ?_
  simp only [List.drop_succ_cons,List.drop_zero]
  refine ca ?_
  refine aY ((((aP.kill _ 1000438).trans (aP.kill _ 1000439)).trans (aP.kill _ 1000440)).trans (aP.kill _ 1000441)) ?_
  refine bw ?_
  refine cp bf (hMk) ?_
  refine bV ?_
  refine cp bf (zJ w 4 (by decide) (by decide)) ?_
  refine cg ?_
  refine cr (fun L=>∃ (o:List (List PoR)) (L1:St),(pf 4 U V o)∧L=(((St.mk L1.slot (hp [(7,⟨5,[.agg [ai xU,ai xV,.list 3 (xkU.map ratL),.list 3 (xkV.map ratL),.list 1 (xr.map bu)]],true⟩),(1000433,⟨1,fP 1000434 (V+1) (U+1),true⟩),(1000434,(bU o 0)),(1000435,(bU o 1)),(1000436,(bU o 2)),(1000437,(bU o 3)),(8,⟨5,[.agg [ai U,ai V,.list 3 (kU.map ratL),.list 3 (kV.map ratL),.ref 1000433 1 0 (U+1)]],true⟩)])).put (some 7) (.eptr 7 5 0 0)).put (some 8) (.eptr 8 5 0 0))) ?_ ?_
  ·refine an rfl (fun h35r h35=>?_) (fun h35r h35=>?_)
   ·refine bJ ?_
    refine ik (fun(j:Nat) (o:List (List PoR)) L=>(((((St.mk L.slot (hp [(7,⟨5,[.agg [ai xU,ai xV,.list 3 (xkU.map ratL),.list 3 (xkV.map ratL),.list 1 (xr.map bu)]],true⟩),(1000433,⟨1,fP 1000434 (V+1) (U+1),true⟩),(1000434,(bU o 0)),(1000435,(bU o 1)),(1000436,(bU o 2)),(1000437,(bU o 3)),(8,⟨5,[.agg [ai U,ai V,.list 3 (kU.map ratL),.list 3 (kV.map ratL),.ref 1000433 1 0 (U+1)]],true⟩)])).put (some 7) (.eptr 7 5 0 0)).put (some 8) (.eptr 8 5 0 0)).put (some 9) (ai k)).put (some 10) (ai j))) (fun j o=>j≤V+1∧pf 4 U V o) (fun j o=>V+1-j) 0 R0 ⟨Nat.zero_le _,hp0⟩ ?_
    rintro j o L1 ⟨hj,ho⟩
    refine bV ?_
    try refine bQ ?_
    refine ab rfl (.idxR rfl Tryz.underlying37 rf rfl (by omega) (by omega)) ?_
    try refine bQ ?_
    refine ab rfl (.loadE (b:=1000433) (sz:=1) (i:=k) (o:=0) (x:=.ref (1000434+k) 12 0 (V+1)) (r:=.ref (1000434+k) 12 0 (V+1)) rfl rfl rfl (jL (by omega)) rfl rfl rf) ?_
    refine bw ?_
    refine an rfl (fun h44r h44=>?_) (fun h44r h44=>?_)
    ·have on:=ho.n
     have u3:=ho.u3
     have v3:=ho.v3
     have hj2:j<V+1:=by omega
     have hrk:=ho.r0 (i:=k) (by omega)
     refine bw ?_
     refine au 16 (by decide +kernel) ?_
     refine bx ?_
     try refine bQ ?_
     refine ab rfl (.idxR rfl Tryz.underlying37 rf rfl (by omega) (by omega)) ?_
     try refine bQ ?_
     refine ab rfl (.loadE (b:=1000433) (sz:=1) (i:=k) (o:=0) (x:=.ref (1000434+k) 12 0 (V+1)) (r:=.ref (1000434+k) 12 0 (V+1)) rfl rfl rfl (jL (by omega)) rfl rfl rf) ?_
     refine bw ?_
     try refine bQ ?_
     refine ab rfl (.idxR rfl Tryz.underlying37 rf rfl (by omega) (by omega)) ?_
     try refine bQ ?_
     refine ab rfl (.loadE (b:=1000433) (sz:=1) (i:=k) (o:=0) (x:=.ref (1000434+k) 12 0 (V+1)) (r:=.ref (1000434+k) 12 0 (V+1)) rfl rfl rfl (jL (by omega)) rfl rfl rf) ?_
     try refine bQ ?_
     refine ab rfl (.idxR rfl Tryz.underlying60 me rfl (by omega) (by omega)) ?_
     refine aL ?_
     try refine bQ ?_
     refine ab rfl (.loadE (b:=1000434+k) (sz:=12) (i:=0) (o:=0) (x:=dX ((o.getD k []).getD 0 default)) (r:=cQ ((o.getD k []).getD 0 default).p) (n:=9) (ag:=true) rfl (k6 (b7:=⟨5,[.agg [ai xU,ai xV,.list 3 (xkU.map ratL),.list 3 (xkV.map ratL),.list 1 (xr.map bu)]],true⟩) (b8:=⟨5,[.agg [ai U,ai V,.list 3 (kU.map ratL),.list 3 (kV.map ratL),.ref 1000433 1 0 (U+1)]],true⟩) (bO:=⟨1,fP 1000434 (V+1) (U+1),true⟩) (o:=o) (k:=k) (by omega)) rfl (lk (by omega)) (cA.csize _) G7 lq) ?_
     try refine bQ ?_
     refine ab rfl (.idxR rfl Tryz.underlying60 me rfl (by omega) (by omega)) ?_
     refine aL ?_
     try refine bQ ?_
     refine aK rfl (.store (b:=1000434+k) (sz:=12) (i:=j) (o:=0) (y:=dX ((o.getD k []).getD j default)) (y':=dX ⟨((o.getD k []).getD 0 default).p,((o.getD k []).getD j default).w⟩) rfl (k6 (k:=k) (by omega)) rfl rfl (lk (by omega)) (cA.csize _) (by show LV.put (dX _) 0 (cQ ((o.getD k []).getD 0 default).p)=some _;exact HM) (by show bj _ _ (LV.csize (cQ ((o.getD k []).getD 0 default).p)) (LV.isAgg (cQ ((o.getD k []).getD 0 default).p));rw [cT.csize,cT.isAgg];exact lq) (by show cQ ((o.getD k []).getD 0 default).p≠.any∧∀ l,cQ ((o.getD k []).getD 0 default).p≠.tup l;exact⟨by simp [cQ],by simp [cQ]⟩)) ?_
     refine ca ?_
     refine ab rfl (.bin rfl rfl (a9 (by omega))) ?_
     refine bx ?_
     exact gk (j+1) (nR o k j ((o.getD k []).getD 0 default).p) ⟨by omega,vj ho (by omega) (by omega) (ho.pt (by omega) (Nat.zero_le _))⟩ (he:=aP.of_eq (aa (aa (aa (aa (aJ (sZ (b7:=⟨5,[.agg [ai xU,ai xV,.list 3 (xkU.map ratL),.list 3 (xkV.map ratL),.list 1 (xr.map bu)]],true⟩) (b8:=⟨5,[.agg [ai U,ai V,.list 3 (kU.map ratL),.list 3 (kV.map ratL),.ref 1000433 1 0 (U+1)]],true⟩) (bO:=⟨1,fP 1000434 (V+1) (U+1),true⟩) (o:=o) (o':=nR o k j ((o.getD k []).getD 0 default).p) (k:=k) (by omega) (py (by omega)).symm (fun a h=>n8 h))) cl) cl) cl) cl))
    ·refine ca ?_
     exact⟨o,_,ho,((aa (aa (aJ cl) cl) cl)).symm⟩
   ·refine bJ ?_
    refine an rfl (fun h63r h63=>?_) (fun h63r h63=>?_)
    ·refine bJ ?_
     refine ik (fun(i:Nat) (o:List (List PoR)) L=>((((St.mk L.slot (hp [(7,⟨5,[.agg [ai xU,ai xV,.list 3 (xkU.map ratL),.list 3 (xkV.map ratL),.list 1 (xr.map bu)]],true⟩),(1000433,⟨1,fP 1000434 (V+1) (U+1),true⟩),(1000434,(bU o 0)),(1000435,(bU o 1)),(1000436,(bU o 2)),(1000437,(bU o 3)),(8,⟨5,[.agg [ai U,ai V,.list 3 (kU.map ratL),.list 3 (kV.map ratL),.ref 1000433 1 0 (U+1)]],true⟩)])).put (some 7) (.eptr 7 5 0 0)).put (some 8) (.eptr 8 5 0 0)).put (some 11) (ai i))) (fun i o=>i≤U+1∧pf 4 U V o) (fun i o=>U+1-i) 0 R0 ⟨Nat.zero_le _,hp0⟩ ?_
     rintro i o L2 ⟨hi,ho⟩
     refine bv ?_
     refine an rfl (fun h69r h69=>?_) (fun h69r h69=>?_)
     ·have on:=ho.n
      have u3:=ho.u3
      have v3:=ho.v3
      have hi2:i<U+1:=by omega
      have hr0:=ho.r0 (i:=0) (by omega)
      have hri:=ho.r0 (i:=i) (by omega)
      refine bw ?_
      refine au 18 (by decide +kernel) ?_
      refine bx ?_
      try refine bQ ?_
      refine ab rfl (.idxR rfl Tryz.underlying37 rf rfl (by omega) (by omega)) ?_
      try refine bQ ?_
      refine ab rfl (.loadE (b:=1000433) (sz:=1) (i:=i) (o:=0) (x:=.ref (1000434+i) 12 0 (V+1)) (r:=.ref (1000434+i) 12 0 (V+1)) rfl rfl rfl (jL (by omega)) rfl rfl rf) ?_
      refine bw ?_
      try refine bQ ?_
      refine ab rfl (.idxR rfl Tryz.underlying37 rf rfl (by omega) (by omega)) ?_
      try refine bQ ?_
      refine ab rfl (.loadE (b:=1000433) (sz:=1) (i:=0) (o:=0) (x:=.ref (1000434+0) 12 0 (V+1)) (r:=.ref (1000434+0) 12 0 (V+1)) rfl rfl rfl (jL (by omega)) rfl rfl rf) ?_
      refine bG ?_
      try refine bQ ?_
      refine ab rfl (.idxR rfl Tryz.underlying60 me rfl (by omega) (by omega)) ?_
      refine aL ?_
      try refine bQ ?_
      refine ab rfl (.loadE (b:=1000434+0) (sz:=12) (i:=V) (o:=0) (x:=dX ((o.getD 0 []).getD V default)) (r:=cQ ((o.getD 0 []).getD V default).p) (n:=9) (ag:=true) rfl (k6 (b7:=⟨5,[.agg [ai xU,ai xV,.list 3 (xkU.map ratL),.list 3 (xkV.map ratL),.list 1 (xr.map bu)]],true⟩) (b8:=⟨5,[.agg [ai U,ai V,.list 3 (kU.map ratL),.list 3 (kV.map ratL),.ref 1000433 1 0 (U+1)]],true⟩) (bO:=⟨1,fP 1000434 (V+1) (U+1),true⟩) (o:=o) (k:=0) (by omega)) rfl (lk (by omega)) (cA.csize _) G7 lq) ?_
      try refine bQ ?_
      refine ab rfl (.idxR rfl Tryz.underlying60 me rfl (by omega) (by omega)) ?_
      refine aL ?_
      try refine bQ ?_
      refine aK rfl (.store (b:=1000434+i) (sz:=12) (i:=V) (o:=0) (y:=dX ((o.getD i []).getD V default)) (y':=dX ⟨((o.getD 0 []).getD V default).p,((o.getD i []).getD V default).w⟩) rfl (k6 (k:=i) (by omega)) rfl rfl (lk (by omega)) (cA.csize _) (by show LV.put (dX _) 0 (cQ ((o.getD 0 []).getD V default).p)=some _;exact HM) (by show bj _ _ (LV.csize (cQ ((o.getD 0 []).getD V default).p)) (LV.isAgg (cQ ((o.getD 0 []).getD V default).p));rw [cT.csize,cT.isAgg];exact lq) (by show cQ ((o.getD 0 []).getD V default).p≠.any∧∀ l,cQ ((o.getD 0 []).getD V default).p≠.tup l;exact⟨by simp [cQ],by simp [cQ]⟩)) ?_
      refine ca ?_
      refine ab rfl (.bin rfl rfl (a9 (by omega))) ?_
      refine bx ?_
      exact gk (i+1) (nR o i V ((o.getD 0 []).getD V default).p) ⟨by omega,vj ho (by omega) (by omega) (ho.pt (Nat.zero_le _) (by omega))⟩ (he:=aP.of_eq (aa (aa (aa (aJ (sZ (b7:=⟨5,[.agg [ai xU,ai xV,.list 3 (xkU.map ratL),.list 3 (xkV.map ratL),.list 1 (xr.map bu)]],true⟩) (b8:=⟨5,[.agg [ai U,ai V,.list 3 (kU.map ratL),.list 3 (kV.map ratL),.ref 1000433 1 0 (U+1)]],true⟩) (bO:=⟨1,fP 1000434 (V+1) (U+1),true⟩) (o:=o) (o':=nR o i V ((o.getD 0 []).getD V default).p) (k:=i) (by omega) (py (by omega)).symm (fun a h=>n8 h))) cl) cl) cl))
     ·refine ca ?_
      exact⟨o,_,ho,((aa (aa (aJ cl) cl) cl)).symm⟩
    ·refine bG ?_
     exact⟨R0,_,hp0,((aa (aa (aJ cl) cl) cl)).symm⟩
  ·rintro _ ⟨o,LC35,ho,rfl⟩
   refine bx ?_
   obtain⟨q,e,X,n0,n1,n2,n3,b0,b1,b2,b3,hq,hXb,hnn,hN1,hN2,hF1,hF2,hCk,hB1,hB2,hS1,hS2⟩:=AK U V kU kV o ho hkU hkV hlU hlV
   have hsl:LV.pure (.agg [ai U,ai V,.list 3 (kU.map ratL),.list 3 (kV.map ratL),.list 1 (o.map bu)])=true:=by simp [LV.pure,aD,al ah,al dW]
   have hpN0:LV.pure (.agg [ai U,ai V,.list 3 (n0.map ratL)])=true:=by simp [LV.pure,aD,al ah]
   have hpN1:LV.pure (.agg [ai U,ai V,.list 3 (n1.map ratL)])=true:=by simp [LV.pure,aD,al ah]
   have hpN2:LV.pure (.agg [ai U,ai V,.list 3 (n2.map ratL)])=true:=by simp [LV.pure,aD,al ah]
   have hpN3:LV.pure (.agg [ai U,ai V,.list 3 (n3.map ratL)])=true:=by simp [LV.pure,aD,al ah]
   obtain⟨hl0,hr0⟩:=hnn n0 (by simp)
   obtain⟨hl1,hr1⟩:=hnn n1 (by simp)
   obtain⟨hl2,hr2⟩:=hnn n2 (by simp)
   obtain⟨hl3,hr3⟩:=hnn n3 (by simp)
   refine yJ 6 (by decide +kernel) (aP.rows ho.n ho.u3 ho.m rfl rfl (ak ah 3 kU) (ak ah 3 kV) (by simp only [aD,Bool.and_true];exact hcx) rfl rfl) ?_
   refine aL ?_
   refine cp bK (hN1) ?_
   refine aL ?_
   refine cp bK (hN2) ?_
   refine ct ?_
   refine aA ?_
   refine bV ?_
   refine aR (b:=_) rfl (by decide) ?_
   refine ca ?_
   refine au 8 (by decide +kernel) ?_
   refine bJ ?_
   refine ci rfl (.cons (.pure hpN0) (.cons (.pure hpN0) .nil)) (kY U V n0 n0 hl0 hl0 hr0 hr0) ?_
   refine bx ?_
   refine bb (b:=_) rfl (by simp) ?_
   refine cg ?_
   refine aA ?_
   refine bV ?_
   refine aR (b:=_) rfl (by decide) ?_
   refine ca ?_
   refine au 8 (by decide +kernel) ?_
   refine bJ ?_
   refine ci rfl (.cons (.pure hpN1) (.cons (.pure hpN1) .nil)) (kY U V n1 n1 hl1 hl1 hr1 hr1) ?_
   refine bx ?_
   refine bb (b:=_) rfl (by simp) ?_
   refine cg ?_
   refine aA ?_
   refine bV ?_
   refine aR (b:=_) rfl (by decide) ?_
   refine ca ?_
   refine au 8 (by decide +kernel) ?_
   refine bJ ?_
   refine ci rfl (.cons (.pure hpN2) (.cons (.pure hpN2) .nil)) (kY U V n2 n2 hl2 hl2 hr2 hr2) ?_
   refine bx ?_
   refine bb (b:=_) rfl (by simp) ?_
   refine cg ?_
   refine aA ?_
   refine bV ?_
   refine aR (b:=_) rfl (by decide) ?_
   refine ca ?_
   refine au 8 (by decide +kernel) ?_
   refine bJ ?_
   refine ci rfl (.cons (.pure hpN3) (.cons (.pure hpN3) .nil)) (kY U V n3 n3 hl3 hl3 hr3 hr3) ?_
   refine bx ?_
   refine bb (b:=_) rfl (by simp) ?_
   refine cg ?_
   refine aA ?_
   refine bV ?_
   refine bb (b:=_) rfl (by decide) ?_
   refine cx ?_
   refine cp bK (hF1) ?_
   refine bD ?_
   refine cp bK (hF2) ?_
   refine cg ?_
   refine au 38 (by decide +kernel) ?_
   refine aL ?_
   refine cp bK (hX1) ?_
   refine aL ?_
   refine cp bK (hX2) ?_
   refine bG ?_
   refine ab (ao (v:=true) rfl rfl ((beq_self_eq_true _)) rfl) fS ?_
   refine ci (ao (v:=true) rfl rfl ((beq_self_eq_true _)) rfl) (.cons fR .nil) (hCk) ?_
   refine ab (ao (v:=true) rfl rfl ((beq_self_eq_true _)) rfl) (.bin rfl rfl rfl) ?_
   refine ab rfl (.pickT rfl ((beq_self_eq_true _))) ?_
   refine aL ?_
   refine ab (ao (v:=true) rfl rfl ((rfl)) rfl) (.move _) ?_
   refine ab (ao (v:=true) rfl rfl ((rfl)) rfl) (.move _) ?_
   refine ab (ao (v:=true) rfl rfl ((rfl)) rfl) (.bin rfl rfl rfl) ?_
   refine ab rfl (.pickT rfl ((rfl))) ?_
   refine aL ?_
   refine ab (ao (v:=true) rfl rfl ((beq_self_eq_true _)) rfl) fS ?_
   refine ab (ao (v:=true) rfl rfl ((beq_self_eq_true _)) rfl) fS ?_
   refine ci (ao (v:=true) rfl rfl ((beq_self_eq_true _)) rfl) (.cons fR (.cons fR .nil)) (fc q q (by omega)) ?_
   refine ab rfl (.pickT rfl ((beq_self_eq_true _))) ?_
   refine aL ?_
   refine ab (ao (v:=true) rfl rfl ((decide_eq_true rfl)) rfl) fS ?_
   refine ci (ao (v:=true) rfl rfl ((decide_eq_true rfl)) rfl) (.cons fR .nil) (hB1) ?_
   refine ab (ao (v:=true) rfl rfl ((decide_eq_true rfl)) rfl) fS ?_
   refine ci (ao (v:=true) rfl rfl ((decide_eq_true rfl)) rfl) (.cons fR .nil) (hB2) ?_
   refine ci (ao (v:=true) rfl rfl ((decide_eq_true rfl)) rfl) (.cons (.pure (bxE.pure _)) (.cons (.pure (bxE.pure _)) .nil)) (wL X hXb) ?_
   refine ab rfl (.pickT rfl ((decide_eq_true rfl))) ?_
   refine bG ?_
   refine cp bK (hS1) ?_
   refine aL ?_
   refine cp bK (hS2) ?_
   refine ab (ao (v:=true) rfl rfl (rfl) rfl) (.eqA4 rfl rfl Tryz.underlying76 Tryz.underlying4 T4 (by decide +kernel)) ?_
   refine bG ?_
   refine ci (ao (v:=true) rfl rfl ((by simp)) rfl) .nil (oW) ?_
   refine ab rfl (.pickT rfl ((by simp))) ?_
   refine bw ?_
   exact aS rfl (.pure rfl)
end Go.Proofs.YtfpdccbgngdhkaaGreat
end
