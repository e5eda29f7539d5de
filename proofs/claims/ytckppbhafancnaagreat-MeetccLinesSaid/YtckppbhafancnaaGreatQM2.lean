/- Texts LgK, LgO of this proof, joined. -/
import Derived.Test.YtckppbhafancnaaGreatQM1
import Derived.Deep.Upon
set_option linter.unusedVariables false
set_option linter.unusedSimpArgs false
section
set_option linter.unusedVariables false
set_option linter.unusedSimpArgs false
namespace Go.Lg
mutual
def LV.ren (f:Nat→Nat):LV→LV
 | .any=>.any
 | .v x=>.v x
 | .list sz l=>.list sz (eZ f l)
 | .agg l=>.agg (eZ f l)
 | .ref b sz off len=>.ref (f b) sz off len
 | .eptr b sz i o=>.eptr (f b) sz i o
 | .boxp c=>.boxp (c.ren f)
 | .clo g l=>.clo g (eZ f l)
 | .tup l=>.tup (eZ f l)
def eZ (f:Nat→Nat):List LV→List LV
 | []=>[]
 | x :: xs=>x.ren f :: eZ f xs
end
mutual
theorem LV.ren_pure (f:Nat→Nat):∀ (x:LV),x.pure=true→x.ren f=x
 | .any,_=>rfl
 | .v _,_=>rfl
 | .list sz l,h=>by simp only [LV.ren,iI f l (by simpa [LV.pure] using h)]
 | .agg l,h=>by simp only [LV.ren,iI f l (by simpa [LV.pure] using h)]
 | .ref ..,h=>by simp [LV.pure] at h
 | .eptr ..,h=>by simp [LV.pure] at h
 | .boxp c,h=>by simp only [LV.ren,LV.ren_pure f c (by simpa [LV.pure] using h)]
 | .clo g l,h=>by simp only [LV.ren,iI f l (by simpa [LV.pure] using h)]
 | .tup l,h=>by simp [LV.pure] at h
theorem iI (f:Nat→Nat):∀ (l:List LV),aV l=true→eZ f l=l
 | [],_=>rfl
 | x :: xs,h=>by simp only [eZ,LV.ren_pure f x (fX h).1,iI f xs (fX h).2]
end
mutual
theorem LV.ren_csize (f:Nat→Nat):∀ (x:LV),(x.ren f).csize=x.csize
 | .any=>rfl | .v _=>rfl | .list ..=>rfl | .ref ..=>rfl | .eptr ..=>rfl | .boxp _=>rfl | .clo ..=>rfl | .tup _=>rfl
 | .agg l=>by simp only [LV.ren,LV.csize,vN f l]
theorem vN (f:Nat→Nat):∀ (l:List LV),aL (eZ f l)=aL l
 | []=>rfl
 | x :: xs=>by simp only [eZ,aL,LV.ren_csize f x,vN f xs]
end
theorem LV.ren_isAgg (f:Nat→Nat) (x:LV):(x.ren f).isAgg=x.isAgg:=by cases x<;>rfl
section
variable {Z:Nat→Prop} {μ μ':Nat→Option Nat} {w:World}
mutual
theorem bZ.ren (f:Nat→Nat) (hm:∀ b id,μ b=some id→μ' (f b)=some id):∀ (lv:LV) (cs:List Value),bZ Z μ w lv cs→bZ Z μ' w (lv.ren f) cs
 | .any,_,h=>by simpa [bZ,LV.ren] using h
 | .v x,cs,h=>by simpa [bZ,LV.ren] using h
 | .list sz l,cs,h=>by
   simp only [bZ,LV.ren] at h ⊢
   obtain⟨a,len,cap,h1,h2,h3,h4,h9⟩:=h
   have hl:(eZ f l).length=l.length:=by
    clear h2 h4 h9;induction l with
    | nil=>rfl
    | cons x xs ih=>simp [eZ,ih]
   refine⟨a,len,cap,h1,by rw [hl];exact h2,h3,?_,by rw [iI f l h9];exact h9⟩
   rcases h4 with h4 | ⟨blk,off,c,T,fz,part,rest,e1,e2,e3,e4,e5⟩
   ·left;subst h4;rfl
   ·exact .inr ⟨blk,off,c,T,fz,part,rest,e1,e2,e3,e4,aM.ren f hm sz l part e5⟩
 | .agg l,cs,h=>by
   simp only [bZ,LV.ren] at h ⊢
   exact bV.ren f hm l cs h
 | .ref b sz off len,cs,h=>by
   simp only [bZ,LV.ren] at h ⊢
   rcases h with h | ⟨id,cap,c,T,fz,h1,h2,h3⟩
   ·exact .inl h
   exact .inr ⟨id,cap,c,T,fz,h1,hm _ _ h2,h3⟩
 | .eptr b sz i o,cs,h=>by
   simp only [bZ,LV.ren] at h ⊢
   obtain⟨id,h1,h2⟩:=h
   exact⟨id,h1,hm _ _ h2⟩
 | .boxp c,cs,h=>by
   simp only [bZ,LV.ren] at h ⊢
   obtain⟨blk,off,cc,T,fz,part,rest,h1,h2,h3,h4,h5,h6,h7⟩:=h
   exact⟨blk,off,cc,T,fz,part,rest,h1,h2,h3,h4,by rw [LV.ren_csize];exact h5,bZ.ren f hm c part h6,by rw [LV.ren_pure f c h7];exact h7⟩
 | .clo g cap,cs,h=>by
   simp only [bZ,LV.ren] at h ⊢
   obtain⟨vs,h1,h2,h3⟩:=h
   exact⟨vs,h1,aM.ren f hm 1 cap vs.toList h2,by rw [iI f cap h3];exact h3⟩
 | .tup _,_,h=>by simp [bZ] at h
theorem aM.ren (f:Nat→Nat) (hm:∀ b id,μ b=some id→μ' (f b)=some id) (sz:Nat):∀ (l:List LV) (cs:List Value),aM Z μ w sz l cs→aM Z μ' w sz (eZ f l) cs
 | [],cs,h=>by simpa [aM,eZ] using h
 | x :: xs,cs,h=>by
   simp only [aM,eZ] at h ⊢
   obtain⟨c1,c2,h1,h2,h3,h4⟩:=h
   exact⟨c1,c2,h1,h2,bZ.ren f hm x c1 h3,aM.ren f hm sz xs c2 h4⟩
theorem bV.ren (f:Nat→Nat) (hm:∀ b id,μ b=some id→μ' (f b)=some id):∀ (l:List LV) (cs:List Value),bV Z μ w l cs→bV Z μ' w (eZ f l) cs
 | [],cs,h=>by simpa [bV,eZ] using h
 | x :: xs,cs,h=>by
   simp only [bV,eZ] at h ⊢
   obtain⟨c1,c2,h1,h2,h3,h4⟩:=h
   exact⟨c1,c2,h1,by rw [LV.ren_csize];exact h2,bZ.ren f hm x c1 h3,bV.ren f hm xs c2 h4⟩
end
theorem dW.ren (f:Nat→Nat) (hm:∀ b id,μ b=some id→μ' (f b)=some id) {lv:LV} {v:Value} (h:dW Z μ w lv v):dW Z μ' w (lv.ren f) v :=
 ⟨fun e=>let ⟨cs,h1,h2⟩:=h.1 (by rwa [LV.ren_isAgg] at e);⟨cs,h1,bZ.ren f hm _ _ h2⟩,fun e=>bZ.ren f hm _ _ (h.2 (by rwa [LV.ren_isAgg] at e))⟩
theorem dY.ren (f:Nat→Nat) (hm:∀ b id,μ b=some id→μ' (f b)=some id):∀ (l:List LV) (vs:List Value),dY Z μ w l vs→dY Z μ' w (eZ f l) vs
 | [],_,h=>h
 | _ :: xs,_,⟨v,vs',h1,h2,h3⟩=>⟨v,vs',h1,h2.ren f hm,dY.ren f hm xs vs' h3⟩
theorem bP.ren (f:Nat→Nat) (hm:∀ b id,μ b=some id→μ' (f b)=some id) {lv:LV} {v:Value} (h:bP Z μ w lv v):bP Z μ' w (lv.ren f) v:=by
 cases lv with
 | tup l=>obtain⟨vs,h1,h2⟩:=h;exact⟨vs,h1,dY.ren f hm _ _ h2⟩
 | any=>trivial
 | _=>exact dW.ren f hm h
end
def fO (bs:List Blk):cM:=fun n=>if n=0 then none else bs[n-1]?
def rM (P:Program) (f:FuncId):Prop:=∃ fn,P.funcs[f]?=some fn∧fn.body.isNone=false∧(fn.name== "runtime.NumGoroutine")=false
def gM (P:Program) (f:FuncId) (args:List LV) (r:LV) (bs:List Blk):Prop :=
 rM P f∧∀ (W:World) (Z0:Nat→Prop) (vs:List Value),(∀ id,Z0 id→id<W.heap.size)→dY Z0 (fun _=>none) W args vs →
  Calls P f vs.toArray W fun e w'=>∃ v μ Z,e=.returned v∧Core W XS.no Z0 μ Z (fO bs) w'∧bP Z μ w' r v
def bK (d k:Nat):Nat:=1000000+d*16+k
def jJ (μ μr:Nat→Option Nat) (d:Nat):Nat→Option Nat:=fun b =>
 if 1000000+d*16≤b∧b<1000000+d*16+16 then(μr (b-(1000000+d*16))).or (μ b) else μ b
section
variable {W w w':World} {X:XS} {Z0 Z Zr:Nat→Prop} {μ μr:Nat→Option Nat} {H:cM} {bs:List Blk} {d:Nat}
theorem Core.call (hc:Core W X Z0 μ Z H w) (hr:Core w XS.no Z μr Zr (fO bs) w') (hlen:bs.length<16) (hpu:∀ blk∈bs,aV blk.vals=true)
  (hH:∀ i blk,bs[i]?=some blk→∃ m,H (bK d (i+1))=some ⟨blk.sz,blk.vals,m⟩∧(blk.mt=false→m=false)∧μ (bK d (i+1))=none) :
  ∃ Z',Core W X Z0 (jJ μ μr d) Z' H w'∧(∀ id,Zr id→Z' id)∧(∀ id,Z id→Z' id)∧(∀ b id,μ b=some id→jJ μ μr d b=some id)∧Frame Z μ w w' ∧
   (∀ k id,μr k=some id→jJ μ μr d (bK d k)=some id):=by
 have hk:∀ k id,μr k=some id→∃ blk,1≤k∧k≤bs.length∧bs[k-1]?=some blk∧fO bs k=some blk:=fun k id h=>by
  obtain⟨blk,h1,_⟩:=hr.heap k id h
  have h0:k≠0:=by rintro rfl;simp [fO] at h1
  have h2:bs[k-1]?=some blk:=by simpa [fO,h0] using h1
  have:=(List.getElem?_eq_some_iff.1 h2).1
  exact⟨blk,by omega,by omega,h2,h1⟩
 have hHk:∀ k id,μr k=some id→∃ blk m,bs[k-1]?=some blk∧H (bK d k)=some ⟨blk.sz,blk.vals,m⟩∧(blk.mt=false→m=false)∧μ (bK d k)=none∧fO bs k=some blk∧k<16:=fun k id h=>by
  obtain⟨blk,h1,h2,h3,h4⟩:=hk k id h
  obtain⟨m,g1,g2,g3⟩:=hH (k-1) blk h3
  have:k-1+1=k:=by omega
  rw [this] at g1 g3
  exact⟨blk,m,h3,g1,g2,g3,h4,by omega⟩
 have hnew:∀ k id,μr k=some id→jJ μ μr d (bK d k)=some id:=fun k id h=>by
  obtain⟨blk,m,_,_,_,_,_,h6⟩:=hHk k id h
  unfold jJ bK
  rw [if_pos (by omega)]
  have:1000000+d*16+k-(1000000+d*16)=k:=by omega
  rw [this,h];rfl
 have hinv:∀ b id,jJ μ μr d b=some id→(∃ k,b=bK d k∧μr k=some id)∨μ b=some id:=fun b id h=>by
  unfold jJ at h
  split at h
  ·rename_i hb
   cases hq:μr (b-(1000000+d*16)) with
   | none=>rw [hq] at h;exact .inr (by simpa using h)
   | some id' =>
    rw [hq] at h
    simp only [Option.some_or,Option.some.injEq] at h
    subst h
    exact .inl ⟨b-(1000000+d*16),by unfold bK;omega,hq⟩
  ·exact .inr h
 have hold:∀ b id,μ b=some id→jJ μ μr d b=some id:=fun b id h=>by
  unfold jJ
  split
  ·rename_i hb
   cases hq:μr (b-(1000000+d*16)) with
   | none=>simpa using h
   | some id' =>
    obtain⟨blk,m,_,_,_,g,_⟩:=hHk _ _ hq
    have:bK d (b-(1000000+d*16))=b:=by unfold bK;omega
    rw [this,h] at g;cases g
  ·exact h
 have hlo:∀ k id,μr k=some id→w.heap.size≤id:=fun k id h=>(hr.own k id h).resolve_right XS.no_any
 have hkeep:∀ k,k<w.heap.size→w'.heap[k]?=w.heap[k]?:=fun k hk=>hr.keep.block k hk XS.no_any
 have hfr:=hc.frame_old hkeep
 refine⟨fun id=>Zr id∨∃ k blk,μr k=some id∧H (bK d k)=some blk∧blk.mt=false,⟨?_,?_,fun id h=>.inl (hr.zsup id (hc.zsup id h)),?_,?_,?_,?_,hc.xlt,fun id h=>hold 0 id (hc.x1 id h),?_,?_,?_⟩,
  fun id h=>.inl h,fun id h=>.inl (hr.zsup id h),hold,hfr,hnew⟩
 ·exact⟨hr.keep.os.trans hc.keep.os,hr.keep.tape.trans hc.keep.tape,hr.keep.output.trans hc.keep.output,Nat.le_trans hc.keep.size hr.keep.size,
   fun k hk hx=>(hkeep k (by have:=hc.keep.size;omega)).trans (hc.keep.block k hk hx),
   fun k hx c T fz h=>let ⟨c',g1,g2⟩:=hc.keep.xsz k hx c T fz h;⟨c',(hkeep k (Array.getElem?_eq_some_iff.1 g1).1).trans g1,g2⟩⟩
 ·rintro id (h | ⟨k,blk,h,_⟩)
  ·exact hr.zone id h
  ·exact hr.lt h
 ·rintro id (h | ⟨k,blk,h,_⟩)
  ·rcases hr.zsub id h with h | h | h
   ·exact hc.zsub id h
   ·exact .inr (.inl (Nat.le_trans hc.keep.size h))
   ·exact h.elim
  ·exact .inr (.inl (Nat.le_trans hc.keep.size (hlo k id h)))
 ·intro b b' id h h'
  rcases hinv b id h with⟨k,rfl,h1⟩ | h1<;>rcases hinv b' id h' with⟨k',rfl,h2⟩ | h2
  ·rw [hr.inj k k' id h1 h2]
  ·have:=hlo k id h1;have:=hc.lt h2;omega
  ·have:=hlo k' id h2;have:=hc.lt h1;omega
  ·exact hc.inj b b' id h1 h2
 ·intro b id h
  rcases hinv b id h with⟨k,rfl,h1⟩ | h1
  ·exact .inl (Nat.le_trans hc.keep.size (hlo k id h1))
  ·exact hc.own b id h1
 ·intro b id h hx
  rcases hinv b id h with⟨k,rfl,h1⟩ | h1
  ·have:=hlo k id h1;have:=hc.xlt id (.inl hx);have:=hc.keep.size;omega
  ·exact hc.x0 b id h1 hx
 ·intro b id blk h hb hm hz
  rcases hinv b id h with⟨k,rfl,h1⟩ | h1
  ·obtain⟨blk0,m,_,g2,g3,_,g5,_⟩:=hHk k id h1
   rw [g2] at hb;cases hb
   simp only at hm;subst hm
   have hm0:blk0.mt=true:=by
    cases e:blk0.mt with
    | true=>rfl
    | false=>exact absurd (g3 e) (by simp)
   rcases hz with hz | ⟨k',blk',j1,j2,j3⟩
   ·exact hr.mutz k id blk0 h1 g5 hm0 hz
   ·have:=hr.inj k k' id h1 j1
    subst this
    rw [g2] at j2;cases j2;simp at j3
  ·rcases hz with hz | ⟨k',blk',j1,j2,j3⟩
   ·rcases hr.zsub id hz with h | h | h
    ·exact hc.mutz b id blk h1 hb hm h
    ·have:=hc.lt h1;omega
    ·exact h.elim
   ·have:=hlo k' id j1;have:=hc.lt h1;omega
 ·intro b id blk h hb hm
  rcases hinv b id h with⟨k,rfl,h1⟩ | h1
  ·exact .inr ⟨k,blk,h1,hb,hm⟩
  ·exact .inl (hr.zsup id (hc.frz b id blk h1 hb hm))
 ·intro b id h
  rcases hinv b id h with⟨k,rfl,h1⟩ | h1
  ·obtain⟨blk0,m,g1,g2,g3,_,g5,_⟩:=hHk k id h1
   obtain⟨blk1,j1,c,T,part,rest,j2,j3,j4⟩:=hr.heap k id h1
   rw [g5] at j1;cases j1
   exact⟨_,g2,c,T,part,rest,j2,j3,aM.repure (fun id h=>.inl h) (fun _ _=>rfl) _ _ _ (hpu blk0 (List.mem_of_getElem? g1)) j4⟩
  ·obtain⟨blk,g1,g2⟩:=hc.heap b id h1
   exact⟨blk,g1,g2.mono (fun id h=>.inl (hr.zsup id h)) hold hfr (hkeep id (hc.lt h1))⟩
def uT (blk:Blk):cM:=fun n=>if n=0 then some blk else none
def mu0 (id:Nat):Nat→Option Nat:=fun n=>if n=0 then some id else none
def fZ (P:Program) (f:FuncId) (blk:Blk) (args:List LV) (r:LV) (blk':Blk):Prop :=
 rM P f∧∀ (W:World) (Z0:Nat→Prop) (vs:List Value) (i0:Nat),(∀ id,Z0 id→id<W.heap.size)→¬ Z0 i0→kB Z0 (mu0 i0) W blk i0→dY Z0 (mu0 i0) W args vs →
  Calls P f vs.toArray W fun e w'=>∃ v μ Z,e=.returned v∧Core W (XS.one i0) Z0 μ Z (uT blk') w'∧bP Z μ w' r v
theorem Core.callM {b i0:Nat} {blk blk':Blk} (hc:Core W X Z0 μ Z H w) (hb:μ b=some i0) (hH:H b=some blk) (hm:blk.mt=true) (hm':blk'.mt=true) (hp':aV blk'.vals=true)
  (hr:Core w (XS.one i0) Z μr Zr (uT blk') w') :
  ∃ Z',Core W X Z0 μ Z' (fun k=>if k=b then some blk' else H k) w'∧(∀ id,Zr id→Z' id)∧(∀ id,Z id→Z' id)∧Frame Z μ w w'∧∀ k id,μr k=some id→k=0∧id=i0:=by
 have hr0:=hr.x1 i0 rfl
 have hk0:∀ k id,μr k=some id→k=0∧id=i0:=fun k id h=>by
  obtain⟨blk1,h1,_⟩:=hr.heap k id h
  have:k=0:=by
   unfold uT at h1;split at h1
   ·assumption
   ·cases h1
  subst this
  rw [hr0] at h;cases h
  exact⟨rfl,rfl⟩
 have hlt0:=hc.lt hb
 have hkeep:∀ k,k<w.heap.size→k≠i0→w'.heap[k]?=w.heap[k]?:=fun k hk hx=>hr.keep.block k hk (fun e=>hx (XS.one_any e))
 have hnz:¬ Z i0:=hc.mutz b i0 blk hb hH hm
 have hfr:Frame Z μ w w':=by
  refine⟨fun id h=>hkeep id (hc.zone id h) (fun e=>hnz (e ▸ h)),fun c id h cc T fz hcc=>?_⟩
  by_cases e:id=i0
  ·subst e
   exact hr.keep.xsz id (.inl rfl) cc T fz hcc
  ·exact⟨cc,(hkeep id (hc.lt h) e).trans hcc,rfl⟩
 refine⟨Zr,⟨?_,hr.zone,fun id h=>hr.zsup id (hc.zsup id h),?_,hc.inj,hc.own,hc.x0,hc.xlt,hc.x1,?_,?_,?_⟩,fun _ h=>h,hr.zsup,hfr,hk0⟩
 ·refine⟨hr.keep.os.trans hc.keep.os,hr.keep.tape.trans hc.keep.tape,hr.keep.output.trans hc.keep.output,Nat.le_trans hc.keep.size hr.keep.size,fun k hk hx=>?_,fun k hx c T fz h=>?_⟩
  ·have:k≠i0:=by
    rintro rfl
    rcases hc.own b k hb with h | h
    ·omega
    ·exact hx h
   exact(hkeep k (by have:=hc.keep.size;omega) this).trans (hc.keep.block k hk hx)
  ·obtain⟨c',g1,g2⟩:=hc.keep.xsz k hx c T fz h
   by_cases e:k=i0
   ·subst e
    obtain⟨c2,g3,g4⟩:=hr.keep.xsz k (.inl rfl) c' T fz g1
    exact⟨c2,g3,g4.trans g2⟩
   ·exact⟨c',(hkeep k (Array.getElem?_eq_some_iff.1 g1).1 e).trans g1,g2⟩
 ·intro id h
  rcases hr.zsub id h with h | h | h
  ·exact hc.zsub id h
  ·exact .inr (.inl (Nat.le_trans hc.keep.size h))
  ·exact h.elim
 ·intro c id bk h g hmt hz
  rcases hr.zsub id hz with hz' | hz' | hz'
  ·by_cases e:c=b
   ·subst e;rw [hb] at h;cases h;exact hnz hz'
   ·rw [if_neg e] at g;exact hc.mutz c id bk h g hmt hz'
  ·have:=hc.lt h;omega
  ·exact hz'.elim
 ·intro c id bk h g hmt
  by_cases e:c=b
  ·rw [if_pos e] at g;cases g;rw [hm'] at hmt;cases hmt
  ·rw [if_neg e] at g;exact hr.zsup id (hc.frz c id bk h g hmt)
 ·intro c id h
  by_cases e:c=b
  ·subst e;rw [hb] at h;cases h
   obtain⟨bk,g1,cc,T,part,rest,g2,g3,g4⟩:=hr.heap 0 i0 hr0
   simp only [uT,if_true] at g1
   cases g1
   exact⟨blk',if_pos rfl,cc,T,part,rest,g2,g3,aM.repure (fun _ h=>h) (fun _ _=>rfl) _ _ _ hp' g4⟩
  ·obtain⟨bk,g1,g2⟩:=hc.heap c id h
   have hne:id≠i0:=fun e'=>e (hc.inj c b id h (e' ▸ hb))
   exact⟨bk,by rw [if_neg e];exact g1,g2.mono hr.zsup (fun _ _ h=>h) hfr (hkeep id (hc.lt h) hne)⟩
end
end Go.Lg
namespace Go.Lg
def bJ (P:Program) (T:TypeId) (n:Nat):Prop:=∃ i,P.info? T=some i∧i.bytes=n
inductive OpA (P:Program) (ρ:Operand→LV) (d:Nat):Op→LV→Blk→Prop
 | make {T E l c kl kc z sz by_ n m} (hT:P.underlying T=some (.slice E)) (hz:bA P E z) (hE:bT P E sz z.isAgg) (hzs:z.csize=sz) (hb:bJ P E by_)
   (hl:ρ l=.v (.int kl (n:Nat))) (hc:ρ c=.v (.int kc (m:Nat))) (hnm:n≤m) (hm:by_*m≤281474976710656) (hm2:m≤9223372036854775807) :
   OpA P ρ d (.makeSlice T l c) (.ref d sz 0 n) ⟨sz,List.replicate n z,true⟩
 | lit {T E n ps z sz} (hT:P.underlying T=some (.slice E)) (hz:bA P E z) (hE:bT P E sz z.isAgg) (hzs:z.csize=sz) (hn:n*sz≤16777216) (h0:0<n) (hs0:0<sz)
   (hp:∀ p∈ps.toList,p.1<n∧lay (ρ p.2)=lay z∧ρ p.2≠.any∧∀ m,ρ p.2≠.tup m) :
   OpA P ρ d (.buildSlice T n ps) (.ref d sz 0 n) ⟨sz,eN (List.replicate n z) (ps.toList.map fun p=>(p.1,ρ p.2)),true⟩
 | lit0 {T E sz ag} (hT:P.underlying T=some (.slice E)) (hE:bT P E sz ag):OpA P ρ d (.buildSlice T 0 #[]) (.ref d sz 0 0) ⟨sz,[],true⟩
 | box {T x} (hne:ρ x≠.any∧∀ m,ρ x≠.tup m):OpA P ρ d (.box T x) (.eptr d (ρ x).csize 0 0) ⟨(ρ x).csize,[ρ x],true⟩
 | alloc {T z} (hz:bA P T z):OpA P ρ d (.alloc T) (.eptr d z.csize 0 0) ⟨z.csize,[z],true⟩
inductive OpC (P:Program) (H:cM) (ρ:Operand→LV) (d:Nat):Op→LV→List Blk→Prop
 | func {f xs as args r bs} (ha:ImmL H (xs.toList.map ρ) args) (hk:gM P f args r bs) (hlen:bs.length<16) (hpu:∀ blk∈bs,aV blk.vals=true) :
   OpC P H ρ d (.call ⟨.value (.func f),xs,as⟩) (r.ren (bK d)) bs
 | clo {t f cap xs as args r bs} (ht:ρ (.tmp t)=.clo f cap) (ha:ImmL H (xs.toList.map ρ) args) (hcap:aV cap=true∧∀ x∈cap,x.csize=1∧x.isAgg=false) (hk:gM P f (args++cap) r bs)
   (hlen:bs.length<16) (hpu:∀ blk∈bs,aV blk.vals=true) :
   OpC P H ρ d (.call ⟨.value (.tmp t),xs,as⟩) (r.ren (bK d)) bs
 | mk {f xs caps} (ha:ImmL H (xs.toList.map ρ) caps) (h1:∀ x∈caps,x.csize=1∧x.isAgg=false):OpC P H ρ d (.makeFunc (.func f) #[] xs) (.clo f caps) []
inductive OpV (P:Program) (H:cM) (ρ:Operand→LV) (d:Nat):Op→LV→List (Nat × Blk)→Prop
 | pure {op r} (h:OpP P H ρ op r):OpV P H ρ d op r []
 | alloc {op r blk} (h:OpA P ρ d op r blk):OpV P H ρ d op r [(d,blk)]
 | call {op r bs} (h:OpC P H ρ d op r bs):OpV P H ρ d op r (bs.mapIdx fun i blk=>(bK d (i+1),blk))
section
variable {P:Program} {W w:World} {X:XS} {Z0 Z:Nat→Prop} {μ:Nat→Option Nat} {H H':cM} {ρ:Operand→LV} {a:Act}
theorem OpP.le {op:Op} {r:LV} (hle:H.le H') (h:OpP P H ρ op r):OpP P H' ρ op r:=by
 cases h with
 | loadE hp hb hs hi hx hr hT =>
  obtain⟨m,g1,_⟩:=hle _ _ hb
  exact .loadE (blk:=⟨_,_,m⟩) hp g1 hs hi hx hr hT
 | move x=>exact .move x
 | assign x=>exact .assign x
 | pick h=>exact .pick h
 | bin hx hy h=>exact .bin hx hy h
 | sh hx hy h=>exact .sh hx hy h
 | beq hx hy hT=>exact .beq hx hy hT
 | bne hx hy hT=>exact .bne hx hy hT
 | not hx=>exact .not hx
 | neg hx=>exact .neg hx
 | conv hS hD hx=>exact .conv hS hD hx
 | extract ht hr hne=>exact .extract ht hr hne
 | field hx hT hr hne=>exact .field hx hT hr hne
 | fieldAddrB hp hT hr=>exact .fieldAddrB hp hT hr
 | fieldAddrE hp hT hk=>exact .fieldAddrE hp hT hk
 | loadB hp hT hc=>exact .loadB hp hT hc
 | nilChkE hx=>exact .nilChkE hx
 | idxA hx hT hE hf hi h0 hr hp=>exact .idxA hx hT hE hf hi h0 hr hp
 | idxAE hx hT hE hi h0 hm=>exact .idxAE hx hT hE hi h0 hm
 | idxAB hx hT hE hf hi h0 hr=>exact .idxAB hx hT hE hf hi h0 hr
 | buildA hT hE hf hz hp=>exact .buildA hT hE hf hz hp
 | nilChkB hx=>exact .nilChkB hx
 | idxL hx hT hE hi h0 hr hc=>exact .idxL hx hT hE hi h0 hr hc
 | idxR hx hT hE hi h0 hn=>exact .idxR hx hT hE hi h0 hn
 | sliceL hx hT hE a b c d e f=>exact .sliceL hx hT hE a b c d e f
 | sliceR hx hT hE a b c d e f g=>exact .sliceR hx hT hE a b c d e f g
 | sliceR3 hx hT hE a b c d e f g i=>exact .sliceR3 hx hT hE a b c d e f g i
 | lenL hx has hT=>exact .lenL hx has hT
 | lenR hx has hT=>exact .lenR hx has hT
 | lenN hx has hT=>exact .lenN hx has hT
 | capN hx has hT=>exact .capN hx has hT
 | sliceN hx hT hE hh=>exact .sliceN hx hT hE hh
 | min2 hx hy=>exact .min2 hx hy
 | max2 hx hy=>exact .max2 hx hy
 | indexS hx hT hi h0 hb=>exact .indexS hx hT hi h0 hb
 | ext2 hf hname hb hn he hx hr h1 h2=>exact .ext2 hf hname hb hn he hx hr h1 h2
 | addS hx hy h=>exact .addS hx hy h
 | eqS hx hy=>exact .eqS hx hy
 | eqN hx hy hT=>exact .eqN hx hy hT
 | eqNL hx hy hT=>exact .eqNL hx hy hT
 | eqA4 hx hy hT hE hs hd=>exact .eqA4 hx hy hT hE hs hd
 | strR hS hE hD hx hb hs hv hl =>
  obtain⟨m,h1,_⟩:=hle _ _ hb
  exact .strR hS hE hD hx h1 hs hv hl
 | build hT hz hp=>exact .build hT hz hp
theorem OpV.le {op:Op} {r:LV} {d:Nat} {fr:List (Nat × Blk)} (hle:H.le H') (h:OpV P H ρ d op r fr):OpV P H' ρ d op r fr:=by
 cases h with
 | pure h=>exact .pure (h.le hle)
 | alloc h=>exact .alloc h
 | call h =>
  refine .call ?_
  cases h with
  | func ha hk hlen hpu=>exact .func (ImmL.le hle ha) hk hlen hpu
  | clo ht ha hcap hk hlen hpu=>exact .clo ht (ImmL.le hle ha) hcap hk hlen hpu
  | mk ha h1=>exact .mk (ImmL.le hle ha) h1
theorem oZ (hc:Core W X Z0 μ Z H w):∀ (xs:List Operand) (args:List LV),ImmL H (xs.map ρ) args→(∀ x∈xs,bP Z μ w (ρ x) (a.eval x)) →
  dY Z (fun _=>none) w args (xs.map a.eval)
 | [],_,h,_=>by cases h;rfl
 | x :: xs,_,h,hr=>by
   cases h with
   | cons h t =>
    exact⟨_,_,rfl,Imm.soundV hc h (hr x (by simp)),oZ hc xs _ t (fun y hy=>hr y (by simp [hy]))⟩
theorem dY.append:∀ (l m:List LV) (vs us:List Value),dY Z μ w l vs→dY Z μ w m us→dY Z μ w (l++m) (vs++us)
 | [],m,vs,us,h,h'=>by cases h;exact h'
 | x :: xs,m,_,us,⟨v,vs',e,h1,h2⟩,h'=>by
   subst e
   exact⟨v,vs'++us,by simp,h1,dY.append xs m vs' us h2 h'⟩
theorem pU {μ':Nat→Option Nat}:∀ (l:List LV) (cs:List Value),aV l=true→(∀ x∈l,x.csize=1∧x.isAgg=false)→aM Z μ w 1 l cs→dY Z μ' w l cs
 | [],cs,_,_,h=>by simp only [aM] at h;exact h
 | x :: xs,cs,hp,h1,h=>by
   simp only [aM] at h
   obtain⟨c1,c2,rfl,h2,h3,h4⟩:=h
   match c1,h2 with
   | [y],_ =>
    refine⟨y,c2,rfl,⟨fun e=>?_,fun _=>bZ.repure (fun _ h=>h) (fun _ _=>rfl) _ _ (fX hp).1 h3⟩,pU xs c2 (fX hp).2 (fun z hz=>h1 z (by simp [hz])) h4⟩
    rw [(h1 x (by simp)).2] at e;cases e
theorem pR {μ':Nat→Option Nat}:∀ (l:List LV) (vs:List Value),aV l=true→(∀ x∈l,x.csize=1∧x.isAgg=false)→dY Z μ w l vs→aM Z μ' w 1 l vs
 | [],vs,_,_,h=>by simp only [aM];exact h
 | x :: xs,_,hp,h1,⟨v,vs',e,h2,h3⟩=>by
   subst e
   simp only [aM]
   exact⟨[v],vs',rfl,rfl,bZ.repure (fun _ h=>h) (fun _ _=>rfl) _ _ (fX hp).1 (h2.2 (h1 x (by simp)).2),pR xs vs' (fX hp).2 (fun z hz=>h1 z (by simp [hz])) h3⟩
theorem lB {f:FuncId} {args:Array Value} (h:rM P f):(callFunc f args).run P w=.ok (.enter f args) w:=by
 obtain⟨fn,h1,h2,h3⟩:=h
 simp only [callFunc,Sem.run_bind,run_program,Result.andThen_ok,h1,h3,Bool.false_eq_true,if_false,h2,Sem.run_pure]
theorem r8 (z:Array Value) (hz:0<z.size):∀ n,(madeCells z (n*z.size)).toList=(List.replicate n z.toList).flatten
 | 0=>by simp [madeCells]
 | n+1=>by
   have ih:=r8 z hz n
   simp only [madeCells,Array.toList_map,Array.toList_range] at ih ⊢
   rw [Nat.succ_mul,List.range_add,List.map_append,ih,List.replicate_succ',List.flatten_append,List.map_map]
   congr 1
   simp only [List.flatten_cons,List.flatten_nil,List.append_nil]
   apply List.ext_getElem
   ·simp
   ·intro j h1 h2
    simp at h1
    simp [Nat.mod_eq_of_lt h1,h1]
theorem nF {sz:Nat} {z:LV} {ch:List Value} (h:bZ Z μ w z ch) (hl:ch.length=sz) (n m:Nat) (hnm:n≤m) :
  ∃ part rest,(List.replicate m ch).flatten=part++rest∧aM Z μ w sz (List.replicate n z) part:=by
 refine⟨(List.replicate n ch).flatten,(List.replicate (m-n) ch).flatten,?_,aM.replicate h hl n⟩
 rw [←List.flatten_append,List.replicate_append_replicate,Nat.add_sub_cancel' hnm]
theorem aAH {μr:Nat→Option Nat} {d:Nat} {b:Nat} (h:jJ μ μr d b≠none):μ b≠none∨∃ k,b=bK d k∧μr k≠none:=by
 unfold jJ at h
 split at h
 ·cases hq:μr (b-(1000000+d*16)) with
  | none=>rw [hq] at h;exact .inl (by simpa using h)
  | some id=>exact .inr ⟨b-(1000000+d*16),by unfold bK;omega,by rw [hq];simp⟩
 ·exact .inl h
structure After (W:World) (X:XS) (Z0:Nat→Prop) (μ:Nat→Option Nat) (Z:Nat→Prop) (H:cM) (w:World) (r:LV) (fr:List (Nat × Blk)) (v:Value) (w':World) (μ':Nat→Option Nat) (Z':Nat→Prop):Prop where
 core:Core W X Z0 μ' Z' H w'
 hz:∀ id,Z id→Z' id
 hm:∀ b id,μ b=some id→μ' b=some id
 hf:Frame Z μ w w'
 rep:bP Z' μ' w' r v
 new:∀ b,μ' b≠none→μ b≠none∨b∈fr.map (·.1)
theorem wU {f:FuncId} {vs:Array Value} {d:Nat} {args:List LV} {r:LV} {bs:List Blk} {o:Oper} {K:Act→World→Prop} {Q:Exit→Act→World→Prop}
  (hc:Core W X Z0 μ Z H w) (hk:gM P f args r bs) (hlen:bs.length<16) (hpu:∀ blk∈bs,aV blk.vals=true)
  (hargs:dY Z (fun _=>none) w args vs.toList)
  (hfr:∀ i blk,bs[i]?=some blk→∃ m,H (bK d (i+1))=some ⟨blk.sz,blk.vals,m⟩∧(blk.mt=false→m=false)∧μ (bK d (i+1))=none)
  (hrun:(execOp a.eval o).run P w=.ok (.enter f vs) w)
  (hK:∀ v w' μ' Z',After W X Z0 μ Z H w (r.ren (bK d)) (bs.mapIdx fun i blk=>(bK d (i+1),blk)) v w' μ' Z'→K (a.put o.dst v) w'):o.wp P a w K Q:=by
 unfold Oper.wp
 rw [hrun,Oper.upon_enter]
 have:=hk.2 w Z vs.toList hc.zone hargs
 rw [Array.toArray_toList] at this
 refine this.mono ?_
 rintro e w' ⟨v,μr,Zr,rfl,hr,hv⟩
 obtain⟨Z',h1,h2,h3,h4,h5,h6⟩:=hc.call hr hlen hpu hfr
 refine hK v w' _ Z' ⟨h1,h3,h4,h5,?_,?_⟩
 ·exact(hv.mono h2 (fun _ _ h=>h) ⟨fun _ _=>rfl,(Frame.refl Zr μr w').m⟩).ren (bK d) h6
 ·intro b hb
  rcases aAH hb with h | ⟨k,rfl,h⟩
  ·exact .inl h
  ·right
   obtain⟨id,hid⟩:=Option.ne_none_iff_exists'.1 h
   obtain⟨blk,g1,_⟩:=hr.heap k id hid
   have h0:k≠0:=by rintro rfl;simp [fO] at g1
   have g2:bs[k-1]?=some blk:=by simpa [fO,h0] using g1
   simp only [List.mem_map,List.mem_mapIdx]
   refine⟨_,⟨k-1,(List.getElem?_eq_some_iff.1 g2).1,rfl⟩,?_⟩
   show bK d (k-1+1)=bK d k
   congr 1;omega
theorem qP {sz:Nat}:∀ (l:List LV) (cs:List Value),(∀ x∈l,x.csize=sz)→aM Z μ w sz l cs→bV Z μ w l cs
 | [],cs,_,h=>by simpa [aM,bV] using h
 | x :: xs,cs,hx,h=>by
   simp only [aM,bV] at h ⊢
   obtain⟨c1,c2,h1,h2,h3,h4⟩:=h
   exact⟨c1,c2,h1,by rw [h2,hx x (by simp)],h3,qP xs c2 (fun y hy=>hx y (by simp [hy])) h4⟩
theorem rS {sz:Nat}:∀ (l:List LV) (cs:List Value),(∀ x∈l,x.csize=sz)→bV Z μ w l cs→aM Z μ w sz l cs
 | [],cs,_,h=>by simpa [aM,bV] using h
 | x :: xs,cs,hx,h=>by
   simp only [aM,bV] at h ⊢
   obtain⟨c1,c2,h1,h2,h3,h4⟩:=h
   exact⟨c1,c2,h1,by rw [h2,hx x (by simp)],h3,rS xs c2 (fun y hy=>hx y (by simp [hy])) h4⟩
theorem oL (x:Nat × Bool):∀ n,mB (List.replicate n x)=n*x.1
 | 0=>by simp [mB]
 | n+1=>by simp [List.replicate_succ,mB,oL x n,Nat.succ_mul];omega
theorem v4:∀ (qs:List (Nat × LV)) (zs:List LV) (n:Nat × Bool),(∀ x∈zs,lay x=n)→(∀ q∈qs,lay q.2=n)→∀ x∈eN zs qs,lay x=n
 | [],zs,n,h,_=>h
 | q :: qs,zs,n,h,hq=>by
   refine v4 qs (zs.set q.1 q.2) n (fun x hx=>?_) (fun q' h'=>hq q' (by simp [h']))
   rcases List.mem_or_eq_of_mem_set hx with hx | rfl
   ·exact h x hx
   ·exact hq q (by simp)
theorem aEh {T E:TypeId} {n:Nat} {ps:Array (Nat × Operand)} {z:LV} {sz:Nat} (hT:P.underlying T=some (.slice E)) (hz:bA P E z) (hE:bT P E sz z.isAgg) (hzs:z.csize=sz)
  (hn:n*sz≤16777216) (h0:0<n) (hs0:0<sz) (hp:∀ p∈ps.toList,p.1<n∧lay (ρ p.2)=lay z∧ρ p.2≠.any∧∀ m,ρ p.2≠.tup m)
  (hρ:∀ p∈ps.toList,bP Z μ w (ρ p.2) (a.eval p.2)) :
  ∃ cs,(Instr.buildSlice T n (ps.map fun(i,x)=>(i,a.eval x))).run P w=.ok (.slice (some ⟨w.heap.size,0,none⟩) n n) (w.alloc (.cells cs E)) ∧
   aM Z μ w sz (eN (List.replicate n z) (ps.toList.map fun p=>(p.1,ρ p.2))) cs.toList:=by
 obtain⟨i,zv,z1,z2,z3,z4⟩:=hz
 have hne:=LV.pure_ne_any z3
 have hsz:i.size=sz:=by have:=hE.1;rw [z1] at this;simpa using this
 have hzl:=bZ.len (z4 Z μ w) hne
 have hzs':zv.cells.size=sz:=by rw [←Array.length_toList,hzl,hzs]
 have hmade:(madeCells zv.cells (n*sz)).toList=(List.replicate n zv.cells.toList).flatten:=by
  have:=r8 zv.cells (by omega) n
  rwa [hzs'] at this
 have hall:aM Z μ w sz (List.replicate n z) (madeCells zv.cells (n*sz)).toList:=by
  rw [hmade];exact aM.replicate (z4 Z μ w) (by rw [hzl,hzs]) n
 have hcz:∀ x∈List.replicate n z,x.csize=sz:=fun x hx=>by rw [(List.mem_replicate.1 hx).2,hzs]
 obtain⟨cs,f1,f2⟩:=mY (Z:=Z) (μ:=μ) (w:=w) (ls:=List.replicate n (lay z)) (fun k=>some (k*sz,sz))
  (fun k m hk=>by
   obtain⟨h1,h2⟩:=List.getElem?_eq_some_iff.1 hk
   simp at h1 h2
   subst h2
   rw [List.take_replicate,oL,Nat.min_eq_left (by omega)]
   simp [lay,hzs])
  (ps.toList.map fun p=>(p.1,a.eval p.2)) (ps.toList.map fun p=>(p.1,ρ p.2)) (List.replicate n z) (madeCells zv.cells (n*sz)) (by simp) (qP _ _ hcz hall) (by simp)
  (fun j p q hp1 hq1=>by
   simp only [List.getElem?_map,Option.map_eq_some_iff] at hp1 hq1
   obtain⟨x,hx,rfl⟩:=hp1
   obtain⟨y,hy,rfl⟩:=hq1
   rw [hx] at hy;cases hy
   have hm:=List.mem_of_getElem? hx
   obtain⟨_,_,h3,h4⟩:=hp x hm
   exact⟨bP.to1 h4 h3 (hρ x hm),h3⟩)
  (fun q hq=>by
   simp only [List.mem_map] at hq
   obtain⟨x,hx,rfl⟩:=hq
   obtain⟨h1,h2,_⟩:=hp x hx
   exact⟨lay z,by simp [h1],h2⟩)
 refine⟨cs,?_,rS _ _ (fun x hx=>?_) f2⟩
 ·have hzv:(zeroValue E).run P w=.ok zv w:=by simp [zeroValue,typeInfo,z1,z2]
  have hso:(sizeOf E).run P w=.ok sz w:=dV hE
  have hns:¬ n*sz=0:=by
   intro h;rcases Nat.mul_eq_zero.1 h with h | h<;>omega
  have hle:¬ 2 ^ 24<n*sz:=by
   have:(2:Nat) ^ 24=16777216:=by decide
   omega
  have hps:(Array.map (fun x=>match x with | (i,x)=>(i,a.eval x)) ps).toList=ps.toList.map fun p=>(p.1,a.eval p.2):=by simp
  simp only [Instr.buildSlice,Sem.run_bind,run_underlying hT,Result.andThen_ok,hso,gt_iff_lt,hle,if_false,Sem.run_ite,hns,hzv,Sem.run_pure,hps]
  have hmk:(Array.range (n*sz)).map (fun x=>zv.cells[x % zv.cells.size]!)=madeCells zv.cells (n*sz):=rfl
  rw [hmk,f1]
  rfl
 ·have hb:=v4 (ps.toList.map fun p=>(p.1,ρ p.2)) (List.replicate n z) (lay z) (fun x hx=>by rw [(List.mem_replicate.1 hx).2]) (fun q hq=>by
   simp only [List.mem_map] at hq
   obtain⟨y,hy,rfl⟩:=hq
   exact(hp y hy).2.1) x hx
  have:=congrArg Prod.fst hb
  simpa [lay,hzs] using this
theorem oI (z:Array Value) (n:Nat):(Builtin.zeroCells z n).toList=(List.replicate n z.toList).flatten:=by
 have hl:((List.replicate n z.toList).flatten).length=n*z.size:=by
  induction n with
  | zero=>simp
  | succ n ih=>simp only [List.replicate_succ,List.flatten_cons,List.length_append,ih,Nat.succ_mul];simp;omega
 refine List.ext_getElem (by rw [hl];simp [Builtin.zeroCells]) (fun i h1 h2=>?_)
 have hi:i<n*z.size:=by rw [hl] at h2;exact h2
 have hz:0<z.size:=Nat.pos_of_ne_zero fun e=>by rw [e] at hi;simp at hi
 have key:∀ (n i:Nat),i<n*z.size→(List.replicate n z.toList).flatten[i]?=z.toList[i % z.size]?:=by
  intro n
  induction n with
  | zero=>intro i h;simp at h
  | succ n ih =>
   intro i h
   rw [List.replicate_succ,List.flatten_cons]
   rcases Nat.lt_or_ge i z.size with h3 | h3
   ·rw [List.getElem?_append_left (by simpa using h3),Nat.mod_eq_of_lt h3]
   ·rw [List.getElem?_append_right (by simpa using h3)]
    have e:z.toList.length=z.size:=by simp
    rw [e,ih (i-z.size) (by rw [Nat.succ_mul] at h;omega),←Nat.mod_eq_sub_mod h3]
 have h3:=key n i hi
 rw [List.getElem?_eq_getElem h2] at h3
 have hm:i % z.size<z.size:=Nat.mod_lt _ hz
 rw [List.getElem?_eq_getElem (by simpa using hm)] at h3
 simp only [Option.some.injEq] at h3
 rw [h3]
 simp [Builtin.zeroCells,hm]
theorem sO {P:Program} {w:World} (T U E ty:TypeId) (k kl:IntKind) (i:TypeInfo) (z:Value) (ht:P.underlying T=some (.slice E)) (hu:P.underlying U=some (.int k)) (hi:P.info? E=some i) (hz:i.zero=some z) (n:Nat)
  (h0:0<n) (hs0:0<i.size) (h63:(n:Int)≤4611686018427387904) (hby:n*i.bytes≤140737488355328) (hfit:Builtin.nextslicecap n 0*i.bytes≤281474976710656) :
  (Builtin.append_ #[T,U] ty #[.slice none 0 0,.int kl (n:Int)]).run P w =
   .ok (.slice (some ⟨w.heap.size,0,none⟩) n (grownCap w n 0 E))
    (w.drew.alloc (.cells (Builtin.zeroCells z.cells n++Builtin.zeroCells z.cells (grownCap w n 0 E-n)) E)):=by
 have hn:¬ (n≤0):=by omega
 have hn0:¬ n=0:=by omega
 have hw:IntKind.i64.wrap (n:Int)=(n:Int):=by simp [IntKind.wrap,show IntKind.i64.bits=64 from rfl];omega
 have h1:¬ ((n:Int)<0):=by omega
 have h2:¬ (281474976710656<(n:Int)*(i.bytes:Int)):=by
  have h5:((n*i.bytes:Nat):Int)≤140737488355328:=by omega
  rw [Int.natCast_mul] at h5
  omega
 have h63':¬ (9223372036854775807<(n:Int)):=by omega
 have h48':¬ (281474976710656<Builtin.nextslicecap n 0*i.bytes):=by omega
 have hsz:¬ (i.size=0):=by omega
 simp [Builtin.append_,run_underlying ht,run_underlying hu,sizeOf,typeInfo,zeroValue,hi,hz,hn,hn0,hw,h1,h2,h63',h48',asInt,asIntOf,Question.forced,Builtin.firstCells,newRow,grownCap]
 intro h
 rcases Nat.mul_eq_zero.1 h with h | h<;>omega
theorem aEy {op:Op} {r:LV} {d:Nat} {blk:Blk} (hc:Core W X Z0 μ Z H w) (ho:OpA P ρ d op r blk) (hρ:∀ x∈op.operands,bP Z μ w (ρ x) (a.eval x))
  {m:Bool} (hH:H d=some ⟨blk.sz,blk.vals,m⟩) (hμ:μ d=none) (dst:Option Tmp) (ty:TypeId) (pos:String) (after:Array Edge) (g:Option (Nat × Bool)) :
  ∃ v w' μ' Z',(execOp a.eval ⟨dst,op,ty,pos,after,g⟩).run P w=.ok (.value v) w'∧After W X Z0 μ Z H w r [(d,blk)] v w' μ' Z':=by
 have hnew:∀ id b,upd μ d id b≠none→μ b≠none∨b∈[(d,blk)].map (·.1):=fun id b h=>by
  unfold upd at h
  split at h
  ·subst_vars;right;simp
  ·exact .inl h
 cases ho with
 | @make T E l c kl kc z sz by_ n cp hT hz hE hzs hb hl hcp hnm hm1 hm2 =>
  obtain⟨i,zv,z1,z2,z3,z4⟩:=hz
  have e1:=hρ l (by simp [Op.operands]);rw [hl] at e1;have e1:=e1.v_eq
  have e2:=hρ c (by simp [Op.operands]);rw [hcp] at e2;have e2:=e2.v_eq
  have hne:=LV.pure_ne_any z3
  have hsz:i.size=sz:=by have:=hE.1;rw [z1] at this;simpa using this
  have hby:i.bytes=by_:=by obtain⟨i',g1,g2⟩:=hb;rw [z1] at g1;cases g1;exact g2
  have hzl:=bZ.len (z4 Z μ w) hne
  have hzs':zv.cells.size=sz:=by rw [←Array.length_toList,hzl,hzs]
  have hr:=run_make (P:=P) w T E i zv hT z1 z2 kl kc (n:Int) (cp:Int) (by omega) (by omega) (by rw [hby];omega) (by omega)
  simp only [Int.toNat_natCast,hsz] at hr
  obtain⟨part,rest,p1,p2⟩:=nF (sz:=sz) (z4 Z μ w) (by rw [hzl,hzs]) n cp hnm
  have hcells:(madeCells zv.cells (cp*sz)).toList=part++rest:=by
   by_cases hpos:0<zv.cells.size
   ·rw [←hzs',r8 _ hpos,p1]
   ·have:sz=0:=by omega
    rw [←p1,this]
    have h0:zv.cells.toList=[]:=by
     apply List.eq_nil_of_length_eq_zero;rw [Array.length_toList];omega
    simp [madeCells,h0]
  obtain⟨Z',h1,h2,h3,h4,h5,h6⟩:=hc.push hH hμ (Pushed.alloc w (.cells (madeCells zv.cells (cp*sz)) E)) hcells p2
  refine⟨_,_,_,Z',by simp only [execOp,e1,e2];rw [Sem.run_bind,hr];rfl,h1,h2,h3,h4,⟨by simp [LV.isAgg],fun _=>?_⟩,hnew _⟩
  simp only [bZ]
  exact .inr ⟨w.heap.size,cp,_,E,(0,0),by simp,h5,hnm,h6,by rw [size_madeCells];simp⟩
 | @lit T E n ps z sz hT hz hE hzs hn h0 hs0 hp =>
  have hpm:∀ p∈ps.toList,bP Z μ w (ρ p.2) (a.eval p.2):=fun p hp=>hρ p.2 (by simp [Op.operands];exact⟨p.1,by simpa using hp⟩)
  obtain⟨cs,r1,r2⟩:=aEh (P:=P) (Z:=Z) (μ:=μ) (w:=w) (a:=a) hT hz hE hzs hn h0 hs0 hp hpm
  obtain⟨Z',h1,h2,h3,h4,h5,h6⟩:=hc.push hH hμ (Pushed.alloc w (.cells cs E)) (List.append_nil _).symm r2
  refine⟨_,_,_,Z',by simp only [execOp];rw [Sem.run_bind,r1];rfl,h1,h2,h3,h4,⟨by simp [LV.isAgg],fun _=>?_⟩,hnew _⟩
  simp only [bZ]
  have hl:=aM.length _ _ r2
  have hbl:(eN (List.replicate n z) (ps.toList.map fun p=>(p.1,ρ p.2))).length=n:=by
   have:∀ (qs:List (Nat × LV)) (zs:List LV),(eN zs qs).length=zs.length:=fun qs=>by
    induction qs with
    | nil=>intro zs;rfl
    | cons q qs ih=>intro zs;exact(ih _).trans (by simp)
   rw [this];simp
  exact .inr ⟨w.heap.size,n,cs,E,(0,0),by simp,h5,Nat.le_refl _,h6,by rw [←Array.length_toList,hl,hbl];simp⟩
 | @lit0 T E sz ag hT hE =>
  obtain⟨Z',h1,h2,h3,h4,h5,h6⟩:=hc.push hH hμ (Pushed.alloc w (.cells #[] E)) (part:=[]) (rest:=[]) rfl (by simp [aM])
  refine⟨_,_,_,Z',by simp [execOp,Instr.buildSlice,run_underlying hT,dV hE,Instr.fill,newRow,show (Array.map (fun _:Nat=>(default:Value)) (Array.range 0))=#[] from by apply Array.ext';simp];exact rfl,h1,h2,h3,h4,⟨by simp [LV.isAgg],fun _=>?_⟩,hnew _⟩
  simp only [bZ]
  exact .inr ⟨w.heap.size,0,#[],E,(0,0),by rw [Nat.zero_mul],h5,Nat.le_refl _,h6,by simp⟩
 | @box T x hne =>
  have e1:=hρ x (by simp [Op.operands])
  obtain⟨c1,c2,_,_⟩:=(bP.to1 hne.2 hne.1 e1).cells hne.1
  have hrep:aM Z μ w (ρ x).csize [ρ x] (a.eval x).cells.toList:=by
   simp only [aM]
   exact⟨_,[],by simp,by simp [c2],c1,rfl⟩
  obtain⟨Z',h1,h2,h3,h4,h5,h6⟩:=hc.push (T:=T) (c:=(a.eval x).cells) hH hμ (Pushed.alloc w _) (List.append_nil _).symm hrep
  refine⟨_,_,_,Z',by simp only [execOp,Instr.box,newVar,newRow,Sem.run_bind,run_newObj,Result.andThen_ok,Sem.run_pure];rfl,h1,h2,h3,h4,⟨by simp [LV.isAgg],fun _=>?_⟩,hnew _⟩
  simp only [bZ]
  exact⟨w.heap.size,by simp,h5⟩
 | @alloc T z hz =>
  obtain⟨i,zv,z1,z2,z3,z4⟩:=hz
  have hne:=LV.pure_ne_any z3
  have hzl:=bZ.len (z4 Z μ w) hne
  have hrep:aM Z μ w z.csize [z] zv.cells.toList:=by
   simp only [aM]
   exact⟨_,[],by simp,by simpa using hzl,z4 Z μ w,rfl⟩
  obtain⟨Z',h1,h2,h3,h4,h5,h6⟩:=hc.push (T:=T) (c:=zv.cells) hH hμ (Pushed.alloc w _) (List.append_nil _).symm hrep
  have hzv:(zeroValue T).run P w=.ok zv w:=by simp [zeroValue,typeInfo,z1,z2]
  refine⟨_,_,_,Z',by simp only [execOp,Instr.alloc,newVar,newRow,Sem.run_bind,hzv,run_newObj,Result.andThen_ok,Sem.run_pure];rfl,h1,h2,h3,h4,⟨by simp [LV.isAgg],fun _=>?_⟩,hnew _⟩
  simp only [bZ]
  exact⟨w.heap.size,by simp,h5⟩
theorem aDF {op:Op} {r:LV} {d:Nat} {bs:List Blk} (hc:Core W X Z0 μ Z H w) (ho:OpC P H ρ d op r bs) (hρ:∀ x∈op.operands,bP Z μ w (ρ x) (a.eval x))
  (hfr:∀ i blk,bs[i]?=some blk→∃ m,H (bK d (i+1))=some ⟨blk.sz,blk.vals,m⟩∧(blk.mt=false→m=false)∧μ (bK d (i+1))=none)
  (dst:Option Tmp) (ty:TypeId) (pos:String) (after:Array Edge) (g:Option (Nat × Bool)) {K:Act→World→Prop} {Q:Exit→Act→World→Prop}
  (hK:∀ v w' μ' Z',After W X Z0 μ Z H w r (bs.mapIdx fun i blk=>(bK d (i+1),blk)) v w' μ' Z'→K (a.put dst v) w') :
  (⟨dst,op,ty,pos,after,g⟩:Oper).wp P a w K Q:=by
 cases ho with
 | @func f xs as args r bs ha hk hlen hpu =>
  have hargs:=oZ (a:=a) hc xs.toList args ha (fun x hx=>hρ x (by simp [Op.operands,Call.operands];right;simpa using hx))
  refine wU (vs:=xs.map a.eval) hc hk hlen hpu (by simpa using hargs) hfr ?_ hK
  simp only [execOp,resolve,Act.eval,Deferred.ofValue,Sem.run_bind,Sem.run_pure,Result.andThen_ok,invoke]
  have:=lB (P:=P) (w:=w) (args:=xs.map a.eval) hk.1
  simpa using this
 | @clo t f cap xs as args r bs ht ha hcap hk hlen hpu =>
  have hargs:=oZ (a:=a) hc xs.toList args ha (fun x hx=>hρ x (by simp [Op.operands,Call.operands];right;simpa using hx))
  have e1:=hρ (.tmp t) (by simp [Op.operands,Call.operands])
  rw [ht] at e1
  have e2:=e1.2 rfl
  simp only [bZ] at e2
  obtain⟨cv,q1,q2,_⟩:=e2
  simp only [List.cons.injEq,and_true] at q1
  have hcv:=pU (μ':=fun _=>none) cap cv.toList hcap.1 hcap.2 q2
  refine wU (vs:=xs.map a.eval++cv) hc hk hlen hpu (by simpa using dY.append _ _ _ _ hargs hcv) hfr ?_ hK
  have:=lB (P:=P) (w:=w) (args:=xs.map a.eval++cv) hk.1
  simp only [execOp,resolve,q1,Deferred.ofValue,Sem.run_bind,Sem.run_pure,Result.andThen_ok,invoke]
  simpa using this
 | @mk f xs caps ha h1 =>
  have hargs:=oZ (a:=a) hc xs.toList caps ha (fun x hx=>hρ x (by simp [Op.operands];simpa using hx))
  have hp:=(ImmL.lay ha).2
  have hrun:(execOp a.eval ⟨dst,.makeFunc (.func f) #[] xs,ty,pos,after,g⟩).run P w=.ok (.value (.func (.func f) #[] (xs.map a.eval))) w:=by
   simp [execOp,Instr.makeFunc]
  unfold Oper.wp
  rw [hrun,Oper.upon_value]
  refine hK _ w μ Z ⟨hc,fun _ h=>h,fun _ _ h=>h,Frame.refl _ _ _,⟨by simp [LV.isAgg],fun _=>?_⟩,fun b h=>.inl h⟩
  simp only [bZ]
  exact⟨_,rfl,pR caps _ hp h1 (by simpa using hargs),hp⟩
theorem OpV.sound {op:Op} {r:LV} {d:Nat} {fr:List (Nat × Blk)} (hc:Core W X Z0 μ Z H w) (ho:OpV P H ρ d op r fr) (hρ:∀ x∈op.operands,bP Z μ w (ρ x) (a.eval x))
  (hfr:∀ b blk,(b,blk)∈fr→∃ m,H b=some ⟨blk.sz,blk.vals,m⟩∧(blk.mt=false→m=false)∧μ b=none)
  (dst:Option Tmp) (ty:TypeId) (pos:String) (after:Array Edge) (g:Option (Nat × Bool)) {K:Act→World→Prop} {Q:Exit→Act→World→Prop}
  (hK:∀ v w' μ' Z',After W X Z0 μ Z H w r fr v w' μ' Z'→K (a.put dst v) w') :
  (⟨dst,op,ty,pos,after,g⟩:Oper).wp P a w K Q:=by
 cases ho with
 | pure h =>
  obtain⟨v,h1,h2⟩:=h.sound hρ hc.heap dst ty pos after g
  unfold Oper.wp
  rw [h1,Oper.upon_value]
  exact hK v w μ Z ⟨hc,fun _ h=>h,fun _ _ h=>h,Frame.refl _ _ _,h2,fun b h=>.inl h⟩
 | @alloc blk h =>
  obtain⟨m,g1,_,g3⟩:=hfr d blk (by simp)
  obtain⟨v,w',μ',Z',h1,h2⟩:=aEy hc h hρ g1 g3 dst ty pos after g
  unfold Oper.wp
  rw [h1,Oper.upon_value]
  exact hK v w' μ' Z' h2
 | @call bs h =>
  refine aDF hc h hρ (fun i blk hb=>hfr _ blk ?_) dst ty pos after g hK
  rw [List.mem_mapIdx]
  obtain⟨h1,h2⟩:=List.getElem?_eq_some_iff.1 hb
  exact⟨i,h1,by rw [h2]⟩
end
end Go.Lg
namespace Go.Lg
mutual
def LV.kill (b:Nat):LV→LV
 | .ref c sz off len=>if c=b then .any else .ref c sz off len
 | .eptr c sz i o=>if c=b then .any else .eptr c sz i o
 | .agg l=>.agg (bH b l)
 | .tup l=>.tup (bH b l)
 | .any=>.any
 | .v x=>.v x
 | .list sz l=>.list sz l
 | .boxp c=>.boxp c
 | .clo f l=>.clo f l
def bH (b:Nat):List LV→List LV
 | []=>[]
 | x :: xs=>x.kill b :: bH b xs
end
mutual
theorem LV.kill_csize (b:Nat):∀ (x:LV),(x.kill b).csize=x.csize
 | .any=>rfl | .v _=>rfl | .list ..=>rfl | .boxp _=>rfl | .clo ..=>rfl
 | .tup _=>rfl
 | .ref c sz off len=>by simp only [LV.kill];split<;>rfl
 | .eptr c sz i o=>by simp only [LV.kill];split<;>rfl
 | .agg l=>by simp only [LV.kill,LV.csize,tD b l]
theorem tD (b:Nat):∀ (l:List LV),aL (bH b l)=aL l
 | []=>rfl
 | x :: xs=>by simp only [bH,aL,LV.kill_csize b x,tD b xs]
end
theorem LV.kill_isAgg (b:Nat) (x:LV):(x.kill b).isAgg=x.isAgg:=by
 cases x with
 | ref c sz off len=>simp only [LV.kill];split<;>rfl
 | eptr c sz i o=>simp only [LV.kill];split<;>rfl
 | _=>rfl
mutual
theorem LV.kill_pure (b:Nat):∀ (x:LV),x.pure=true→x.kill b=x
 | .any,_=>rfl
 | .v _,_=>rfl
 | .list sz l,_=>rfl
 | .agg l,h=>by simp only [LV.kill,qJ b l (by simpa [LV.pure] using h)]
 | .ref ..,h=>by simp [LV.pure] at h
 | .eptr ..,h=>by simp [LV.pure] at h
 | .boxp c,_=>rfl
 | .clo g l,_=>rfl
 | .tup l,h=>by simp [LV.pure] at h
theorem qJ (b:Nat):∀ (l:List LV),aV l=true→bH b l=l
 | [],_=>rfl
 | x :: xs,h=>by simp only [bH,LV.kill_pure b x (fX h).1,qJ b xs (fX h).2]
end
section
variable {Z Z':Nat→Prop} {μ μ':Nat→Option Nat} {w w':World} {b:Nat}
mutual
theorem bZ.kill (hz:∀ id,Z id→Z' id) (hm:∀ c id,c≠b→μ c=some id→μ' c=some id) (hf:Frame Z μ w w') :
  ∀ (lv:LV) (cs:List Value),bZ Z μ w lv cs→bZ Z' μ' w' (lv.kill b) cs
 | .any,_,h=>by simpa [bZ,LV.kill] using h
 | .v x,cs,h=>by simpa [bZ,LV.kill] using h
 | .list sz l,cs,h=>by
   have hp:(LV.list sz l).pure=true:=by
    simp only [bZ] at h
    obtain⟨a,len,cap,_,_,_,_,h9⟩:=h
    simpa [LV.pure] using h9
   exact bZ.repure hz hf.z _ _ hp h
 | .agg l,cs,h=>by
   simp only [bZ,LV.kill] at h ⊢
   exact bV.kill hz hm hf l cs h
 | .ref c sz off len,cs,h=>by
   simp only [LV.kill]
   split
   ·exact fun u hu=>bZ.one _ _ h u hu
   ·rename_i hne
    simp only [bZ] at h ⊢
    rcases h with h | ⟨id,cap,c',T,fz,h1,h2,h3,h4,h5⟩
    ·exact .inl h
    obtain⟨c2,h6,h7⟩:=hf.m c id h2 c' T fz h4
    exact .inr ⟨id,cap,c2,T,fz,h1,hm _ _ hne h2,h3,h6,by omega⟩
 | .eptr c sz i o,cs,h=>by
   simp only [LV.kill]
   split
   ·exact fun u hu=>bZ.one _ _ h u hu
   ·rename_i hne
    simp only [bZ] at h ⊢
    obtain⟨id,h1,h2⟩:=h
    exact⟨id,h1,hm _ _ hne h2⟩
 | .boxp c,cs,h=>by
   have hp:(LV.boxp c).pure=true:=by
    simp only [bZ] at h
    obtain⟨blk,off,cc,T,fz,part,rest,_,_,_,_,_,_,h7⟩:=h
    simpa [LV.pure] using h7
   exact bZ.repure hz hf.z _ _ hp h
 | .clo f cap,cs,h=>by
   have hp:(LV.clo f cap).pure=true:=by
    simp only [bZ] at h
    obtain⟨vs,_,_,h3⟩:=h
    simpa [LV.pure] using h3
   exact bZ.repure hz hf.z _ _ hp h
 | .tup _,_,h=>by simp [bZ] at h
theorem bV.kill (hz:∀ id,Z id→Z' id) (hm:∀ c id,c≠b→μ c=some id→μ' c=some id) (hf:Frame Z μ w w') :
  ∀ (l:List LV) (cs:List Value),bV Z μ w l cs→bV Z' μ' w' (bH b l) cs
 | [],cs,h=>by simpa [bV,bH] using h
 | x :: xs,cs,h=>by
   simp only [bV,bH] at h ⊢
   obtain⟨c1,c2,h1,h2,h3,h4⟩:=h
   exact⟨c1,c2,h1,by rw [LV.kill_csize];exact h2,bZ.kill hz hm hf x c1 h3,bV.kill hz hm hf xs c2 h4⟩
end
theorem aM.kill {sz:Nat} (hz:∀ id,Z id→Z' id) (hm:∀ c id,c≠b→μ c=some id→μ' c=some id) (hf:Frame Z μ w w') :
  ∀ (l:List LV) (cs:List Value),aM Z μ w sz l cs→aM Z' μ' w' sz (bH b l) cs
 | [],cs,h=>by simpa [aM,bH] using h
 | x :: xs,cs,h=>by
   simp only [aM,bH] at h ⊢
   obtain⟨c1,c2,h1,h2,h3,h4⟩:=h
   exact⟨c1,c2,h1,h2,bZ.kill hz hm hf x c1 h3,aM.kill hz hm hf xs c2 h4⟩
theorem dW.kill (hz:∀ id,Z id→Z' id) (hm:∀ c id,c≠b→μ c=some id→μ' c=some id) (hf:Frame Z μ w w') {lv:LV} {v:Value}
  (h:dW Z μ w lv v):dW Z' μ' w' (lv.kill b) v :=
 ⟨fun e=>let ⟨cs,h1,h2⟩:=h.1 (by rwa [LV.kill_isAgg] at e);⟨cs,h1,bZ.kill hz hm hf _ _ h2⟩,fun e=>bZ.kill hz hm hf _ _ (h.2 (by rwa [LV.kill_isAgg] at e))⟩
theorem dY.kill (hz:∀ id,Z id→Z' id) (hm:∀ c id,c≠b→μ c=some id→μ' c=some id) (hf:Frame Z μ w w') :
  ∀ (l:List LV) (vs:List Value),dY Z μ w l vs→dY Z' μ' w' (bH b l) vs
 | [],_,h=>h
 | _ :: xs,_,⟨v,vs',h1,h2,h3⟩=>⟨v,vs',h1,h2.kill hz hm hf,dY.kill hz hm hf xs vs' h3⟩
theorem bP.kill (hz:∀ id,Z id→Z' id) (hm:∀ c id,c≠b→μ c=some id→μ' c=some id) (hf:Frame Z μ w w') {lv:LV} {v:Value}
  (h:bP Z μ w lv v):bP Z' μ' w' (lv.kill b) v:=by
 cases lv with
 | tup l=>obtain⟨vs,h1,h2⟩:=h;exact⟨vs,h1,dY.kill hz hm hf _ _ h2⟩
 | any=>trivial
 | _ =>
  refine bP.of1 (fun l e=>?_) (dW.kill hz hm hf h)
  simp only [LV.kill] at e
  first
   | cases e
   | (split at e<;>cases e)
end
structure St where
 slot:Nat→LV
 heap:cM
def St.ev (L:St):Operand→LV
 | .tmp t=>L.slot t
 | .const v=>if v.oneCell' then .v v else .any
 | .func f=>.clo f []
 | .global _=>.any
def St.put (L:St) (d:Option Nat) (r:LV):St :=
 match d with
 | some t=>⟨fun s=>bif Nat.beq s t then r else L.slot s,L.heap⟩
 | none=>L
theorem bU (L:St) (t:Nat) (r:LV) (s:Nat):(L.put (some t) r).slot s=if s=t then r else L.slot s:=by
 show (bif Nat.beq s t then r else L.slot s)=_
 by_cases h:s=t
 ·subst h;simp
 ·have:Nat.beq s t=false:=by rw [←Bool.not_eq_true,Nat.beq_eq];exact h
  rw [this,if_neg h];rfl
def St.setB (L:St) (b:Nat) (x:Option Blk):St:=⟨L.slot,fun c=>if c=b then x else L.heap c⟩
def St.kill (L:St) (b:Nat):St :=
 ⟨fun t=>(L.slot t).kill b,fun c=>if c=b then none else(L.heap c).map fun blk=>⟨blk.sz,bH b blk.vals,blk.mt⟩⟩
def kZ (n:Nat) (W:World) (X:XS) (Z0:Nat→Prop) (L:St) (a:Act) (w:World):Prop :=
 a.defers=[]∧a.tmps.size=n∧∃ μ Z,Core W X Z0 μ Z L.heap w∧∀ t,bP Z μ w (L.slot t) (a.tmps.getD t undef)
inductive ArgM (H:cM) (b:Nat):LV→LV→Prop
 | imm {x y} (h:Imm H x y):ArgM H b x y
 | ref {sz off len}:ArgM H b (.ref b sz off len) (.ref 0 sz off len)
 | ptr {sz i o}:ArgM H b (.eptr b sz i o) (.eptr 0 sz i o)
inductive ArgML (H:cM) (b:Nat):List LV→List LV→Prop
 | nil:ArgML H b [] []
 | cons {x y xs ys} (h:ArgM H b x y) (t:ArgML H b xs ys):ArgML H b (x :: xs) (y :: ys)
inductive Names (b:Nat):List LV→Prop
 | ref {sz off len xs} (h:0<len):Names b (.ref b sz off len :: xs)
 | ptr {sz i o xs}:Names b (.eptr b sz i o :: xs)
 | tl {x xs} (h:Names b xs):Names b (x :: xs)
inductive OpM (P:Program) (L:St) (dst:Option Tmp):Op→St→Prop
 | call {f xs as args r b blk blk'} (hb:L.heap b=some blk) (hm:blk.mt=true) (hp:aV blk.vals=true) (ha:ArgML L.heap b (xs.toList.map L.ev) args) (hn:Names b (xs.toList.map L.ev)) (hk:fZ P f blk args r blk')
   (hm':blk'.mt=true) (hp':aV blk'.vals=true) :
   OpM P L dst (.call ⟨.value (.func f),xs,as⟩) ((L.setB b (some blk')).put dst (r.ren fun _=>b))
 | appz {T U E x y z k kl sz by_ n d} (hT:P.underlying T=some (.slice E)) (hU:P.underlying U=some (.int k)) (hz:bA P E z) (hE:bT P E sz z.isAgg) (hzs:z.csize=sz) (hb:bJ P E by_)
   (hx:L.ev x=.v (.slice none 0 0)) (hy:L.ev y=.v (.int kl (n:Nat))) (hbd:L.heap d=none) (h0:0<n) (hs0:0<sz) (hm:n*by_≤140737488355328) (h63:n≤4611686018427387904) :
   OpM P L dst (.call ⟨.builtin .append,#[x,y],#[T,U]⟩) ((L.setB d (some ⟨sz,List.replicate n z,true⟩)).put dst (.ref d sz 0 n))
inductive OpT (P:Program) (L:St) (dst:Option Tmp):Op→St→Prop
 | store {T p x b sz i o blk y y'} (hp:L.ev p=.eptr b sz i o) (hb:L.heap b=some blk) (hs:blk.sz=sz) (hm:blk.mt=true) (hi:blk.vals[i]?=some y) (hy:y.csize=sz)
   (hput:y.put o (L.ev x)=some y') (hT:bT P T (L.ev x).csize (L.ev x).isAgg) (hne:L.ev x≠.any∧∀ l,L.ev x≠.tup l) :
   OpT P L dst (.store T p x) ((L.setB b (some ⟨sz,blk.vals.set i y',true⟩)).put dst .any)
 | appX {T U E E' d b sz len blk x y news z by_} (hx:L.ev x=.ref b sz 0 len) (hb:L.heap b=some blk) (hs:blk.sz=sz) (hm:blk.mt=true) (hlen:len≤blk.vals.length) (hbd:d=b∨L.heap d=none) (hb0:b≠0)
   (hT:P.underlying T=some (.slice E)) (hU:P.underlying U=some (.slice E')) (hz:bA P E z) (hE:bT P E sz z.isAgg) (hzs:z.csize=sz) (hby:bJ P E by_)
   (hy:(∃ c off blk2,L.ev y=.ref c sz off news.length∧c≠b∧L.heap c=some blk2∧blk2.sz=sz∧off+news.length≤blk2.vals.length∧news=(blk2.vals.drop off).take news.length∧aV news=true) ∨
    L.ev y=.list sz news∨(L.ev y=.v (.slice none 0 0)∧news=[]))
   (hsz:(len+news.length)*by_≤140737488355328) (h63:len+news.length≤4611686018427387904) (hs0:0<sz) :
   OpT P L dst (.call ⟨.builtin .append,#[x,y],#[T,U]⟩) (((L.kill b).setB d (some ⟨sz,bH b (blk.vals.take len++news),true⟩)).put dst (.ref d sz 0 (len+news.length)))
 | app0X {T U E E' d sz x y news z by_} (hx:L.ev x=.v (.slice none 0 0)) (hbd:L.heap d=none)
   (hT:P.underlying T=some (.slice E)) (hU:P.underlying U=some (.slice E')) (hz:bA P E z) (hE:bT P E sz z.isAgg) (hzs:z.csize=sz) (hby:bJ P E by_)
   (hy:(∃ c off blk2,L.ev y=.ref c sz off news.length∧L.heap c=some blk2∧blk2.sz=sz∧off+news.length≤blk2.vals.length∧news=(blk2.vals.drop off).take news.length∧aV news=true) ∨
    L.ev y=.list sz news)
   (hn:0<news.length) (hsz:news.length*by_≤140737488355328) (h63:news.length≤4611686018427387904) (hs0:0<sz) :
   OpT P L dst (.call ⟨.builtin .append,#[x,y],#[T,U]⟩) ((L.setB d (some ⟨sz,news,true⟩)).put dst (.ref d sz 0 news.length))
 | clr {T E x b sz off n blk z} (hx:L.ev x=.ref b sz off n) (hb:L.heap b=some blk) (hs:blk.sz=sz) (hm:blk.mt=true) (hl:off+n≤blk.vals.length) (hT:P.underlying T=some (.slice E)) (hz:bA P E z) (hzs:z.csize=sz) :
   OpT P L dst (.call ⟨.builtin .clear,#[x],#[T]⟩) ((L.setB b (some ⟨sz,blk.vals.take off++List.replicate n z++blk.vals.drop (off+n),true⟩)).put dst .any)
 | cpy {T U E E' x y b sz off news blk ag} (hx:L.ev x=.ref b sz off news.length) (hb:L.heap b=some blk) (hs:blk.sz=sz) (hm:blk.mt=true) (hl:off+news.length≤blk.vals.length) (hT:P.underlying T=some (.slice E)) (hU:P.underlying U=some (.slice E')) (hE:bT P E sz ag)
   (hy:(∃ c off2 blk2,L.ev y=.ref c sz off2 news.length∧L.heap c=some blk2∧blk2.sz=sz∧off2+news.length≤blk2.vals.length∧news=(blk2.vals.drop off2).take news.length)∨L.ev y=.list sz news) :
   OpT P L dst (.call ⟨.builtin .copy,#[x,y],#[T,U]⟩) ((L.setB b (some ⟨sz,blk.vals.take off++news++blk.vals.drop (off+news.length),true⟩)).put dst .any)
theorem OpT.app {P:Program} {L:St} {dst:Option Tmp} {T:TypeId} {U:TypeId} {E:TypeId} {E':TypeId} {d:Nat} {b:Nat} {sz:Nat} {len:Nat} {blk:Blk} {x:Operand} {y:Operand} {news:List LV} {z:LV} {by_:Nat} (hd:dst=some d) (hx:L.ev x=.ref b sz 0 len) (hb:L.heap b=some blk) (hs:blk.sz=sz) (hm:blk.mt=true) (hlen:len≤blk.vals.length) (hbd:d=b∨L.heap d=none) (hb0:b≠0)
   (hT:P.underlying T=some (.slice E)) (hU:P.underlying U=some (.slice E')) (hz:bA P E z) (hE:bT P E sz z.isAgg) (hzs:z.csize=sz) (hby:bJ P E by_)
   (hy:(∃ c off blk2,L.ev y=.ref c sz off news.length∧c≠b∧L.heap c=some blk2∧blk2.sz=sz∧off+news.length≤blk2.vals.length∧news=(blk2.vals.drop off).take news.length∧aV news=true) ∨
    L.ev y=.list sz news∨(L.ev y=.v (.slice none 0 0)∧news=[]))
   (hsz:(len+news.length)*by_≤140737488355328) (h63:len+news.length≤4611686018427387904) (hs0:0<sz) :
  OpT P L dst (.call ⟨.builtin .append,#[x,y],#[T,U]⟩) (((L.kill b).setB d (some ⟨sz,bH b (blk.vals.take len++news),true⟩)).put dst (.ref d sz 0 (len+news.length))):=.appX hx hb hs hm hlen hbd hb0 hT hU hz hE hzs hby hy hsz h63 hs0
section
variable {P:Program} {W w w':World} {X:XS} {Z0 Z:Nat→Prop} {μ:Nat→Option Nat} {H:cM} {a:Act} {L L':St} {n:Nat}
theorem fL (h:∀ t,bP Z μ w (L.slot t) (a.tmps.getD t undef)) (x:Operand):bP Z μ w (L.ev x) (a.eval x):=by
 cases x with
 | tmp t=>exact h t
 | const v =>
  simp only [St.ev,Act.eval]
  split
  ·exact bP.v (by assumption)
  ·trivial
 | func f =>
  simp only [St.ev,Act.eval]
  exact⟨by simp [LV.isAgg],fun _=>by simp [bZ,aM,aV]⟩
 | global g=>simp only [St.ev];trivial
theorem gL {d:Option Nat} {r:LV} {v:Value} (hd:∀ t,d=some t→t<a.tmps.size) (h:∀ t,bP Z μ w (L.slot t) (a.tmps.getD t undef)) (hv:bP Z μ w r v) :
  ∀ t,bP Z μ w ((L.put d r).slot t) ((a.put d v).tmps.getD t undef):=by
 intro t
 cases d with
 | none=>exact h t
 | some s =>
  rw [bU]
  simp only [Act.put]
  by_cases hts:t=s
  ·subst hts
   have:=hd t rfl
   simp [this]
   exact hv
  ·have:=h t
   simp only [hts,if_false,Array.getD_eq_getD_getElem?,Array.getElem?_setIfInBounds_ne (Ne.symm hts)] at this ⊢
   exact this
theorem fU (a:Act) (d:Option Nat) (v:Value):(a.put d v).tmps.size=a.tmps.size:=by cases d<;>simp [Act.put]
theorem eG (a:Act) (d:Option Nat) (v:Value):(a.put d v).defers=a.defers:=by cases d<;>rfl
theorem eL (L:St) (d:Option Nat) (r:LV):(L.put d r).heap=L.heap:=by cases d<;>rfl
end
end Go.Lg
namespace Go.Lg
section
variable {P:Program} {W w w':World} {X:XS} {Z0 Z:Nat→Prop} {μ:Nat→Option Nat} {H:cM} {a:Act} {L L':St} {n:Nat}
theorem Core.rewrite {b id:Nat} {blk blk':Blk} {c c':Array Value} {T:TypeId} {part rest:List Value} (hc:Core W X Z0 μ Z H w) (hb:μ b=some id) (hH:H b=some blk) (hm:blk.mt=true) (hm':blk'.mt=true)
  (hcell:w.heap[id]?=some (.cells c T (0,0))) (hsz:c'.size=c.size) (h1:c'.toList=part++rest) (h2:aM Z μ w blk'.sz blk'.vals part)
  (hw:w'=w.setRow id c') :
  Core W X Z0 μ Z (fun k=>if k=b then some blk' else H k) w'∧Frame Z μ w w':=by
 subst hw
 have hself:(w.setRow id c').heap[id]?=some (.cells c' T (0,0)):=setRow_heap w id c c' T (0,0) hcell
 have hother:∀ k,k≠id→(w.setRow id c').heap[k]?=w.heap[k]?:=fun k hk=>by
  simp only [World.setRow,Array.getElem?_modify,if_neg (Ne.symm hk)]
 have hsize:(w.setRow id c').heap.size=w.heap.size:=by simp [World.setRow]
 have hnz:¬ Z id:=hc.mutz b id blk hb hH hm
 have hfr:Frame Z μ w (w.setRow id c'):=by
  refine⟨fun k hk=>hother k (fun e=>hnz (e ▸ hk)),fun b' k hk cc T' fz hcc=>?_⟩
  by_cases e:k=id
  ·subst e
   rw [hcell] at hcc;cases hcc
   exact⟨c',hself,hsz⟩
  ·exact⟨cc,(hother k e).trans hcc,rfl⟩
 refine⟨⟨?_,fun k hk=>by rw [hsize];exact hc.zone k hk,hc.zsup,hc.zsub,hc.inj,hc.own,hc.x0,hc.xlt,hc.x1,?_,?_,?_⟩,hfr⟩
 ·refine⟨hc.keep.os,hc.keep.tape,hc.keep.output,by rw [hsize];exact hc.keep.size,fun k hk hx=>?_,fun k hx c0 T0 fz0 h0=>?_⟩
  have:k≠id:=by
   rintro rfl
   rcases hc.own b k hb with h | h
   ·omega
   ·exact hx h
  exact(hother k this).trans (hc.keep.block k hk hx)
  obtain⟨c1,g1,g2⟩:=hc.keep.xsz k hx c0 T0 fz0 h0
  by_cases e:k=id
  ·subst e
   rw [hcell] at g1;cases g1
   exact⟨c',hself,hsz.trans g2⟩
  ·exact⟨c1,(hother k e).trans g1,g2⟩
 ·intro b' k bk h g hmt
  by_cases e:b'=b
  ·subst e;rw [hb] at h;cases h;exact hnz
  ·rw [if_neg e] at g;exact hc.mutz b' k bk h g hmt
 ·intro b' k bk h g hmt
  by_cases e:b'=b
  ·subst e;rw [if_pos rfl] at g;cases g;rw [hm'] at hmt;cases hmt
  ·rw [if_neg e] at g;exact hc.frz b' k bk h g hmt
 ·intro b' k h
  by_cases e:b'=b
  ·subst e;rw [hb] at h;cases h
   exact⟨blk',if_pos rfl,c',T,part,rest,hself,h1,h2.mono (fun _ h=>h) (fun _ _ h=>h) hfr⟩
  ·obtain⟨bk,g1,g2⟩:=hc.heap b' k h
   have hne:k≠id:=fun e'=>e (hc.inj b' b k h (e' ▸ hb))
   exact⟨bk,by rw [if_neg e];exact g1,g2.mono (fun _ h=>h) (fun _ _ h=>h) hfr (hother k hne)⟩
theorem tN {T:TypeId} {id off:Nat} {c:Array Value} {U:TypeId} {v:Value} {sz:Nat} {ag:Bool} (hT:bT P T sz ag) (hcell:w.heap[id]?=some (.cells c U (0,0)))
  (hv:v.cells.size=sz) (h1:∀ u∈v.cells.toList,u.oneCell'=true) (hfit:off+sz≤c.size) :
  (storeVar T ⟨id,off,none⟩ v).run P w=.ok () (w.setRow id (c.toList.take off++v.cells.toList++c.toList.drop (off+sz)).toArray):=by
 have:=run_storeCells_at P id off U v.cells.toList 0 c w hcell (by simp;omega) h1
 simp only [storeVar,Sem.run_bind,dV hT,Result.andThen_ok,hv,ne_eq,not_true_eq_false,if_false,Sem.run_ite]
 simpa [hv] using this
theorem aAv {T:TypeId} {p x:Operand} {b sz i o:Nat} {blk:Blk} {y y':LV} (hc:Core W X Z0 μ Z L.heap w) (hr:∀ t,bP Z μ w (L.slot t) (a.tmps.getD t undef))
  (hp:L.ev p=.eptr b sz i o) (hb:L.heap b=some blk) (hs:blk.sz=sz) (hm:blk.mt=true) (hi:blk.vals[i]?=some y) (hy:y.csize=sz)
  (hput:y.put o (L.ev x)=some y') (hT:bT P T (L.ev x).csize (L.ev x).isAgg) (hne:L.ev x≠.any∧∀ l,L.ev x≠.tup l)
  (dst:Option Tmp) (ty:TypeId) (pos:String) (after:Array Edge) (g:Option (Nat × Bool)) :
  ∃ w',(execOp a.eval ⟨dst,.store T p x,ty,pos,after,g⟩).run P w=.ok .skip w'∧Core W X Z0 μ Z (L.setB b (some ⟨sz,blk.vals.set i y',true⟩)).heap w'∧Frame Z μ w w':=by
 have e1:=fL (L:=L) hr p
 rw [hp] at e1
 have e2:=e1.2 rfl
 simp only [bZ] at e2
 obtain⟨id,h1,h2⟩:=e2
 simp only [List.cons.injEq,and_true] at h1
 obtain⟨blk',hb',c,U,part,rest,q1,q2,q3⟩:=hc.heap b id h2
 rw [hb] at hb';cases hb'
 obtain⟨c1,c2,c3,_⟩:=(bP.to1 hne.2 hne.1 (fL (L:=L) hr x)).cells hne.1
 obtain⟨pre,ch,post,g1,g2,g3,g4,g5⟩:=aM.get blk.vals part i y q3 hi
 obtain⟨pre2,ch2,post2,j1,j2,j3,j4,j5⟩:=LV.put_spec (L.ev x) (a.eval x).cells.toList c1 (by simpa using c2) y o y' ch hput g4 (by rw [g3,hs,hy])
 have hset:=g5 y' _ j4 (by
  have:=congrArg List.length j1
  simp only [List.length_append] at this ⊢
  omega)
 have hlen:c.toList.length=pre.length+(pre2.length+(ch2.length+post2.length)+post.length)+rest.length:=by
  rw [q2,g1,j1];simp;omega
 have hfit:i*sz+o+(L.ev x).csize≤c.size:=by
  rw [←Array.length_toList,hlen]
  rw [hs] at g2
  have:ch2.length=(L.ev x).csize:=by rw [j3];simpa using c2
  omega
 have hrun:=tN (P:=P) (id:=id) (off:=i*sz+o) hT q1 c2 c3 hfit
 have hnew:(c.toList.take (i*sz+o)++(a.eval x).cells.toList++c.toList.drop (i*sz+o+(L.ev x).csize))=(pre++((pre2++((a.eval x).cells.toList++post2))++post))++rest:=by
  rw [q2,g1,j1]
  have hl1:i*sz+o=(pre++pre2).length:=by rw [hs] at g2;simp;omega
  have hl2:(L.ev x).csize=ch2.length:=by rw [j3];simpa using c2.symm
  rw [hl1,hl2]
  have e:(pre++(pre2++(ch2++post2)++post))++rest=(pre++pre2)++(ch2++(post2++(post++rest))):=by simp
  rw [e,List.take_left]
  have e2:List.drop ((pre++pre2).length+ch2.length) ((pre++pre2)++(ch2++(post2++(post++rest))))=post2++(post++rest):=by
   rw [←List.drop_drop,List.drop_left,List.drop_left]
  rw [e2];simp
 rw [hnew] at hrun
 have hcs:c.size=c.toList.length:=Array.length_toList.symm
 have hA:(a.eval x).cells.toList.length=ch2.length:=j3.symm
 obtain⟨k1,k2⟩:=Core.rewrite (w':=w.setRow id ((pre++((pre2++((a.eval x).cells.toList++post2))++post))++rest).toArray) (blk':=⟨sz,blk.vals.set i y',true⟩)
  (part:=pre++((pre2++((a.eval x).cells.toList++post2))++post)) (rest:=rest) hc h2 hb hm rfl q1
  (by rw [hcs,hlen];simp only [List.size_toArray,List.length_append,hA]) (by simp) (by rw [←hs];exact hset) rfl
 exact⟨_,by simp only [execOp,h1,Instr.storeAt,Instr.sureAddr,Sem.run_bind,Sem.run_pure,Result.andThen_ok,hrun],k1,k2⟩
theorem ArgM.sound {b i0:Nat} (hc:Core W X Z0 μ Z H w) (hb:μ b=some i0) {x y:LV} {v:Value} (h:ArgM H b x y) (hr:bP Z μ w x v):dW Z (mu0 i0) w y v:=by
 cases h with
 | imm h=>exact Imm.soundV hc h hr
 | ref =>
  have:=hr.2 rfl
  refine⟨by simp [LV.isAgg],fun _=>?_⟩
  simp only [bZ] at this ⊢
  rcases this with h | ⟨id,cap,c,T,fz,h1,h2,h3⟩
  ·exact .inl h
  rw [hb] at h2;cases h2
  exact .inr ⟨i0,cap,c,T,fz,h1,rfl,h3⟩
 | ptr =>
  have:=hr.2 rfl
  refine⟨by simp [LV.isAgg],fun _=>?_⟩
  simp only [bZ] at this ⊢
  obtain⟨id,h1,h2⟩:=this
  rw [hb] at h2;cases h2
  exact⟨i0,h1,rfl⟩
theorem ArgM.ne {b:Nat} {x y:LV} (h:ArgM H b x y):(x≠.any∧∀ m,x≠.tup m):=by
 cases h with
 | imm h=>exact h.ne
 | ref=>exact⟨by simp,by simp⟩
 | ptr=>exact⟨by simp,by simp⟩
theorem vM {b i0:Nat} (hc:Core W X Z0 μ Z H w) (hb:μ b=some i0) {ρ:Operand→LV}:∀ (xs:List Operand) (args:List LV),ArgML H b (xs.map ρ) args→(∀ x∈xs,bP Z μ w (ρ x) (a.eval x)) →
  dY Z (mu0 i0) w args (xs.map a.eval)
 | [],_,h,_=>by cases h;rfl
 | x :: xs,_,h,hr=>by
   cases h with
   | cons h t=>exact⟨_,_,rfl,h.sound hc hb (hr x (by simp)),vM hc hb xs _ t (fun y hy=>hr y (by simp [hy]))⟩
theorem Names.mu {b:Nat} {ρ:Operand→LV}:∀ (xs:List Operand),Names b (xs.map ρ)→(∀ x∈xs,bP Z μ w (ρ x) (a.eval x))→∃ id,μ b=some id
 | [],h,_=>by cases h
 | x :: xs,h,hr=>by
   have h1:=hr x (by simp)
   generalize hq:ρ x=q at h h1
   simp only [List.map_cons,hq] at h
   cases h with
   | ref hl =>
    have:=h1.2 rfl
    simp only [bZ] at this
    rcases this with⟨_,h⟩ | ⟨id,_,_,_,_,_,h2,_⟩
    ·omega
    exact⟨id,h2⟩
   | ptr =>
    have:=h1.2 rfl
    simp only [bZ] at this
    obtain⟨id,_,h2⟩:=this
    exact⟨id,h2⟩
   | tl h=>exact Names.mu xs h (fun y hy=>hr y (by simp [hy]))
theorem aA6 {f:FuncId} {xs:Array Operand} {as:Array TypeId} {args:List LV} {r:LV} {b:Nat} {blk blk':Blk} {dst:Option Tmp} {ty:TypeId} {pos:String} {af:Array Edge} {g:Option (Nat × Bool)}
  {K:Act→World→Prop} {Q:Exit→Act→World→Prop}
  (hc:Core W X Z0 μ Z L.heap w) (hr:∀ t,bP Z μ w (L.slot t) (a.tmps.getD t undef)) (hb:L.heap b=some blk) (hm:blk.mt=true) (hp:aV blk.vals=true)
  (ha:ArgML L.heap b (xs.toList.map L.ev) args) (hn:Names b (xs.toList.map L.ev)) (hk:fZ P f blk args r blk') (hm':blk'.mt=true) (hp':aV blk'.vals=true)
  (hK:∀ v w' Z',Core W X Z0 μ Z' (L.setB b (some blk')).heap w'→(∀ t,bP Z' μ w' (L.slot t) (a.tmps.getD t undef))→bP Z' μ w' (r.ren fun _=>b) v→K (a.put dst v) w') :
  (Oper.mk dst (.call ⟨.value (.func f),xs,as⟩) ty pos af g).wp P a w K Q:=by
 obtain⟨i0,hi0⟩:=Names.mu (μ:=μ) (Z:=Z) (w:=w) (a:=a) xs.toList hn (fun x _=>fL (L:=L) hr x)
 have hargs:=vM (a:=a) hc hi0 xs.toList args ha (fun x _=>fL (L:=L) hr x)
 have hrun:(execOp a.eval (Oper.mk dst (.call ⟨.value (.func f),xs,as⟩) ty pos af g)).run P w=.ok (.enter f (xs.map a.eval)) w:=by
  have:=lB (P:=P) (w:=w) (args:=xs.map a.eval) hk.1
  simp only [execOp,resolve,Act.eval,Deferred.ofValue,Sem.run_bind,Sem.run_pure,Result.andThen_ok,invoke]
  simpa using this
 unfold Oper.wp
 rw [hrun,Oper.upon_enter]
 obtain⟨blk1,g1,g2⟩:=hc.heap b i0 hi0
 rw [hb] at g1;cases g1
 have hbr:kB Z (mu0 i0) w blk i0:=by
  obtain⟨c,T,part,rest,q1,q2,q3⟩:=g2
  exact⟨c,T,part,rest,q1,q2,aM.repure (fun _ h=>h) (fun _ _=>rfl) _ _ _ hp q3⟩
 have:=hk.2 w Z (xs.toList.map a.eval) i0 hc.zone (hc.mutz b i0 blk hi0 hb hm) hbr hargs
 rw [show (xs.toList.map a.eval).toArray=xs.map a.eval from by apply Array.ext';simp] at this
 refine this.mono ?_
 rintro e w' ⟨v,μr,Zr,rfl,hrr,hv⟩
 obtain⟨Z',h1,h2,h3,h4,h5⟩:=hc.callM hi0 hb hm hm' hp' hrr
 refine hK v w' Z' h1 (fun t=>(hr t).mono h3 (fun _ _ h=>h) h4) ?_
 exact(hv.mono h2 (fun _ _ h=>h) ⟨fun _ _=>rfl,(Frame.refl Zr μr w').m⟩).ren (fun _=>b) (fun k id h=>by obtain⟨rfl,rfl⟩:=h5 k id h;exact hi0)
end
end Go.Lg
namespace Go.Lg
section
variable {P:Program} {W w w':World} {X:XS} {Z0 Z:Nat→Prop} {μ:Nat→Option Nat} {H:cM} {a:Act} {L L':St} {n:Nat}
def f4 (μ:Nat→Option Nat) (b:Nat):Nat→Option Nat:=fun c=>if c=b then none else μ c
theorem Core.kill (b:Nat) (hb0:b≠0) (hc:Core W X Z0 μ Z L.heap w):Core W X Z0 (f4 μ b) Z (L.kill b).heap w:=by
 have hinv:∀ c id,f4 μ b c=some id→c≠b∧μ c=some id:=fun c id h=>by
  unfold f4 at h;split at h
  ·cases h
  ·exact⟨by assumption,h⟩
 have hH:∀ c blk,(L.kill b).heap c=some blk→c≠b→∃ bk,L.heap c=some bk∧blk=⟨bk.sz,bH b bk.vals,bk.mt⟩:=fun c blk h hne=>by
  simp only [St.kill,if_neg hne,Option.map_eq_some_iff] at h
  obtain⟨bk,h1,h2⟩:=h
  exact⟨bk,h1,h2.symm⟩
 refine⟨hc.keep,hc.zone,hc.zsup,hc.zsub,?_,?_,?_,hc.xlt,fun id h=>by simp only [f4,if_neg (Ne.symm hb0)];exact hc.x1 id h,?_,?_,?_⟩
 ·intro c c' id h h'
  exact hc.inj c c' id (hinv c id h).2 (hinv c' id h').2
 ·intro c id h;exact hc.own c id (hinv c id h).2
 ·intro c id h;exact hc.x0 c id (hinv c id h).2
 ·intro c id blk h g hm
  obtain⟨bk,g1,rfl⟩:=hH c blk g (hinv c id h).1
  exact hc.mutz c id bk (hinv c id h).2 g1 hm
 ·intro c id blk h g hm
  obtain⟨bk,g1,rfl⟩:=hH c blk g (hinv c id h).1
  exact hc.frz c id bk (hinv c id h).2 g1 hm
 ·intro c id h
  obtain⟨hne,h1⟩:=hinv c id h
  obtain⟨bk,g1,cc,T,part,rest,g2,g3,g4⟩:=hc.heap c id h1
  refine⟨⟨bk.sz,bH b bk.vals,bk.mt⟩,by simp [St.kill,hne,g1],cc,T,part,rest,g2,g3,?_⟩
  exact aM.kill (fun _ h=>h) (fun k id hk h=>by simp [f4,hk,h]) (Frame.refl _ _ _) _ _ g4
theorem nU (b:Nat) (hr:∀ t,bP Z μ w (L.slot t) (a.tmps.getD t undef)):∀ t,bP Z (f4 μ b) w ((L.kill b).slot t) (a.tmps.getD t undef):=fun t =>
 bP.kill (fun _ h=>h) (fun k id hk h=>by simp [f4,hk,h]) (Frame.refl _ _ _) (hr t)
theorem Core.attach {d id:Nat} {blk:Blk} {c c':Array Value} {T:TypeId} {part rest:List Value} (hc:Core W X Z0 μ Z H w) (hd:μ d=none) (hm:blk.mt=true)
  (hno:∀ k,μ k≠some id) (hnz:¬ Z id) (hlo:W.heap.size≤id∨X.y id) (hsz:c'.size=c.size)
  (hcell:w.heap[id]?=some (.cells c T (0,0))) (h1:c'.toList=part++rest) (h2:aM Z μ w blk.sz blk.vals part)
  (hw:w'=w.setRow id c') :
  Core W X Z0 (upd μ d id) Z (fun k=>if k=d then some blk else H k) w'∧Frame Z μ w w'∧(∀ b k,μ b=some k→upd μ d id b=some k)∧w'.heap[id]?=some (.cells c' T (0,0)):=by
 subst hw
 have hself:(w.setRow id c').heap[id]?=some (.cells c' T (0,0)):=setRow_heap w id c c' T (0,0) hcell
 have hother:∀ k,k≠id→(w.setRow id c').heap[k]?=w.heap[k]?:=fun k hk=>by
  simp only [World.setRow,Array.getElem?_modify,if_neg (Ne.symm hk)]
 have hsize:(w.setRow id c').heap.size=w.heap.size:=by simp [World.setRow]
 have hfr:Frame Z μ w (w.setRow id c') :=
  ⟨fun k hk=>hother k (fun e=>hnz (e ▸ hk)),fun b' k hk cc T' fz hcc=>⟨cc,(hother k (fun e=>hno b' (e ▸ hk))).trans hcc,rfl⟩⟩
 have hup:∀ b k,μ b=some k→upd μ d id b=some k:=fun b k h=>by
  unfold upd;split
  ·subst_vars;rw [hd] at h;cases h
  ·exact h
 have hinv:∀ b k,upd μ d id b=some k→(b=d∧k=id)∨(b≠d∧μ b=some k):=fun b k h=>by
  unfold upd at h;split at h
  ·cases h;exact .inl ⟨by assumption,rfl⟩
  ·exact .inr ⟨by assumption,h⟩
 refine⟨⟨?_,fun k hk=>by rw [hsize];exact hc.zone k hk,hc.zsup,hc.zsub,?_,?_,?_,hc.xlt,fun k h=>hup 0 k (hc.x1 k h),?_,?_,?_⟩,hfr,hup,hself⟩
 ·exact⟨hc.keep.os,hc.keep.tape,hc.keep.output,by rw [hsize];exact hc.keep.size,fun k hk hx=>(hother k (by
    rintro rfl
    rcases hlo with h | h
    ·omega
    ·exact hx (.inr h))).trans (hc.keep.block k hk hx),
   fun k hx c0 T0 fz0 h0=>by
    obtain⟨c1,g1,g2⟩:=hc.keep.xsz k hx c0 T0 fz0 h0
    by_cases e:k=id
    ·subst e
     rw [hcell] at g1;cases g1
     exact⟨c',hself,hsz.trans g2⟩
    ·exact⟨c1,(hother k e).trans g1,g2⟩⟩
 ·intro b b' k h h'
  rcases hinv b k h with⟨rfl,rfl⟩ | ⟨n1,h3⟩<;>rcases hinv b' _ h' with⟨rfl,e⟩ | ⟨n2,h4⟩
  ·rfl
  ·exact absurd h4 (hno b')
  ·exact absurd (e ▸ h3) (hno b)
  ·exact hc.inj b b' k h3 h4
 ·intro b k h
  rcases hinv b k h with⟨rfl,rfl⟩ | ⟨n1,h3⟩
  ·exact hlo.imp (fun h=>h) .inr
  ·exact hc.own b k h3
 ·intro b k h hx
  rcases hinv b k h with⟨rfl,rfl⟩ | ⟨n1,h3⟩
  ·exact absurd (hc.x1 _ hx) (hno 0)
  ·exact hc.x0 b k h3 hx
 ·intro b k bk h g hmt
  rcases hinv b k h with⟨rfl,rfl⟩ | ⟨n1,h3⟩
  ·exact hnz
  ·rw [if_neg n1] at g;exact hc.mutz b k bk h3 g hmt
 ·intro b k bk h g hmt
  rcases hinv b k h with⟨rfl,rfl⟩ | ⟨n1,h3⟩
  ·rw [if_pos rfl] at g;cases g;rw [hm] at hmt;cases hmt
  ·rw [if_neg n1] at g;exact hc.frz b k bk h3 g hmt
 ·intro b k h
  rcases hinv b k h with⟨rfl,rfl⟩ | ⟨n1,h3⟩
  ·exact⟨blk,if_pos rfl,c',T,part,rest,hself,h1,h2.mono (fun _ h=>h) hup hfr⟩
  ·obtain⟨bk,g1,g2⟩:=hc.heap b k h3
   exact⟨bk,by rw [if_neg n1];exact g1,g2.mono (fun _ h=>h) hup hfr (hother k (fun e=>hno b (e ▸ h3)))⟩
theorem aBZ {U E':TypeId} {y:Operand} {news:List LV} {sz:Nat} (hc:Core W X Z0 μ Z L.heap w) (hr:∀ t,bP Z μ w (L.slot t) (a.tmps.getD t undef)) (hU:P.underlying U=some (.slice E'))
  (hy:(∃ c off blk2,L.ev y=.ref c sz off news.length∧L.heap c=some blk2∧blk2.sz=sz∧off+news.length≤blk2.vals.length∧news=(blk2.vals.drop off).take news.length) ∨
    L.ev y=.list sz news∨(L.ev y=.v (.slice none 0 0)∧news=[])) :
  ∃ cells,Src P sz U (a.eval y) news.length cells w∧aM Z μ w sz news cells:=by
 have e1:=fL (L:=L) hr y
 have one:∀ (l:List LV) (cs:List Value),aM Z μ w sz l cs→∀ u∈cs,u.oneCell'=true:=by
  intro l
  induction l with
  | nil=>intro cs h;simp only [aM] at h;simp [h]
  | cons x xs ih =>
   intro cs h u hu
   simp only [aM] at h
   obtain⟨c1,c2,rfl,h2,h3,h4⟩:=h
   rcases List.mem_append.1 hu with hu | hu
   ·exact bZ.one _ _ h3 u hu
   ·exact ih c2 h4 u hu
 rcases hy with⟨cc,off,blk2,h1,h2,h3,h4,h5⟩ | h1 | ⟨h1,rfl⟩
 ·rw [h1] at e1
  have e2:=e1.2 rfl
  simp only [bZ] at e2
  rcases e2 with⟨q1,q2⟩ | ⟨id,cap,c,T,fz,q1,q2,q3,q4,q5⟩
  ·simp only [List.cons.injEq,and_true] at q1
   have hnil:=List.eq_nil_of_length_eq_zero q2
   subst hnil
   refine⟨[],?_,by simp [aM]⟩
   rw [q1]
   exact Src.ofNil w hU 0
  simp only [List.cons.injEq,and_true] at q1
  obtain⟨bk,g1,c',T',part,rest,g2,g3,g4⟩:=hc.heap cc id q2
  rw [h2] at g1;cases g1
  rw [q4] at g2;cases g2
  obtain⟨c1,c2,d1,d2,d3⟩:=aM.split (blk2.vals.take off) (blk2.vals.drop off) part (by rw [List.take_append_drop];exact g4)
  obtain⟨c3,c4,d4,d5,d6⟩:=aM.split ((blk2.vals.drop off).take news.length) ((blk2.vals.drop off).drop news.length) c2 (by rw [List.take_append_drop];exact d3)
  rw [←h5,h3] at d5
  have hl1:=aM.length _ _ d2
  rw [List.length_take,Nat.min_eq_left (by omega),h3] at hl1
  have hrange:=rL (w:=w) (off:=off*sz) (part:=c3) (rest:=c4++rest) q4 (by rw [g3,d1,d4,←hl1];simp)
  refine⟨c3,?_,d5⟩
  rw [q1]
  exact Src.ofSlice w hU _ _ _ c3 (aM.length _ _ d5) (fun j u hj=>by rw [Addr.add_mid];exact hrange j u hj) (one _ _ d5)
 ·rw [h1] at e1
  have e2:=e1.2 rfl
  simp only [bZ] at e2
  obtain⟨ad,len,cap,q1,q2,q3,q4,_⟩:=e2
  simp only [List.cons.injEq,and_true] at q1
  rcases q4 with q4 | ⟨blk,off,c,T,fz,part,rest,g1,g2,g3,g4,g5⟩
  ·subst q4
   simp at q2;subst q2
   refine⟨[],?_,rfl⟩
   rw [q1]
   cases ad with
   | none=>exact Src.ofNil w hU cap
   | some ad=>exact Src.ofSlice w hU ad 0 cap [] (by simp) (by simp) (by simp)
  ·subst g1
   have hrange:=rL (w:=w) (part:=part) (rest:=rest) g3 g4
   refine⟨part,?_,g5⟩
   rw [q1,q2]
   exact Src.ofSlice w hU _ _ _ part (aM.length _ _ g5) (fun j u hj=>by rw [Addr.add_mid];exact hrange j u hj) (one _ _ g5)
 ·rw [h1] at e1
  have e2:=e1.v_eq
  refine⟨[],?_,rfl⟩
  rw [e2]
  exact Src.ofNil w hU 0
theorem aAj {d:Nat} {blk:Blk} {H:cM} (hd:H d=none):H.le (fun k=>if k=d then some blk else H k):=fun b bk h=>by
 have:b≠d:=by rintro rfl;rw [hd] at h;cases h
 exact⟨bk.mt,by simp only [if_neg this];exact h,fun h=>h,fun h1 h2=>by rw [h1] at h2;cases h2⟩
theorem kO {g o:Nat} {T:TypeId} {vs:List Value} {cur:Array Value} (hg:w.heap[g]?=some (.cells cur T (0,0))) (hl:o+vs.length≤cur.size) (h1:∀ v∈vs,v.oneCell'=true) :
  w.setCells g o vs=w.setRow g (cur.toList.take o++vs++cur.toList.drop (o+vs.length)).toArray:=by
 have a:=run_storeCells_at (default:Program) g o T vs 0 cur w hg (by simpa using hl) h1
 have hc:∀ j,j<vs.length→(w.cell? ⟨g,o+j,none⟩).isSome=true:=fun j hj=>by
  rw [cell_of_row w g (o+j) cur T (0,0) hg,Array.getElem?_eq_getElem (by omega)];rfl
 have hf:∀ j,j<vs.length→w.frozen? ⟨g,o+j,none⟩=false:=fun j hj=>by simp [World.frozen?,hg]
 have b:=run_storeCells_cells (P:=(default:Program)) g o vs 0 w (by simpa using hc) (by simpa using hf) h1
 rw [b] at a
 simp only [Nat.add_zero,Result.ok.injEq,true_and] at a
 exact a
theorem p9 {T U E ty:TypeId} {d sz:Nat} {news olds:List LV} {z:LV} {by_:Nat} {oldc newc:List Value} {base:Option Addr} {sLen sCap:Nat} {xv yv:Value}
  (hc:Core W X Z0 μ Z H w) (hd:H d=none) (hT:P.underlying T=some (.slice E)) (hz:bA P E z) (hE:bT P E sz z.isAgg) (hzs:z.csize=sz) (hby:bJ P E by_)
  (hx:xv=.slice base sLen sCap) (hold:(Builtin.firstCells sz sLen (.slice base sLen sCap)).run P w.drew=.ok oldc.toArray w.drew)
  (hs:Src P sz U yv news.length newc w) (ho:aM Z μ w sz olds oldc) (hol:olds.length=sLen) (hn:aM Z μ w sz news newc)
  (hg:sCap<sLen+news.length) (hsz:(sLen+news.length)*by_≤140737488355328) (h63:sLen+news.length≤4611686018427387904) :
  ∃ v w' μ' Z',(Builtin.append_ #[T,U] ty #[xv,yv]).run P w=.ok v w'∧Core W X Z0 μ' Z' (fun k=>if k=d then some ⟨sz,olds++news,true⟩ else H k) w' ∧
   (∀ id,Z id→Z' id)∧(∀ b id,μ b=some id→μ' b=some id)∧Frame Z μ w w'∧bP Z' μ' w' (.ref d sz 0 (sLen+news.length)) v:=by
 obtain⟨i,zv,z1,z2,z3,z4⟩:=hz
 have hsi:i.size=sz:=by have:=hE.1;rw [z1] at this;simpa using this
 have hbi:i.bytes=by_:=by obtain⟨i',g1,g2⟩:=hby;rw [z1] at g1;cases g1;exact g2
 have hcap:=nextslicecap_le hg
 have hfit:Builtin.nextslicecap (sLen+news.length) sCap*i.bytes≤281474976710656:=by
  rw [hbi]
  calc Builtin.nextslicecap (sLen+news.length) sCap*by_≤(2*(sLen+news.length))*by_:=Nat.mul_le_mul_right _ hcap
   _=2*((sLen+news.length)*by_):=by rw [Nat.mul_assoc]
   _≤281474976710656:=by omega
 subst hx
 have hrun:=run_append_grow_src (P:=P) w T U ty E i zv hT z1 z2 base sLen sCap oldc (by rw [hsi];exact hold) yv news.length newc (by rw [hsi];exact hs) hg (by omega) hfit
 have hμd:μ d=none:=by
  cases hq:μ d with
  | none=>rfl
  | some id=>obtain⟨bk,g,_⟩:=hc.heap d id hq;rw [hd] at g;cases g
 have hcz:zv.cells.size=sz:=by
  have h1:=bZ.len (z4 Z μ w) (LV.pure_ne_any z3)
  rw [←Array.length_toList,h1,hzs]
 have hall:=aM.append _ _ _ _ ho hn
 have hlen:=aM.length _ _ hall
 obtain⟨Z1,k1,k2⟩:=hc.widen (aAj (blk:=⟨sz,olds++news,true⟩) hd)
 have hpushed:Pushed w (w.drew.alloc (.cells ((oldc++newc).toArray++Builtin.zeroCells zv.cells (grownCap w (sLen+news.length) sCap E-(sLen+news.length))) E)) _:=⟨rfl,rfl,rfl,rfl⟩
 obtain⟨Z2,h1,h2,h3,h4,h5,h6⟩:=k1.push (d:=d) (blk:=⟨sz,olds++news,true⟩) (part:=oldc++newc) (rest:=(Builtin.zeroCells zv.cells (grownCap w (sLen+news.length) sCap E-(sLen+news.length))).toList)
  (by simp) hμd hpushed (by simp) (hall.mono k2 (fun _ _ h=>h) ⟨fun _ _=>rfl,(Frame.refl Z μ w).m⟩)
 refine⟨_,_,_,Z2,hrun,h1,fun id h=>h2 id (k2 id h),h3,⟨fun id h=>h4.z id (k2 id h),h4.m⟩,⟨by simp [LV.isAgg],fun _=>?_⟩⟩
 simp only [bZ]
 have hge:=grownCap_ge w (sLen+news.length) sCap E
 refine .inr ⟨w.heap.size,_,_,E,(0,0),by simp,h5,hge,h6,?_⟩
 rw [Array.size_append,List.size_toArray,hlen,size_zeroCells,hcz,List.length_append,hol,Nat.zero_add,←Nat.add_mul]
 exact Nat.mul_le_mul_right _ (by omega)
theorem jD (hc:Core W X Z0 μ Z H w) {d:Nat} (hd:H d=none):μ d=none:=by
 cases hq:μ d with
 | none=>rfl
 | some id=>obtain⟨bk,g,_⟩:=hc.heap d id hq;rw [hd] at g;cases g
theorem aM.kill' {sz b:Nat} (l:List LV) (cs:List Value) (h:aM Z μ w sz l cs):aM Z (f4 μ b) w sz (bH b l) cs :=
 aM.kill (fun _ h=>h) (fun k id hk h=>by simp [f4,hk,h]) (Frame.refl _ _ _) _ _ h
theorem kU (b:Nat):∀ l:List LV,(bH b l).length=l.length
 | []=>rfl
 | x :: xs=>by simp [bH,kU b xs]
theorem lC (b:Nat):∀ l m:List LV,bH b (l++m)=bH b l++bH b m
 | [],m=>rfl
 | x :: xs,m=>by simp [bH,lC b xs m]
theorem Core.reheap {H':cM} (hc:Core W X Z0 μ Z H w) (hh:∀ b id,μ b=some id→H' b=H b):Core W X Z0 μ Z H' w :=
 ⟨hc.keep,hc.zone,hc.zsup,hc.zsub,hc.inj,hc.own,hc.x0,hc.xlt,hc.x1,fun b id blk h g=>hc.mutz b id blk h ((hh b id h).symm.trans g),fun b id blk h g=>hc.frz b id blk h ((hh b id h).symm.trans g),
  fun b id h=>let ⟨blk,g1,g2⟩:=hc.heap b id h;⟨blk,(hh b id h).trans g1,g2⟩⟩
theorem aDK {T U E E' ty:TypeId} {d b sz len:Nat} {blk:Blk} {x y:Operand} {news:List LV} {z:LV} {by_:Nat} (hc:Core W X Z0 μ Z L.heap w) (hr:∀ t,bP Z μ w (L.slot t) (a.tmps.getD t undef))
  (hx:L.ev x=.ref b sz 0 len) (hb:L.heap b=some blk) (hs:blk.sz=sz) (hm:blk.mt=true) (hlen:len≤blk.vals.length) (hbd:d=b∨L.heap d=none) (hb0:b≠0)
  (hT:P.underlying T=some (.slice E)) (hU:P.underlying U=some (.slice E')) (hz:bA P E z) (hE:bT P E sz z.isAgg) (hzs:z.csize=sz) (hby:bJ P E by_)
  (hy:(∃ c off blk2,L.ev y=.ref c sz off news.length∧c≠b∧L.heap c=some blk2∧blk2.sz=sz∧off+news.length≤blk2.vals.length∧news=(blk2.vals.drop off).take news.length∧aV news=true) ∨
    L.ev y=.list sz news∨(L.ev y=.v (.slice none 0 0)∧news=[]))
  (hsz:(len+news.length)*by_≤140737488355328) (h63:len+news.length≤4611686018427387904) :
  ∃ v w' μ' Z',(Builtin.append_ #[T,U] ty #[a.eval x,a.eval y]).run P w=.ok v w' ∧
   Core W X Z0 μ' Z' ((L.kill b).setB d (some ⟨sz,bH b (blk.vals.take len++news),true⟩)).heap w' ∧
   (∀ t,bP Z' μ' w' ((L.kill b).slot t) (a.tmps.getD t undef))∧bP Z' μ' w' (.ref d sz 0 (len+news.length)) v:=by
 obtain⟨newc,hsrc,hnews⟩:=aBZ (P:=P) hc hr hU (y:=y) (news:=news) (sz:=sz) (by
  rcases hy with⟨c,off,b2,q1,_,q3,q4,q5,q6,_⟩ | h | h
  ·exact .inl ⟨c,off,b2,q1,q3,q4,q5,q6⟩
  ·exact .inr (.inl h)
  ·exact .inr (.inr h))
 have e1:=fL (L:=L) hr x
 rw [hx] at e1
 have e2:=e1.2 rfl
 simp only [bZ] at e2
 have hkd:(L.kill b).heap d=none:=by
  rcases hbd with rfl | h
  ·simp [St.kill]
  ·simp only [St.kill];split
   ·rfl
   ·rw [h];rfl
 rcases e2 with⟨q1,rfl⟩ | ⟨id,cap,c,U',fz,q1,q2,q3,q4,q5⟩
 ·simp only [List.cons.injEq,and_true] at q1
  have hk:=hc.kill b hb0
  have hkr:=nU b hr
  have hkl:(bH b news).length=news.length:=kU b news
  cases hnw:news with
  | nil =>
   subst hnw
   obtain⟨i,zv,z1,z2,z3,z4⟩:=hz
   have hsi:i.size=sz:=by have:=hE.1;rw [z1] at this;simpa using this
   have hcells:newc=[]:=by simpa [aM] using hnews
   subst hcells
   have hrun:=run_append_nothing (P:=P) w T U ty E i hT z1 none 0 0 (Nat.le_refl _) (a.eval y) (hsi ▸ hsrc)
   refine⟨_,w,f4 μ b,Z,by rw [q1];exact hrun,?_,hkr,⟨by simp [LV.isAgg],fun _=>by simp [bZ]⟩⟩
   exact hk.reheap fun c id hcd=>by
    have:c≠d:=by rintro rfl;rw [jD hk hkd] at hcd;cases hcd
    simp [St.setB,this]
  | cons x0 xs0 =>
   rw [←hnw]
   have hpos:0<news.length:=by rw [hnw];simp
   obtain⟨v,w',μ',Z',r1,r2,r3,r4,r5,r6⟩:=p9 (P:=P) (ty:=ty) (U:=U) (olds:=[]) (news:=bH b news) (oldc:=[]) (sLen:=0) (sCap:=0) hk hkd hT hz hE hzs hby q1 (by simp [Builtin.firstCells]) (by rw [hkl];exact hsrc)
    (by simp [aM]) rfl (aM.kill' _ _ hnews) (by rw [hkl];omega) (by rw [hkl];exact hsz) (by rw [hkl];exact h63)
   rw [List.nil_append] at r2
   rw [hkl] at r6
   exact⟨v,w',μ',Z',r1,by simpa [St.setB] using r2,fun t=>(hkr t).mono r3 r4 r5,r6⟩
 simp only [List.cons.injEq,and_true,Nat.zero_mul] at q1
 obtain⟨bk,g1,c',T',part,rest,g2,g3,g4⟩:=hc.heap b id q2
 rw [hb] at g1;cases g1
 rw [q4] at g2;cases g2
 simp only [Nat.zero_add] at q5
 obtain⟨p1,p2,d1,d2,d3⟩:=aM.split (blk.vals.take len) (blk.vals.drop len) part (by rw [List.take_append_drop];exact g4)
 rw [hs] at d2
 have hp1:=aM.length _ _ d2
 rw [List.length_take,Nat.min_eq_left hlen] at hp1
 have hk:=hc.kill b hb0
 have hkr:=nU b hr
 have hno:∀ k,f4 μ b k≠some id:=fun k h=>by
  unfold f4 at h;split at h
  ·cases h
  ·rename_i hne;exact hne (hc.inj k b id h q2)
 have hlo:W.heap.size≤id∨X.y id:=by
  rcases hc.own b id q2 with h | h | h
  ·exact .inl h
  ·exact absurd (hc.x0 b id q2 h) hb0
  ·exact .inr h
 have hnz:=hc.mutz b id blk q2 hb hm
 have hnl:=aM.length _ _ hnews
 by_cases hroom:len+news.length≤cap
 ·have hfit:len*sz+newc.length≤c.size:=by
   rw [hnl,←Nat.add_mul]
   exact Nat.le_trans (Nat.mul_le_mul_right _ hroom) q5
  have hc1:∀ j,j<newc.length→(w.cell? ⟨id,0+len*sz+j,none⟩).isSome=true:=fun j hj=>by
   rw [cell_of_row w id _ c _ _ q4,Array.getElem?_eq_getElem (by omega)];rfl
  have hc2:∀ j,j<newc.length→w.frozen? ⟨id,0+len*sz+j,none⟩=false:=fun j hj=>by simp [World.frozen?,q4]
  obtain⟨i,zv,z1,z2,z3,z4⟩:=hz
  have hsi:i.size=sz:=by have:=hE.1;rw [z1] at this;simpa using this
  have hrun:=run_append_room_src (P:=P) w T U ty E i hT z1 id 0 len cap (a.eval y) news.length newc (by rw [hsi];exact hsrc) hroom (by rw [hsi];exact hc1) (by rw [hsi];exact hc2)
  rw [hsi,Nat.zero_add,kO q4 hfit hsrc.one] at hrun
  have hold:=(aM.kill' (b:=b) _ _ d2)
  have hnew:=(aM.kill' (b:=b) _ _ hnews)
  have hall:=aM.append _ _ _ _ hold hnew
  rw [←lC] at hall
  have hsplit:c.toList.take (len*sz)++newc++c.toList.drop (len*sz+newc.length)=(p1++newc)++c.toList.drop (len*sz+newc.length):=by
   rw [g3,d1,←hp1];simp
  rw [hsplit] at hrun
  obtain⟨k1,k2,k3,k4⟩:=hk.attach (d:=d) (id:=id) (blk:=⟨sz,bH b (blk.vals.take len++news),true⟩) (c':=((p1++newc)++c.toList.drop (len*sz+newc.length)).toArray)
   (part:=p1++newc) (rest:=c.toList.drop (len*sz+newc.length)) (jD hk hkd) rfl hno hnz hlo (by
    simp only [List.size_toArray,List.length_append,hp1,List.length_drop,Array.length_toList]
    omega) q4 (by simp) hall rfl
  refine⟨_,_,_,Z,by rw [q1];exact hrun,k1,fun t=>(hkr t).mono (fun _ h=>h) k3 k2,⟨by simp [LV.isAgg],fun _=>?_⟩⟩
  simp only [bZ]
  refine .inr ⟨id,cap,_,U',(0,0),by simp,by simp [upd],hroom,k4,?_⟩
  rw [Nat.zero_add]
  simp only [List.size_toArray,List.length_append,hp1,List.length_drop,Array.length_toList]
  omega
 ·have hold:(Builtin.firstCells sz len (.slice (some ⟨id,0,none⟩) len cap)).run P w.drew=.ok p1.toArray w.drew:=by
   refine run_firstCells_some w.drew sz len ⟨id,0,none⟩ len cap p1 hp1 (fun j v hj=>?_)
   rw [Addr.add_mid]
   have hrange:=rL (w:=w) (off:=0) (part:=p1) (rest:=p2++rest) q4 (by rw [List.drop_zero,g3,d1];simp)
   exact hrange j v hj
  have hkl:(bH b news).length=news.length:=kU b news
  obtain⟨v,w',μ',Z',r1,r2,r3,r4,r5,r6⟩:=p9 (P:=P) (ty:=ty) (U:=U) (olds:=bH b (blk.vals.take len)) (news:=bH b news) hk hkd hT hz hE hzs hby q1 hold (by rw [hkl];exact hsrc)
   (aM.kill' _ _ d2) (by rw [kU,List.length_take];omega) (aM.kill' _ _ hnews) (by rw [hkl];omega) (by rw [hkl];exact hsz) (by rw [hkl];exact h63)
  rw [←lC] at r2
  rw [hkl] at r6
  exact⟨v,w',μ',Z',r1,r2,fun t=>(hkr t).mono r3 r4 r5,r6⟩
theorem aBR {T U E ty:TypeId} {d sz n:Nat} {x y:Operand} {z:LV} {by_:Nat} {k kl:IntKind} (hc:Core W X Z0 μ Z L.heap w) (hr:∀ t,bP Z μ w (L.slot t) (a.tmps.getD t undef))
  (hT:P.underlying T=some (.slice E)) (hU:P.underlying U=some (.int k)) (hz:bA P E z) (hE:bT P E sz z.isAgg) (hzs:z.csize=sz) (hb:bJ P E by_)
  (hx:L.ev x=.v (.slice none 0 0)) (hy:L.ev y=.v (.int kl (n:Nat))) (hbd:L.heap d=none) (h0:0<n) (hs0:0<sz) (hm:n*by_≤140737488355328) (h63:n≤4611686018427387904) :
  ∃ v w' μ' Z',(Builtin.append_ #[T,U] ty #[a.eval x,a.eval y]).run P w=.ok v w'∧Core W X Z0 μ' Z' (L.setB d (some ⟨sz,List.replicate n z,true⟩)).heap w' ∧
   (∀ t,bP Z' μ' w' (L.slot t) (a.tmps.getD t undef))∧bP Z' μ' w' (.ref d sz 0 n) v:=by
 obtain⟨i,zv,z1,z2,z3,z4⟩:=hz
 have e1:=fL (L:=L) hr x
 rw [hx] at e1
 have e1:=e1.v_eq
 have e2:=fL (L:=L) hr y
 rw [hy] at e2
 have e2:=e2.v_eq
 have hne:=LV.pure_ne_any z3
 have hsi:i.size=sz:=by have:=hE.1;rw [z1] at this;simpa using this
 have hbi:i.bytes=by_:=by obtain⟨i',g1,g2⟩:=hb;rw [z1] at g1;cases g1;exact g2
 have hzl:=bZ.len (z4 Z μ w) hne
 have hcz:zv.cells.size=sz:=by rw [←Array.length_toList,hzl,hzs]
 have hcap:=nextslicecap_le (show 0<n from h0)
 have hfit:Builtin.nextslicecap n 0*i.bytes≤281474976710656:=by
  rw [hbi]
  calc Builtin.nextslicecap n 0*by_≤(2*n)*by_:=Nat.mul_le_mul_right _ hcap
   _=2*(n*by_):=by rw [Nat.mul_assoc]
   _≤281474976710656:=by omega
 have hrun:=sO (P:=P) (w:=w) T U E ty k kl i zv hT hU z1 z2 n h0 (by omega) (by omega) (by rw [hbi];exact hm) hfit
 have hμd:=jD hc hbd
 obtain⟨Z1,k1,k2⟩:=hc.widen (aAj (blk:=⟨sz,List.replicate n z,true⟩) hbd)
 have hall:=aM.replicate (sz:=sz) (z4 Z1 μ w) (by rw [hzl,hzs]) n
 obtain⟨Z2,h1,h2,h3,h4,h5,h6⟩:=k1.push (d:=d) (blk:=⟨sz,List.replicate n z,true⟩) (part:=(List.replicate n zv.cells.toList).flatten) (rest:=(Builtin.zeroCells zv.cells (grownCap w n 0 E-n)).toList) (by simp) hμd
  (⟨rfl,rfl,rfl,rfl⟩:Pushed w (w.drew.alloc (.cells (Builtin.zeroCells zv.cells n++Builtin.zeroCells zv.cells (grownCap w n 0 E-n)) E)) _) (by rw [Array.toList_append,oI]) hall
 have hfr:Frame Z μ w (w.drew.alloc (.cells (Builtin.zeroCells zv.cells n++Builtin.zeroCells zv.cells (grownCap w n 0 E-n)) E)):=⟨fun id h=>h4.z id (k2 id h),h4.m⟩
 refine⟨_,_,_,Z2,by rw [e1,e2];exact hrun,h1,fun t=>(hr t).mono (fun id h=>h2 id (k2 id h)) h3 hfr,⟨by simp [LV.isAgg],fun _=>?_⟩⟩
 simp only [bZ]
 have hge:=grownCap_ge w n 0 E
 refine .inr ⟨w.heap.size,_,_,E,(0,0),by simp,h5,hge,h6,?_⟩
 rw [Array.size_append,size_zeroCells,size_zeroCells,hcz,Nat.zero_add,←Nat.add_mul]
 exact Nat.mul_le_mul_right _ (by omega)
theorem aB1 {T U E E' ty:TypeId} {d sz:Nat} {x y:Operand} {news:List LV} {z:LV} {by_:Nat} (hc:Core W X Z0 μ Z L.heap w) (hr:∀ t,bP Z μ w (L.slot t) (a.tmps.getD t undef))
  (hx:L.ev x=.v (.slice none 0 0)) (hbd:L.heap d=none)
  (hT:P.underlying T=some (.slice E)) (hU:P.underlying U=some (.slice E')) (hz:bA P E z) (hE:bT P E sz z.isAgg) (hzs:z.csize=sz) (hby:bJ P E by_)
  (hy:(∃ c off blk2,L.ev y=.ref c sz off news.length∧L.heap c=some blk2∧blk2.sz=sz∧off+news.length≤blk2.vals.length∧news=(blk2.vals.drop off).take news.length∧aV news=true) ∨
    L.ev y=.list sz news)
  (hn:0<news.length) (hsz:news.length*by_≤140737488355328) (h63:news.length≤4611686018427387904) :
  ∃ v w' μ' Z',(Builtin.append_ #[T,U] ty #[a.eval x,a.eval y]).run P w=.ok v w'∧Core W X Z0 μ' Z' (L.setB d (some ⟨sz,news,true⟩)).heap w' ∧
   (∀ t,bP Z' μ' w' (L.slot t) (a.tmps.getD t undef))∧bP Z' μ' w' (.ref d sz 0 news.length) v:=by
 obtain⟨newc,hsrc,hnews⟩:=aBZ (P:=P) hc hr hU (y:=y) (news:=news) (sz:=sz) (by
  rcases hy with⟨c,off,b2,q1,q3,q4,q5,q6,_⟩ | h
  ·exact .inl ⟨c,off,b2,q1,q3,q4,q5,q6⟩
  ·exact .inr (.inl h))
 have e1:=fL (L:=L) hr x
 rw [hx] at e1
 have e2:=e1.v_eq
 obtain⟨v,w',μ',Z',r1,r2,r3,r4,r5,r6⟩:=p9 (P:=P) (ty:=ty) (U:=U) (olds:=[]) (news:=news) (oldc:=[]) (sLen:=0) hc hbd hT hz hE hzs hby e2 (by simp [Builtin.firstCells]) hsrc
  (by simp [aM]) rfl hnews (by omega) (by rw [Nat.zero_add];exact hsz) (by rw [Nat.zero_add];exact h63)
 rw [Nat.zero_add] at r6
 rw [List.nil_append] at r2
 exact⟨v,w',μ',Z',r1,r2,fun t=>(hr t).mono r3 r4 r5,r6⟩
end
end Go.Lg
namespace Go.Lg
def bS (ops:Array Oper) (L:St) (o:Oper) (res:Bool):Prop :=
 match o.guard with
 | none=>res=true
 | some (j,want)=>∃ d,(ops[j]?).bind (·.dst)=some d∧((∃ b,L.slot d=.v (.bool b)∧res=(b==want))∨(L.slot d=.tup []∧res=false))
inductive Step (P:Program) (dr:Bool) (ops:Array Oper) (o:Oper) (L L':St):Prop
 | skip (hg:bS ops L o false) (h:L'=L.put o.dst (.tup []))
 | val {r fr H1} (hg:bS ops L o true) (hle:L.heap.le H1) (hfr:∀ b blk,(b,blk)∈fr→L.heap b=none∧∃ m,H1 b=some ⟨blk.sz,blk.vals,m⟩∧(blk.mt=false→m=false))
   (ho:OpV P H1 L.ev (o.dst.getD 0) o.op r fr) (h:L'=⟨(L.put o.dst r).slot,H1⟩)
 | st (hg:bS ops L o true) (ho:OpT P L o.dst o.op L')
 | stM (hdr:dr=false) (hg:bS ops L o true) (ho:OpM P L o.dst o.op L')
def opsL (P:Program) (dr:Bool) (ops:Array Oper):List Oper→St→(St→Prop)→Prop
 | [],L,K=>K L
 | o :: r,L,K=>∃ L',Step P dr ops o L L'∧opsL P dr ops r L' K
section
variable {P:Program} {W w w':World} {X:XS} {Z0 Z:Nat→Prop} {μ:Nat→Option Nat} {H:cM} {a:Act} {L L':St} {n:Nat} {dr:Bool} {ops:Array Oper}
theorem fM {o:Oper} {res:Bool} {L:St} (hr:∀ t,bP Z μ w (L.slot t) (a.tmps.getD t undef)) (hg:bS ops L o res):Region.wanted o (yielded ops a.tmps)=res:=by
 unfold bS at hg
 unfold Region.wanted
 split at hg
 ·rename_i h;rw [h];exact hg.symm
 ·rename_i j want h
  rw [h]
  obtain⟨d,h1,⟨b,h2,rfl⟩ | ⟨h2,rfl⟩⟩:=hg
  case inr =>
   have h3:=hr d
   rw [h2] at h3
   obtain⟨vs,h4,h5⟩:=h3
   have h5:vs=#[]:=by cases vs with | mk l=>exact congrArg Array.mk h5
   subst h5
   have h6:((ops[j]?).bind (·.dst)).bind (fun t=>a.tmps[t]?)=a.tmps[d]?:=by rw [h1];rfl
   rw [Array.getD_eq_getD_getElem?] at h4
   simp only [yielded,h6]
   cases hq:a.tmps[d]? with
   | none=>rfl
   | some u=>rw [hq] at h4;simp only [Option.getD_some] at h4;subst h4;rfl
  have h3:=hr d
  rw [h2] at h3
  have h4:=h3.v_eq
  have h5:a.tmps[d]?=some (.bool b):=by
   rw [Array.getD_eq_getD_getElem?] at h4
   cases hq:a.tmps[d]? with
   | none=>rw [hq] at h4;simp [undef] at h4
   | some u=>rw [hq] at h4;simpa using h4
  have h6:((ops[j]?).bind (·.dst)).bind (fun t=>a.tmps[t]?)=some (.bool b):=by rw [h1];simpa using h5
  simp only [yielded,h6]
  cases b<;>cases want<;>rfl
theorem xY {P:Program} {ops:Array Oper} {dr:Bool} {K K':St→Prop} (hk:∀ L,K L→K' L):∀ (l:List Oper) (L:St),opsL P dr ops l L K→opsL P dr ops l L K'
 | [],L,h=>hk L h
 | o :: r,L,⟨L',h1,h2⟩=>⟨L',h1,xY hk r L' h2⟩
theorem aEn {T E ty:TypeId} {x:Operand} {b sz off n:Nat} {blk:Blk} {z:LV} (hc:Core W X Z0 μ Z L.heap w) (hr:∀ t,bP Z μ w (L.slot t) (a.tmps.getD t undef))
  (hx:L.ev x=.ref b sz off n) (hb:L.heap b=some blk) (hs:blk.sz=sz) (hm:blk.mt=true) (hl:off+n≤blk.vals.length) (hT:P.underlying T=some (.slice E)) (hz:bA P E z) (hzs:z.csize=sz) :
  ∃ w',(Builtin.clear_ #[T] ty #[a.eval x]).run P w=.ok (.tuple #[]) w' ∧
   Core W X Z0 μ Z (L.setB b (some ⟨sz,blk.vals.take off++List.replicate n z++blk.vals.drop (off+n),true⟩)).heap w'∧Frame Z μ w w':=by
 have e1:=fL (L:=L) hr x
 rw [hx] at e1
 have e2:=e1.2 rfl
 simp only [bZ] at e2
 have hsame:n=0→(L.setB b (some ⟨sz,blk.vals.take off++List.replicate n z++blk.vals.drop (off+n),true⟩)).heap=L.heap:=by
  rintro rfl
  funext c
  show (if c=b then _ else L.heap c)=_
  split
  ·rename_i e;subst e
   rw [hb]
   obtain⟨s,v,m⟩:=blk
   simp only at hs hm ⊢
   subst hs;subst hm
   simp
  ·rfl
 rcases e2 with⟨q1,rfl⟩ | ⟨id,cap,c,U',fz,q1,q2,q3,q4,q5⟩
 ·simp only [List.cons.injEq,and_true] at q1
  rw [hsame rfl]
  exact⟨w,by rw [q1];simp [Builtin.clear_,run_underlying hT],hc,Frame.refl _ _ _⟩
 ·simp only [List.cons.injEq,and_true] at q1
  cases n with
  | zero =>
   rw [hsame rfl]
   exact⟨w,by rw [q1];simp [Builtin.clear_,run_underlying hT],hc,Frame.refl _ _ _⟩
  | succ n =>
   obtain⟨bk,g1,c',T',part,rest,g2,g3,g4⟩:=hc.heap b id q2
   rw [hb] at g1;cases g1
   rw [q4] at g2;cases g2
   rw [hs] at g4
   obtain⟨i,zv,z1,z2,z3,z4⟩:=hz
   have hzv:(zeroValue E).run P w=.ok zv w:=by simp [zeroValue,typeInfo,z1,z2]
   have hne:=LV.pure_ne_any z3
   have hzl:=bZ.len (z4 Z μ w) hne
   rw [hzs] at hzl
   have hnews:=aM.replicate (z4 Z μ w) hzl (n+1)
   have hnl:=aM.length _ _ hnews
   rw [List.length_replicate] at hnl
   have hvals:blk.vals=blk.vals.take off++((blk.vals.drop off).take (n+1)++blk.vals.drop (off+(n+1))):=by
    rw [←List.drop_drop,List.take_append_drop,List.take_append_drop]
   rw [hvals] at g4
   obtain⟨p1,p2,d1,d2,d3⟩:=aM.split _ _ part g4
   obtain⟨p3,p4,d4,d5,d6⟩:=aM.split _ _ p2 d3
   have l1:=aM.length _ _ d2
   have l2:=aM.length _ _ d5
   rw [List.length_take,Nat.min_eq_left (by omega)] at l1
   rw [List.length_take,List.length_drop,Nat.min_eq_left (by omega)] at l2
   have hlen:c.toList.length=p1.length+(p3.length+p4.length)+rest.length:=by rw [g3,d1,d4];simp;omega
   have hfit:off*sz+((List.replicate (n+1) zv.cells.toList).flatten).length≤c.size:=by
    rw [←Array.length_toList,hlen,hnl,l1,l2];omega
   have hall:=aM.append _ _ _ _ (aM.append _ _ _ _ d2 hnews) d6
   have hone:∀ v∈(List.replicate (n+1) zv.cells.toList).flatten,v.oneCell'=true:=fun v hv=>by
    simp only [List.mem_flatten] at hv
    obtain⟨l,hl1,hl2⟩:=hv
    rw [List.eq_of_mem_replicate hl1] at hl2
    exact bZ.one _ _ (z4 Z μ w) v hl2
   have hcell:∀ j,j<((List.replicate (n+1) zv.cells.toList).flatten).length→(w.cell? ⟨id,off*sz+j,none⟩).isSome=true:=fun j hj=>by
    rw [cell_of_row w id _ c _ _ q4,Array.getElem?_eq_getElem (by omega)];rfl
   have hfroz:∀ j,j<((List.replicate (n+1) zv.cells.toList).flatten).length→w.frozen? ⟨id,off*sz+j,none⟩=false:=fun j hj=>by simp [World.frozen?,q4]
   have hst:=run_storeCells_cells (P:=P) id (off*sz) ((List.replicate (n+1) zv.cells.toList).flatten) 0 w (by simpa using hcell) (by simpa using hfroz) hone
   simp only [Nat.add_zero] at hst
   rw [kO q4 hfit hone] at hst
   have hnew:c.toList.take (off*sz)++(List.replicate (n+1) zv.cells.toList).flatten++c.toList.drop (off*sz+((List.replicate (n+1) zv.cells.toList).flatten).length)=(p1++(List.replicate (n+1) zv.cells.toList).flatten++p4)++rest:=by
    rw [g3,d1,d4,hnl,←l1,←l2]
    have e:(p1++(p3++p4))++rest=p1++(p3++(p4++rest)):=by simp
    rw [e,List.take_left,←List.drop_drop,List.drop_left,List.drop_left];simp
   rw [hnew] at hst
   obtain⟨k1,k2⟩:=Core.rewrite (blk':=⟨sz,blk.vals.take off++List.replicate (n+1) z++blk.vals.drop (off+(n+1)),true⟩)
    (c':=((p1++(List.replicate (n+1) zv.cells.toList).flatten++p4)++rest).toArray) (part:=p1++(List.replicate (n+1) zv.cells.toList).flatten++p4) (rest:=rest) hc q2 hb hm rfl q4
    (by rw [←Array.length_toList (xs:=c),hlen];simp only [List.size_toArray,List.length_append,hnl,l2];omega) (by simp) hall rfl
   refine⟨_,?_,k1,k2⟩
   rw [q1]
   simp only [Builtin.clear_,List.getElem?_toArray,List.getElem?_cons_zero,Sem.run_bind,Sem.run_pure,run_underlying hT,Result.andThen_ok,hzv,oI,hst]
theorem aEm {T U E E' ty:TypeId} {x y:Operand} {b sz off:Nat} {blk:Blk} {news:List LV} {ag:Bool} (hc:Core W X Z0 μ Z L.heap w) (hr:∀ t,bP Z μ w (L.slot t) (a.tmps.getD t undef))
  (hx:L.ev x=.ref b sz off news.length) (hb:L.heap b=some blk) (hs:blk.sz=sz) (hm:blk.mt=true) (hl:off+news.length≤blk.vals.length) (hT:P.underlying T=some (.slice E)) (hU:P.underlying U=some (.slice E')) (hE:bT P E sz ag)
  (hy:(∃ c off2 blk2,L.ev y=.ref c sz off2 news.length∧L.heap c=some blk2∧blk2.sz=sz∧off2+news.length≤blk2.vals.length∧news=(blk2.vals.drop off2).take news.length)∨L.ev y=.list sz news) :
  ∃ v w',(Builtin.copy_ #[T,U] ty #[a.eval x,a.eval y]).run P w=.ok v w' ∧
   Core W X Z0 μ Z (L.setB b (some ⟨sz,blk.vals.take off++news++blk.vals.drop (off+news.length),true⟩)).heap w'∧Frame Z μ w w':=by
 obtain⟨newc,hsrc,hnews⟩:=aBZ (P:=P) hc hr hU (y:=y) (news:=news) (sz:=sz) (by
  rcases hy with h | h
  ·exact .inl h
  ·exact .inr (.inl h))
 have e1:=fL (L:=L) hr x
 rw [hx] at e1
 have e2:=e1.2 rfl
 simp only [bZ] at e2
 have hmin:Nat.min news.length news.length=news.length:=Nat.min_self _
 have hnl:=aM.length _ _ hnews
 have hsame:news=[]→(L.setB b (some ⟨sz,blk.vals.take off++news++blk.vals.drop (off+news.length),true⟩)).heap=L.heap:=by
  rintro rfl
  funext c
  show (if c=b then _ else L.heap c)=_
  split
  ·rename_i e;subst e
   rw [hb]
   obtain⟨s,v,m⟩:=blk
   simp only at hs hm ⊢
   subst hs;subst hm
   simp
  ·rfl
 rcases e2 with⟨q1,q0⟩ | ⟨id,cap,c,U',fz,q1,q2,q3,q4,q5⟩
 ·simp only [List.cons.injEq,and_true] at q1
  have hnil:=List.eq_nil_of_length_eq_zero q0
  rw [hsame hnil]
  refine⟨goInt ((0:Nat):Int),w,?_,hc,Frame.refl _ _ _⟩
  rw [q1]
  simp only [Builtin.copy_,List.getElem?_toArray,List.getElem?_cons_zero,List.getElem?_cons_succ,Sem.run_bind,Sem.run_pure,run_underlying hT,Result.andThen_ok,hsrc.len,dV hE,q0,Nat.min_self,show Nat.min 0 0=0 from rfl]
  have hcl:=hsrc.cells
  rw [q0] at hcl
  simp only [hcl,Result.andThen_ok,Sem.run_pure]
 ·simp only [List.cons.injEq,and_true] at q1
  obtain⟨bk,g1,c',T',part,rest,g2,g3,g4⟩:=hc.heap b id q2
  rw [hb] at g1;cases g1
  rw [q4] at g2;cases g2
  rw [hs] at g4
  have hvals:blk.vals=blk.vals.take off++((blk.vals.drop off).take news.length++blk.vals.drop (off+news.length)):=by
   rw [←List.drop_drop,List.take_append_drop,List.take_append_drop]
  rw [hvals] at g4
  obtain⟨p1,p2,d1,d2,d3⟩:=aM.split _ _ part g4
  obtain⟨p3,p4,d4,d5,d6⟩:=aM.split _ _ p2 d3
  have l1:=aM.length _ _ d2
  have l2:=aM.length _ _ d5
  rw [List.length_take,Nat.min_eq_left (by omega)] at l1
  rw [List.length_take,List.length_drop,Nat.min_eq_left (by omega)] at l2
  have hlen:c.toList.length=p1.length+(p3.length+p4.length)+rest.length:=by rw [g3,d1,d4];simp;omega
  have hfit:off*sz+newc.length≤c.size:=by
   rw [←Array.length_toList,hlen,hnl,l1,l2];omega
  have hall:=aM.append _ _ _ _ (aM.append _ _ _ _ d2 hnews) d6
  have hone:∀ v∈newc,v.oneCell'=true:=hsrc.one
  have hcell:∀ j,j<newc.length→(w.cell? ⟨id,off*sz+j,none⟩).isSome=true:=fun j hj=>by
   rw [cell_of_row w id _ c _ _ q4,Array.getElem?_eq_getElem (by omega)];rfl
  have hfroz:∀ j,j<newc.length→w.frozen? ⟨id,off*sz+j,none⟩=false:=fun j hj=>by simp [World.frozen?,q4]
  have hst:=run_storeCells_cells (P:=P) id (off*sz) newc 0 w (by simpa using hcell) (by simpa using hfroz) hone
  simp only [Nat.add_zero] at hst
  rw [kO q4 hfit hone] at hst
  have hnew:c.toList.take (off*sz)++newc++c.toList.drop (off*sz+newc.length)=(p1++newc++p4)++rest:=by
   rw [g3,d1,d4,hnl,←l1,←l2]
   have e:(p1++(p3++p4))++rest=p1++(p3++(p4++rest)):=by simp
   rw [e,List.take_left,←List.drop_drop,List.drop_left,List.drop_left];simp
  rw [hnew] at hst
  obtain⟨k1,k2⟩:=Core.rewrite (blk':=⟨sz,blk.vals.take off++news++blk.vals.drop (off+news.length),true⟩)
   (c':=((p1++newc++p4)++rest).toArray) (part:=p1++newc++p4) (rest:=rest) hc q2 hb hm rfl q4
   (by rw [←Array.length_toList (xs:=c),hlen];simp only [List.size_toArray,List.length_append,hnl,l2];omega) (by simp) hall rfl
  refine⟨goInt news.length,_,?_,k1,k2⟩
  rw [q1]
  have hcl:=hsrc.cells
  simp only [Builtin.copy_,List.getElem?_toArray,List.getElem?_cons_zero,List.getElem?_cons_succ,Sem.run_bind,Sem.run_pure,run_underlying hT,Result.andThen_ok,hsrc.len,dV hE,hmin,hcl,hst]
theorem hF {o:Oper} (hs:kZ n W X Z0 L a w) (hst:Step P dr ops o L L') (hd:∀ t,o.dst=some t→t<n) {K:Act→World→Prop} {Q:Exit→Act→World→Prop}
  (hK:∀ a' w',kZ n W X Z0 L' a' w'→K a' w'):if Region.wanted o (yielded ops a.tmps) then o.wp P a w K Q else K (a.put o.dst undef) w:=by
 obtain⟨hdf,hsz,μ,Z,hc,hr⟩:=hs
 have hd':∀ t,o.dst=some t→t<a.tmps.size:=fun t h=>by rw [hsz];exact hd t h
 cases hst with
 | skip hg h =>
  rw [fM hr hg]
  simp only [Bool.false_eq_true,if_false]
  subst h
  exact hK _ _ ⟨by rw [eG];exact hdf,by rw [fU];exact hsz,μ,Z,by rw [eL];exact hc,gL hd' hr ⟨#[],rfl,rfl⟩⟩
 | @val r fr H1 hg hle hfr ho h =>
  rw [fM hr hg]
  simp only [if_true]
  obtain⟨Z1,k1,k2⟩:=hc.widen hle
  have hr1:∀ t,bP Z1 μ w (L.slot t) (a.tmps.getD t undef):=fun t=>(hr t).mono k2 (fun _ _ h=>h) ⟨fun _ _=>rfl,(Frame.refl Z μ w).m⟩
  obtain⟨dst,op,ty,pos,after,g⟩:=o
  refine OpV.sound k1 ho (fun x _=>fL (L:=L) hr1 x) (fun b blk hb=>?_) dst ty pos after g ?_
  ·obtain⟨h1,m,h2,h3⟩:=hfr b blk hb
   exact⟨m,h2,h3,jD hc h1⟩
  ·intro v w' μ' Z' haf
   subst h
   refine hK _ _ ⟨by rw [eG];exact hdf,by rw [fU];exact hsz,μ',Z',haf.core,?_⟩
   exact gL (L:=L) hd' (fun t=>(hr1 t).mono haf.hz haf.hm haf.hf) haf.rep
 | st hg ho =>
  rw [fM hr hg]
  simp only [if_true]
  obtain⟨dst,op,ty,pos,after,g⟩:=o
  simp only at ho hd'
  cases ho with
  | store hp hb hss hm hi hy hput hT hne =>
   obtain⟨w',h1,h2,h3⟩:=aAv (P:=P) hc hr hp hb hss hm hi hy hput hT hne dst ty pos after g
   unfold Oper.wp
   rw [h1,Oper.upon_skip]
   refine hK _ _ ⟨by rw [eG];exact hdf,by rw [fU];exact hsz,μ,Z,by rw [eL];exact h2,?_⟩
   exact gL hd' (fun t=>(hr t).mono (fun _ h=>h) (fun _ _ h=>h) h3) trivial
  | @appX T U E E' d b sz len blk x y news z by_ hx hb hss hm hlen hbd hb0 hT hU hz hE hzs hby hy hbsz h63 hs0 =>
   obtain⟨v,w',μ',Z',r1,r2,r3,r4⟩:=aDK (P:=P) (ty:=ty) hc hr hx hb hss hm hlen hbd hb0 hT hU hz hE hzs hby hy hbsz h63
   have hrun:(execOp a.eval ⟨dst,.call ⟨.builtin .append,#[x,y],#[T,U]⟩,ty,pos,after,g⟩).run P w=.ok (.value v) w':=by
    simp only [execOp,resolve,Sem.run_bind,Sem.run_pure,Result.andThen_ok,invoke,builtin]
    simp only [List.map_toArray,List.map_cons,List.map_nil,r1,Result.andThen_ok]
   unfold Oper.wp
   rw [hrun,Oper.upon_value]
   refine hK _ _ ⟨by rw [eG];exact hdf,by rw [fU];exact hsz,μ',Z',by rw [eL];exact r2,?_⟩
   exact gL hd' r3 r4
  | @app0X T U E E' d sz x y news z by_ hx hbd hT hU hz hE hzs hby hy hn hbsz h63 hs0 =>
   obtain⟨v,w',μ',Z',r1,r2,r3,r4⟩:=aB1 (P:=P) (ty:=ty) hc hr hx hbd hT hU hz hE hzs hby hy hn hbsz h63
   have hrun:(execOp a.eval ⟨dst,.call ⟨.builtin .append,#[x,y],#[T,U]⟩,ty,pos,after,g⟩).run P w=.ok (.value v) w':=by
    simp only [execOp,resolve,Sem.run_bind,Sem.run_pure,Result.andThen_ok,invoke,builtin]
    simp only [List.map_toArray,List.map_cons,List.map_nil,r1,Result.andThen_ok]
   unfold Oper.wp
   rw [hrun,Oper.upon_value]
   refine hK _ _ ⟨by rw [eG];exact hdf,by rw [fU];exact hsz,μ',Z',by rw [eL];exact r2,?_⟩
   exact gL hd' r3 r4
  | @clr T E x b sz off n blk z hx hb hss hm hl hT hz hzs =>
   obtain⟨w',r1,r2,r3⟩:=aEn (P:=P) (ty:=ty) hc hr hx hb hss hm hl hT hz hzs
   have hrun:(execOp a.eval ⟨dst,.call ⟨.builtin .clear,#[x],#[T]⟩,ty,pos,after,g⟩).run P w=.ok (.value (.tuple #[])) w':=by
    simp only [execOp,resolve,Sem.run_bind,Sem.run_pure,Result.andThen_ok,invoke,builtin]
    simp only [List.map_toArray,List.map_cons,List.map_nil,r1,Result.andThen_ok]
   unfold Oper.wp
   rw [hrun,Oper.upon_value]
   refine hK _ _ ⟨by rw [eG];exact hdf,by rw [fU];exact hsz,μ,Z,by rw [eL];exact r2,?_⟩
   exact gL hd' (fun t=>(hr t).mono (fun _ h=>h) (fun _ _ h=>h) r3) trivial
  | @cpy T U E E' x y b sz off news blk ag hx hb hss hm hl hT hU hE hy =>
   obtain⟨v,w',r1,r2,r3⟩:=aEm (P:=P) (ty:=ty) hc hr hx hb hss hm hl hT hU hE hy
   have hrun:(execOp a.eval ⟨dst,.call ⟨.builtin .copy,#[x,y],#[T,U]⟩,ty,pos,after,g⟩).run P w=.ok (.value v) w':=by
    simp only [execOp,resolve,Sem.run_bind,Sem.run_pure,Result.andThen_ok,invoke,builtin]
    simp only [List.map_toArray,List.map_cons,List.map_nil,r1,Result.andThen_ok]
   unfold Oper.wp
   rw [hrun,Oper.upon_value]
   refine hK _ _ ⟨by rw [eG];exact hdf,by rw [fU];exact hsz,μ,Z,by rw [eL];exact r2,?_⟩
   exact gL hd' (fun t=>(hr t).mono (fun _ h=>h) (fun _ _ h=>h) r3) trivial
 | stM _ hg ho =>
  rw [fM hr hg]
  simp only [if_true]
  obtain⟨dst,op,ty,pos,after,g⟩:=o
  simp only at ho hd'
  cases ho with
  | call hb hm hp ha hn hk hm' hp' =>
   refine aA6 hc hr hb hm hp ha hn hk hm' hp' fun v w' Z' h1 h2 h3=>?_
   refine hK _ _ ⟨by rw [eG];exact hdf,by rw [fU];exact hsz,μ,Z',by rw [eL];exact h1,?_⟩
   exact gL (L:=L.setB _ _) hd' h2 h3
  | @appz T U E x y z k kl sz by_ n d hT hU hz hE hzs hb hx hy hbd h0 hs0 hm h63 =>
   obtain⟨v,w',μ',Z',r1,r2,r3,r4⟩:=aBR (P:=P) (ty:=ty) hc hr hT hU hz hE hzs hb hx hy hbd h0 hs0 hm h63
   have hrun:(execOp a.eval ⟨dst,.call ⟨.builtin .append,#[x,y],#[T,U]⟩,ty,pos,after,g⟩).run P w=.ok (.value v) w':=by
    simp only [execOp,resolve,Sem.run_bind,Sem.run_pure,Result.andThen_ok,invoke,builtin]
    simp only [List.map_toArray,List.map_cons,List.map_nil,r1,Result.andThen_ok]
   unfold Oper.wp
   rw [hrun,Oper.upon_value]
   refine hK _ _ ⟨by rw [eG];exact hdf,by rw [fU];exact hsz,μ',Z',by rw [eL];exact r2,?_⟩
   exact gL (L:=L.setB _ _) hd' r3 r4
theorem u4 {Q:Exit→Act→World→Prop} {K:St→Prop}:∀ (l:List Oper) (L:St) (a:Act) (w:World),kZ n W X Z0 L a w→opsL P dr ops l L K→(∀ o∈l,∀ t,o.dst=some t→t<n) →
  (∀ L' a' w',K L'→kZ n W X Z0 L' a' w'→Q .normal a' w')→wpList P ops Q l a w
 | [],L,a,w,hs,hk,_,hq=>hq L a w hk hs
 | o :: r,L,a,w,hs,⟨L',h1,h2⟩,hd,hq=>by
   have:=hF (Q:=Q) (K:=wpList P ops Q r) hs h1 (hd o (by simp)) (fun a' w' hs'=>u4 r L' a' w' hs' h2 (fun o' ho'=>hd o' (by simp [ho'])) hq)
   unfold wpList
   split
   ·rename_i h;rw [if_pos h] at this;exact .inl this
   ·rename_i h;rw [if_neg h] at this;exact this
end
def a7 (L L':St):Prop:=∀ n W X Z0 a w,kZ n W X Z0 L a w→kZ n W X Z0 L' a w
theorem a7.refl (L:St):a7 L L:=fun _ _ _ _ _ _ h=>h
theorem a7.trans {L L' L'':St} (h:a7 L L') (h':a7 L' L''):a7 L L'':=fun n W X Z0 a w k=>h' n W X Z0 a w (h n W X Z0 a w k)
theorem a7.kill (L:St) (b:Nat) (h0:b≠0:=by decide):a7 L (L.kill b):=fun _ _ _ _ _ _ ⟨h1,h2,_,Z,hc,hr⟩=>⟨h1,h2,_,Z,hc.kill b h0,nU b hr⟩
def kP (o:Oper):List Nat:=o.after.toList.filterMap fun e=>if Region.binds .any e then some e.on else none
inductive Anc (ops:Array Oper):Nat→Nat→Prop
 | one {j i o} (ho:ops[i]?=some o) (h:j∈kP o):Anc ops j i
 | step {j k i o} (h:Anc ops j k) (ho:ops[i]?=some o) (hk:k∈kP o):Anc ops j i
def aJB (acc:List Nat) (o:Oper):Nat:=(kP o).foldl (fun s j=>s ||| (2 ^ j ||| acc.getD j 0)) 0
def bef:List Oper→List Nat→List Nat
 | [],acc=>acc
 | o :: r,acc=>bef r (acc++[aJB acc o])
def mE:Op→Bool
 | .store ..=>true
 | .call ⟨.builtin .append,_,_⟩=>true
 | .call ⟨.builtin .clear,_,_⟩=>true
 | .call ⟨.builtin .copy,_,_⟩=>true
 | _=>false
def uW (ops:Array Oper) (b:List Nat) (i j:Nat):Bool :=
 match (ops.getD j default).dst with
 | none=>true
 | some d=>(ops.getD i default).dst != some d &&
   (!((ops.getD i default).looksAt ops).contains d || (if j<i then(b.getD i 0).testBit j else(b.getD j 0).testBit i))
def aFY (ops:Array Oper) (m j:Nat):Bool :=
 (ops.getD j default).guard.isNone && (match (ops.getD j default).op with | .move _=>true | .binOp ..=>(ops.getD m default).dst.isNone | .extract ..=>(ops.getD m default).dst.isNone | _=>false) &&
 (match (ops.getD j default).dst with | some d=>!((ops.getD m default).looksAt ops).contains d && (ops.getD m default).dst != some d | none=>true) &&
 (match (ops.getD m default).dst with | some d=>!((ops.getD j default).looksAt ops).contains d | none=>true)
def aCW (o:Oper):Bool:=o.guard.isNone && (match o.op with | .store ..=>o.dst.isNone | .call ⟨.builtin .append,_,_⟩=>o.dst.isSome | _=>false)
def qF (ops:Array Oper) (m:Nat) (fr:List Nat):Bool :=
 decide (m≤ops.size) &&
 (List.range ops.size).all (fun i=>(kP (ops.getD i default)).all (·<i) &&
  (if m≤i then(List.range i).all (fun j=>((bef ops.toList []).getD i 0).testBit j || (i==m && fr.contains j)) else !mE (ops.getD i default).op)) &&
 ((List.range m).all fun i=>(List.range m).all fun j=>i==j || uW ops (bef ops.toList []) i j) &&
 (fr.isEmpty || (decide (m<ops.size) && aCW (ops.getD m default) && fr.all fun j=>decide (j<m) && aFY ops m j))
theorem vQ (acc:List Nat) (t:Nat):∀ (l:List Nat) (s:Nat),(l.foldl (fun s j=>s ||| (2 ^ j ||| acc.getD j 0)) s).testBit t=true →
  s.testBit t=true∨∃ j∈l,t=j∨(acc.getD j 0).testBit t=true
 | [],s,h=>.inl h
 | j :: l,s,h=>by
   rcases vQ acc t l _ h with h | ⟨k,hk,h⟩
   ·rw [Nat.testBit_or,Nat.testBit_or,Bool.or_eq_true,Bool.or_eq_true] at h
    rcases h with h | h | h
    ·exact .inl h
    ·rw [Nat.testBit_two_pow] at h
     exact .inr ⟨j,by simp,.inl (by simpa using h.symm:j=t).symm⟩
    ·exact .inr ⟨j,by simp,.inr h⟩
   ·exact .inr ⟨k,by simp [hk],h⟩
theorem tX (ops:Array Oper):∀ (l:List Oper) (acc:List Nat),(∀ i,l[i]?=ops[acc.length+i]?)→(∀ i t,(acc.getD i 0).testBit t=true→Anc ops t i) →
  ∀ i t,((bef l acc).getD i 0).testBit t=true→Anc ops t i
 | [],acc,_,h=>h
 | o :: r,acc,hl,h=>by
   refine tX ops r (acc++[aJB acc o]) (fun i=>?_) (fun i t ht=>?_)
   ·have:=hl (i+1)
    simp only [List.getElem?_cons_succ] at this
    rw [this];congr 1;simp;omega
   ·by_cases hi:i<acc.length
    ·rw [List.getD_eq_getElem?_getD,List.getElem?_append_left hi,←List.getD_eq_getElem?_getD] at ht
     exact h i t ht
    ·by_cases he:i=acc.length
     ·subst he
      have ho:ops[acc.length]?=some o:=by have:=hl 0;simpa using this.symm
      rw [List.getD_eq_getElem?_getD,List.getElem?_append_right (by omega)] at ht
      simp only [Nat.sub_self,List.getElem?_cons_zero,Option.getD_some] at ht
      rcases vQ acc t (kP o) 0 ht with h0 | ⟨j,hj,rfl | h2⟩
      ·simp at h0
      ·exact .one ho hj
      ·exact .step (h j t h2) ho hj
     ·have:(acc++[aJB acc o]).getD i 0=0:=by
       rw [List.getD_eq_getElem?_getD,List.getElem?_eq_none (by simp;omega)];rfl
      rw [this] at ht;simp at ht
theorem gJ {ops:Array Oper} {listed:Array Bool} (_hsz:listed.size=ops.size) {i:Nat}:i∈Region.ready .any ops listed ↔
  ∃ o,ops[i]?=some o∧listed.getD i true=false∧∀ j∈kP o,listed.getD j false=true:=by
 unfold Region.ready
 simp only [List.mem_filter,List.mem_range,Bool.and_eq_true,Bool.not_eq_true']
 constructor
 ·rintro⟨h1,h2,h3⟩
  refine⟨ops[i],Array.getElem?_eq_getElem h1,h2,fun j hj=>?_⟩
  rw [Array.getElem?_eq_getElem h1] at h3
  simp only [Option.map_some,Option.getD_some,Array.all_eq_true_iff_forall_mem] at h3
  simp only [kP,List.mem_filterMap] at hj
  obtain⟨e,he,hj⟩:=hj
  have:=h3 e (by simpa using he)
  split at hj
  ·rename_i hb
   simp only [Option.some.injEq] at hj
   subst hj
   simpa [hb] using this
  ·cases hj
 ·rintro⟨o,h1,h2,h3⟩
  have hi:=(Array.getElem?_eq_some_iff.1 h1).1
  refine⟨hi,h2,?_⟩
  rw [h1]
  simp only [Option.map_some,Option.getD_some,Array.all_eq_true_iff_forall_mem]
  intro e he
  cases hb:Region.binds .any e with
  | false=>simp
  | true =>
   have:=h3 e.on (by simp only [kP,List.mem_filterMap];exact⟨e,by simpa using he,by simp [hb]⟩)
   simpa using this
theorem xV {α:Type} (p q:α→Bool):∀ (l:List α),(∀ x∈l,p x=true→q x=true)→(∃ x∈l,q x=true∧p x=false)→l.countP p<l.countP q
 | [],_,⟨x,hx,_⟩=>by simp at hx
 | y :: l,h,⟨x,hx,h1,h2⟩=>by
   have hle:∀ (l:List α),(∀ x∈l,p x=true→q x=true)→l.countP p≤l.countP q:=fun l h=>List.countP_mono_left h
   simp only [List.countP_cons]
   rcases List.mem_cons.1 hx with rfl | hx
   ·have:=hle l (fun z hz=>h z (by simp [hz]))
    simp [h1,h2];omega
   ·have ih:=xV p q l (fun z hz=>h z (by simp [hz])) ⟨x,hx,h1,h2⟩
    have hy:=h y (by simp)
    cases hp:p y with
    | false=>simp;split<;>omega
    | true=>simp [hy hp];omega
theorem xH {P:Program} {ops:Array Oper} {Q:Exit→Act→World→Prop} (Inv:Array Bool→Act→World→Prop)
  (hdir:∀ i o,ops[i]?=some o→∀ j∈kP o,j<i)
  (hstep:∀ listed a w i o,listed.size=ops.size→Inv listed a w→ops[i]?=some o→listed.getD i true=false→(∀ j∈kP o,listed.getD j false=true) →
   if Region.wanted o (yielded ops a.tmps) then o.wp P a w (fun a' w'=>Inv (listed.setIfInBounds i true) a' w') Q else Inv (listed.setIfInBounds i true) (a.put o.dst undef) w)
  (hend:∀ listed a w,listed.size=ops.size→Inv listed a w→(∀ i,i<ops.size→listed.getD i false=true)→Q .normal a w) :
  ∀ (fuel:Nat) (listed:Array Bool) (a:Act) (w:World),listed.size=ops.size→(List.range ops.size).countP (fun i=>!listed.getD i true)≤fuel→Inv listed a w→wpAny P .any ops Q fuel listed a w:=by
 have hall:∀ (listed:Array Bool),listed.size=ops.size→Region.ready .any ops listed=[]→∀ i,i<ops.size→listed.getD i false=true:=by
  intro listed hsz hr i
  induction i using Nat.strongRecOn with
  | _ i ih =>
   intro hi
   cases hl:listed.getD i false with
   | true=>rfl
   | false =>
    have h1:listed.getD i true=false:=by
     rw [Array.getD_eq_getD_getElem?,Array.getElem?_eq_getElem (by omega)] at hl ⊢
     simpa using hl
    have:i∈Region.ready .any ops listed:=(gJ hsz).2 ⟨ops[i],Array.getElem?_eq_getElem hi,h1,fun j hj=>by
     have hji:=hdir i _ (Array.getElem?_eq_getElem hi) j hj
     exact ih j hji (by omega)⟩
    rw [hr] at this;cases this
 intro fuel
 induction fuel with
 | zero =>
  intro listed a w hsz hc hI
  have hr:Region.ready .any ops listed=[]:=by
   apply List.eq_nil_iff_forall_not_mem.2
   intro i hi
   obtain⟨o,h1,h2,_⟩:=(gJ hsz).1 hi
   have hpos:0<(List.range ops.size).countP (fun i=>!listed.getD i true) :=
    List.countP_pos_iff.2 ⟨i,by simpa using (Array.getElem?_eq_some_iff.1 h1).1,by rw [h2];rfl⟩
   omega
  exact⟨hr,hend listed a w hsz hI (hall listed hsz hr)⟩
 | succ fuel ih =>
  intro listed a w hsz hc hI
  refine⟨fun hr=>hend listed a w hsz hI (hall listed hsz hr),fun i hi=>?_⟩
  obtain⟨o,h1,h2,h3⟩:=(gJ hsz).1 hi
  have hi':=(Array.getElem?_eq_some_iff.1 h1).1
  have hs:=hstep listed a w i o hsz hI h1 h2 h3
  have hcnt:(List.range ops.size).countP (fun k=>!(listed.setIfInBounds i true).getD k true)<(List.range ops.size).countP (fun k=>!listed.getD k true):=by
   apply xV
   ·intro k _ hk
    by_cases e:i=k
    ·subst e
     rw [Array.getD_eq_getD_getElem?,Array.getElem?_setIfInBounds_self_of_lt (by omega)] at hk
     simp at hk
    ·rw [Array.getD_eq_getD_getElem?,Array.getElem?_setIfInBounds_ne e] at hk
     rw [Array.getD_eq_getD_getElem?];exact hk
   ·refine⟨i,by simpa using hi',by rw [h2];rfl,?_⟩
    rw [Array.getD_eq_getD_getElem?,Array.getElem?_setIfInBounds_self_of_lt (by omega)];rfl
  have hcont:∀ a' w',Inv (listed.setIfInBounds i true) a' w'→wpAny P .any ops Q fuel (listed.setIfInBounds i true) a' w':=fun a' w' h =>
   ih _ a' w' (by simpa using hsz) (by omega) h
  unfold wpOp
  rw [h1]
  simp only
  split
  ·rename_i hw;rw [if_pos hw] at hs;exact .inl (Oper.wp_mono hcont hs)
  ·rename_i hw;rw [if_neg hw] at hs;exact hcont _ _ hs
end Go.Lg
namespace Go.Lg
theorem cM.le_refl (H:cM):H.le H:=fun _ blk h=>⟨blk.mt,h,fun h=>h,fun h1 h2=>by rw [h1] at h2;cases h2⟩
theorem cM.le_trans {H H' H'':cM} (h:H.le H') (h':H'.le H''):H.le H'':=fun b blk hb=>by
 obtain⟨m,g1,g2,g3⟩:=h b blk hb
 obtain⟨m',k1,k2,k3⟩:=h' b _ g1
 refine⟨m',k1,fun e=>k2 (g2 e),fun e1 e2=>?_⟩
 cases hm:m with
 | false=>exact g3 e1 hm
 | true=>exact k3 hm e2
section
variable {P:Program} {W w:World} {X:XS} {Z0 Z:Nat→Prop} {μ:Nat→Option Nat} {a:Act} {n:Nat} {ops:Array Oper}
theorem lN {K:St→Prop}:∀ (l:List Oper) (L:St),opsL P true ops l L K→∃ f:Nat→St,f 0=L∧(∀ i o,l[i]?=some o→Step P true ops o (f i) (f (i+1)))∧K (f l.length)
 | [],L,h=>⟨fun _=>L,rfl,fun i o h=>by simp at h,h⟩
 | o :: r,L,⟨L',h1,h2⟩=>by
   obtain⟨f,g1,g2,g3⟩:=lN r L' h2
   refine⟨fun i=>match i with | 0=>L | i+1=>f i,rfl,fun i o' h=>?_,g3⟩
   cases i with
   | zero=>simp only [List.getElem?_cons_zero,Option.some.injEq] at h;subst h;rw [←g1] at h1;exact h1
   | succ i=>exact g2 i o' (by simpa using h)
theorem OpT.tail {L L':St} {dst:Option Tmp} {op:Op} (h:OpT P L dst op L'):mE op=true:=by cases h<;>rfl
theorem s7 {o:Oper} {L L':St} (ht:mE o.op=false) (h:Step P true ops o L L'):L.heap.le L'.heap∧∀ t,o.dst≠some t→L'.slot t=L.slot t:=by
 have hput:∀ (r:LV) t,o.dst≠some t→(L.put o.dst r).slot t=L.slot t:=fun r t hne=>by
  unfold St.put
  cases hd:o.dst with
  | none=>rfl
  | some d=>exact(bU L d r t).trans (if_neg (fun e=>hne (by rw [hd,e])))
 cases h with
 | skip hg h=>subst h;exact⟨by rw [eL];exact cM.le_refl _,hput _⟩
 | val hg hle hfr ho h=>subst h;exact⟨hle,hput _⟩
 | st hg ho =>
  obtain⟨dst,op,ty,pos,after,g⟩:=o
  cases ho<;>simp [mE] at ht
 | stM hdr _ _=>cases hdr
open Classical in
noncomputable def bW (ops:Array Oper) (f:Nat→St) (m:Nat) (D:Array Bool) (t:Nat):LV :=
 if ∃ i o,i<m∧D.getD i false=true∧ops[i]?=some o∧o.dst=some t then(f m).slot t else(f 0).slot t
def kK:Option Nat→LV→LV
 | none,x=>x
 | some b,x=>x.kill b
noncomputable def cZ (ops:Array Oper) (f:Nat→St) (m:Nat) (dm:Option Tmp) (kb:Option Nat) (D:Array Bool) (t:Nat):LV :=
 if dm=some t then(f (m+1)).slot t else kK kb (bW ops f m D t)
def aCZ (f:Nat→St) (i b:Nat):Prop:=(f i).heap b=none∧(f (i+1)).heap b≠none
theorem xM {m id:Nat} {fr:List Nat} {K:St→Prop} {Q:Exit→Act→World→Prop} {L:St} {f:Nat→St} (hfol:P.follows .mixedOrders=true) (hs:kZ n W X Z0 L a w)
  (f0:f 0=L) (fs':∀ i o,ops[i]?=some o→Step P true ops o (f i) (f (i+1))) (fK:K (f ops.size)) (hmn:m≤ops.size) (hdir:∀ i o,ops[i]?=some o→∀ j∈kP o,j<i)
  (htail:∀ i o,ops[i]?=some o→m≤i→∀ j,j<i→Anc ops j i∨(i=m∧j∈fr)) (hpre:∀ i o,ops[i]?=some o→i<m→mE o.op=false)
  (hpair:∀ i j oi oj d,ops[i]?=some oi→ops[j]?=some oj→i<m→j<m→i≠j→oj.dst=some d→oi.dst≠some d∧(d∈oi.looksAt ops→if j<i then Anc ops j i else Anc ops i j))
  (hfree:∀ j o,ops[j]?=some o→j∈fr→j<m∧m<ops.size∧(∀ om,ops[m]?=some om→om.guard=none∧((om.dst=none∧∃ T p x,om.op=.store T p x)∨∃ d xs ts,om.dst=some d∧om.op=.call ⟨.builtin .append,xs,ts⟩) ∧
    (∀ d,o.dst=some d→d∉om.looksAt ops∧om.dst≠some d)∧∀ d,om.dst=some d→d∉o.looksAt ops) ∧
   o.guard=none∧((∃ x,o.op=.move x)∨(∃ q T x y U,o.op=.binOp q T x y U∧∀ om,ops[m]?=some om→om.dst=none)∨(∃ x i,o.op=.extract x i∧∀ om,ops[m]?=some om→om.dst=none) ∨
    ((∀ om,ops[m]?=some om→om.dst=none)∧∃ r,OpV P (f (m+1)).heap (f j).ev (o.dst.getD 0) o.op r []∧∀ t,o.dst=some t→(f (j+1)).slot t=r)))
  (hd:∀ o∈ops.toList,∀ t,o.dst=some t→t<n) (hq:∀ L' a' w',K L'→kZ n W X Z0 L' a' w'→Q .normal a' w') :
  (Code.region id ops true).wp P Q a w:=by
 have getD_of:∀ i o,ops[i]?=some o→ops.getD i default=o:=fun i o h=>by rw [Array.getD_eq_getD_getElem?,h];rfl
 have lt_of:∀ i o,ops[i]?=some o→i<ops.size:=fun i o h=>(Array.getElem?_eq_some_iff.1 h).1
 have some_of:∀ i,i<ops.size→∃ o,ops[i]?=some o:=fun i h=>⟨_,Array.getElem?_eq_getElem h⟩
 have hstep:∀ i o,ops[i]?=some o→i<m→(f i).heap.le (f (i+1)).heap∧∀ t,o.dst≠some t→(f (i+1)).slot t=(f i).slot t:=fun i o h him=>s7 (hpre i o h him) (fs' i o h)
 have hle:∀ i j,i≤j→j≤m→(f i).heap.le (f j).heap:=by
  intro i j hij
  induction j with
  | zero =>
   intro _
   have:i=0:=by omega
   subst this;exact cM.le_refl _
  | succ j ih =>
   intro hjm
   by_cases e:i=j+1
   ·subst e;exact cM.le_refl _
   ·obtain⟨o,ho⟩:=some_of j (by omega)
    exact cM.le_trans (ih (by omega) (by omega)) (hstep j o ho (by omega)).1
 have hconst:∀ i j t,i≤j→j≤m→(∀ k o,i≤k→k<j→ops[k]?=some o→o.dst≠some t)→(f j).slot t=(f i).slot t:=by
  intro i j t hij
  induction j with
  | zero =>
   intro _ _
   have:i=0:=by omega
   subst this;rfl
  | succ j ih =>
   intro hjm hk
   by_cases e:i=j+1
   ·subst e;rfl
   ·obtain⟨o,ho⟩:=some_of j (by omega)
    rw [(hstep j o ho (by omega)).2 t (hk j o (by omega) (by omega) ho)]
    exact ih (by omega) (by omega) (fun k o h1 h2=>hk k o h1 (by omega))
 have hle_ne:∀ i j b,i≤j→j≤m→(f i).heap b≠none→(f j).heap b≠none:=fun i j b hij hjm hb=>by
  obtain⟨blk,hblk⟩:=Option.ne_none_iff_exists'.1 hb
  obtain⟨mm,g,_⟩:=hle i j hij hjm b blk hblk
  rw [g];simp
 have hslot:∀ i o t,ops[i]?=some o→i<m→o.dst=some t→(f m).slot t=(f (i+1)).slot t:=fun i o t ho him hdt =>
  hconst (i+1) m t (by omega) (Nat.le_refl _) (fun k ok h1 h2 hk e=>(hpair i k o ok t ho hk him h2 (by omega) e).1 hdt)
 let closed:Array Bool→Prop:=fun D=>∀ i o,ops[i]?=some o→D.getD i false=true→∀ j∈kP o,D.getD j false=true
 have hclosed:∀ D,closed D→∀ j i,Anc ops j i→(∀ o,ops[i]?=some o→∀ k∈kP o,D.getD k false=true)→D.getD j false=true:=by
  intro D hD j i hA
  induction hA with
  | @one i o ho h=>intro hr;exact hr o ho _ h
  | @step k i o hA ho hk ih=>intro hr;exact ih (fun o' ho' k' hk'=>hD k o' ho' (hr o ho k hk) k' hk')
 let PhA:Array Bool→Act→World→Prop:=fun D a w=>(∀ i,D.getD i false=true→i<m)∧a.defers=[]∧a.tmps.size=n∧∃ μ Z,Core W X Z0 μ Z (f m).heap w ∧
  (∀ b,μ b≠none→(f 0).heap b≠none∨∃ i,i<m∧D.getD i false=true∧aCZ f i b)∧∀ t,bP Z μ w (bW ops f m D t) (a.tmps.getD t undef)
 let PhB:Array Bool→Act→World→Prop:=fun D a w=>∃ k,m≤k∧(∀ i,i<ops.size→(D.getD i false=true↔i<k))∧k≤ops.size∧kZ n W X Z0 (f k) a w
 let PhC:Array Bool→Act→World→Prop:=fun D a w=>m<ops.size∧(∃ om kb,ops[m]?=some om∧(om.dst=none→kb=none)∧(∀ t,om.dst≠some t→(f (m+1)).slot t=kK kb ((f m).slot t)) ∧
  kZ n W X Z0 ⟨cZ ops f m om.dst kb D,(f (m+1)).heap⟩ a w)∧(∀ i,D.getD i false=true→i≤m)∧D.getD m false=true∧(∀ i,i<m→i∉fr→D.getD i false=true)
 have hAB:∀ D a w,PhA D a w→(∀ i,i<m→D.getD i false=true)→kZ n W X Z0 (f m) a w:=by
  rintro D a w ⟨_,hdf,hsz,μ,Z,hc,_,hr⟩ hall
  refine⟨hdf,hsz,μ,Z,hc,fun t=>?_⟩
  have:=hr t
  unfold bW at this
  split at this
  ·exact this
  ·rename_i hno
   rw [hconst 0 m t (Nat.zero_le _) (Nat.le_refl _) (fun k o _ hkm hk e=>hno ⟨k,o,hkm,hall k hkm,hk,e⟩)]
   exact this
 refine wp_region_any hfol (xH (fun D a w=>closed D∧(PhA D a w∨PhB D a w∨PhC D a w)) hdir ?_ ?_ ops.size _ _ _ (by simp) ?_ ?_)
 ·
  intro D a w i o hDs ⟨hcl,hI⟩ ho hni hrd
  have hin:=lt_of i o ho
  have hni':D.getD i false=false:=by
   rw [Array.getD_eq_getD_getElem?,Array.getElem?_eq_getElem (by omega)] at hni ⊢
   simpa using hni
  have hset:∀ k,(D.setIfInBounds i true).getD k false=true↔k=i∨D.getD k false=true:=fun k=>by
   by_cases e:i=k
   ·subst e
    rw [Array.getD_eq_getD_getElem?,Array.getElem?_setIfInBounds_self_of_lt (by omega)];simp
   ·rw [Array.getD_eq_getD_getElem?,Array.getElem?_setIfInBounds_ne e,←Array.getD_eq_getD_getElem?]
    constructor
    ·exact fun h=>.inr h
    ·rintro(h | h)
     ·exact absurd h.symm e
     ·exact h
  have hcl':closed (D.setIfInBounds i true):=fun k ok hk hDk j hj=>by
   rcases(hset k).1 hDk with rfl | h
   ·rw [ho] at hk;cases hk
    exact(hset j).2 (.inr (hrd j hj))
   ·exact(hset j).2 (.inr (hcl k ok hk h j hj))
  have hrd':∀ o',ops[i]?=some o'→∀ k∈kP o',D.getD k false=true:=fun o' ho' k hk=>(by rw [ho] at ho';cases ho';exact hrd k hk)
  have hdo:∀ t,o.dst=some t→t<n:=hd o (by rw [Array.mem_toList_iff];exact Array.mem_of_getElem? ho)
  have tail:∀ k,m≤k→(∀ j,j<ops.size→(D.getD j false=true↔j<k))→k=i→kZ n W X Z0 (f k) a w →
    if Region.wanted o (yielded ops a.tmps) then o.wp P a w (fun a' w'=>closed (D.setIfInBounds i true)∧(PhA (D.setIfInBounds i true) a' w'∨PhB (D.setIfInBounds i true) a' w'∨PhC (D.setIfInBounds i true) a' w')) Q
    else closed (D.setIfInBounds i true)∧(PhA (D.setIfInBounds i true) (a.put o.dst undef) w∨PhB (D.setIfInBounds i true) (a.put o.dst undef) w∨PhC (D.setIfInBounds i true) (a.put o.dst undef) w):=by
   intro k hmk hDk e hsim
   subst e
   refine hF hsim (fs' k o ho) hdo (K:=fun a' w'=>closed (D.setIfInBounds k true)∧(PhA (D.setIfInBounds k true) a' w'∨PhB (D.setIfInBounds k true) a' w'∨PhC (D.setIfInBounds k true) a' w')) (fun a' w' hs'=>⟨hcl',.inr (.inl ⟨k+1,by omega,fun j hj=>?_,by omega,hs'⟩)⟩)
   rw [hset j,hDk j hj];omega
  have hread:i<m→∀ t,t∈o.looksAt ops→(f i).slot t=bW ops f m D t:=by
   intro him t ht
   by_cases hex:∃ j oj,j<m∧ops[j]?=some oj∧oj.dst=some t
   ·obtain⟨j,oj,hjm,hj,hdj⟩:=hex
    have huniq:∀ k ok,k<m→ops[k]?=some ok→ok.dst=some t→k=j:=fun k ok hkm hk hdk =>
     Classical.byContradiction fun hne=>(hpair k j ok oj t hk hj hkm hjm hne hdj).1 hdk
    by_cases hji:j=i
    ·subst hji
     have e1:(f j).slot t=(f 0).slot t:=hconst 0 j t (Nat.zero_le _) (by omega) (fun k ok _ hkj hk e=>by have:=huniq k ok (by omega) hk e;omega)
     have e2:bW ops f m D t=(f 0).slot t:=by
      unfold bW
      rw [if_neg]
      rintro⟨k,ok,hkm,hDk,hk,hdk⟩
      have:=huniq k ok hkm hk hdk
      subst this
      rw [hni'] at hDk;cases hDk
     rw [e1,e2]
    ·have hp:=(hpair i j o oj t ho hj him hjm (Ne.symm hji) hdj).2 ht
     by_cases hlt:j<i
     ·rw [if_pos hlt] at hp
      have hDj:=hclosed D hcl j i hp hrd'
      have e2:bW ops f m D t=(f m).slot t:=by
       unfold bW
       rw [if_pos ⟨j,oj,hjm,hDj,hj,hdj⟩]
      rw [e2,hslot j oj t hj hjm hdj]
      exact hconst (j+1) i t (by omega) (by omega) (fun k ok hjk hki hk e=>by have:=huniq k ok (by omega) hk e;omega)
     ·rw [if_neg hlt] at hp
      have e1:(f i).slot t=(f 0).slot t:=hconst 0 i t (Nat.zero_le _) (by omega) (fun k ok _ hki hk e=>by have:=huniq k ok (by omega) hk e;omega)
      have e2:bW ops f m D t=(f 0).slot t:=by
       unfold bW
       rw [if_neg]
       rintro⟨k,ok,hkm,hDk,hk,hdk⟩
       have:=huniq k ok hkm hk hdk
       subst this
       have:=hclosed D hcl i k hp (fun o' ho' k' hk'=>hcl k o' ho' hDk k' hk')
       rw [hni'] at this;cases this
      rw [e1,e2]
   ·have e1:(f i).slot t=(f 0).slot t:=hconst 0 i t (Nat.zero_le _) (by omega) (fun k ok _ hki hk e=>hex ⟨k,ok,by omega,hk,e⟩)
    have e2:bW ops f m D t=(f 0).slot t:=by
     unfold bW
     rw [if_neg]
     rintro⟨k,ok,hkm,hDk,hk,hdk⟩
     exact hex ⟨k,ok,hkm,hk,hdk⟩
    rw [e1,e2]
  have hafter:i<m→∀ t,bW ops f m (D.setIfInBounds i true) t=if o.dst=some t then(f (i+1)).slot t else bW ops f m D t:=by
   intro him t
   by_cases hdt:o.dst=some t
   ·rw [if_pos hdt]
    unfold bW
    rw [if_pos ⟨i,o,him,(hset i).2 (.inl rfl),ho,hdt⟩]
    exact hslot i o t ho him hdt
   ·rw [if_neg hdt]
    unfold bW
    congr 1
    apply propext
    constructor
    ·rintro⟨k,ok,hkm,hDk,hk,hdk⟩
     rcases(hset k).1 hDk with rfl | h
     ·rw [ho] at hk;cases hk;exact absurd hdk hdt
     ·exact⟨k,ok,hkm,h,hk,hdk⟩
    ·rintro⟨k,ok,hkm,hDk,hk,hdk⟩
     exact⟨k,ok,hkm,(hset k).2 (.inr hDk),hk,hdk⟩
  have hfull:(∀ j,j<m→D.getD j false=true)→∀ t,bW ops f m D t=(f m).slot t:=by
   intro hall t
   unfold bW
   split
   ·rfl
   ·rename_i hno
    rw [hconst 0 m t (Nat.zero_le _) (Nat.le_refl _) (fun k o _ hkm hk e=>hno ⟨k,o,hkm,hall k hkm,hk,e⟩)]
  rcases hI with hA | ⟨k,hmk,hDk,hkn,hsim⟩ | ⟨hms,⟨om,kb,hom,hkb,hslm,hsim⟩,hDm,hDmm,hDf⟩
  ·by_cases him:i<m
   ·obtain⟨hDm,hdf,hsz,μ,Z,hc,hnew,hr⟩:=hA
    have hDm':∀ k,(D.setIfInBounds i true).getD k false=true→k<m:=fun k hk=>by
     rcases(hset k).1 hk with rfl | h
     ·exact him
     ·exact hDm k h
    have hd':∀ t,o.dst=some t→t<a.tmps.size:=fun t h=>by rw [hsz];exact hdo t h
    have hguard:∀ res,bS ops (f i) o res→Region.wanted o (yielded ops a.tmps)=res:=by
     intro res hg
     refine fM (L:=⟨bW ops f m D,(f m).heap⟩) hr ?_
     unfold bS at hg ⊢
     cases h:o.guard with
     | none=>rw [h] at hg;exact hg
     | some p =>
      obtain⟨j,want⟩:=p
      rw [h] at hg
      obtain⟨d,q1,q⟩:=hg
      have e:(f i).slot d=bW ops f m D d:=hread him d (by unfold Oper.looksAt;rw [h];simp [q1])
      refine⟨d,q1,?_⟩
      show (∃ b,bW ops f m D d=_∧_)∨(bW ops f m D d=_∧_)
      rw [←e]
      exact q
    have hfin:∀ (r:LV) (v:Value) (w':World) (μ':Nat→Option Nat) (Z':Nat→Prop),(∀ t,o.dst=some t→(f (i+1)).slot t=r)→Core W X Z0 μ' Z' (f m).heap w' →
      (∀ b,μ' b≠none→μ b≠none∨aCZ f i b)→(∀ t,bP Z' μ' w' (bW ops f m D t) (a.tmps.getD t undef))→bP Z' μ' w' r v →
      closed (D.setIfInBounds i true)∧(PhA (D.setIfInBounds i true) (a.put o.dst v) w'∨PhB (D.setIfInBounds i true) (a.put o.dst v) w'∨PhC (D.setIfInBounds i true) (a.put o.dst v) w'):=by
     intro r v w' μ' Z' hrs hc' hnw hr' hv
     refine⟨hcl',.inl ⟨hDm',by rw [eG];exact hdf,by rw [fU];exact hsz,μ',Z',hc',fun b hb=>?_,fun t=>?_⟩⟩
     ·rcases hnw b hb with h | h
      ·rcases hnew b h with h | ⟨k,hkm,hDk,hk⟩
       ·exact .inl h
       ·exact .inr ⟨k,hkm,(hset k).2 (.inr hDk),hk⟩
      ·exact .inr ⟨i,him,(hset i).2 (.inl rfl),h⟩
     ·rw [hafter him t]
      have:=gL (L:=⟨bW ops f m D,(f m).heap⟩) (d:=o.dst) hd' hr' hv t
      split
      ·rename_i hdt
       rw [hrs t hdt]
       rw [hdt,bU,if_pos rfl] at this
       rw [hdt];exact this
      ·rename_i hdt
       cases hdd:o.dst with
       | none=>rw [hdd] at this;exact this
       | some d =>
        rw [hdd] at this hdt
        rwa [bU,if_neg (fun e=>hdt (by rw [e]))] at this
    have hstp:=fs' i o ho
    cases hstp':hstp with
    | skip hg h =>
     rw [hguard false hg]
     simp only [Bool.false_eq_true,if_false]
     exact hfin (.tup []) undef w μ Z (fun t ht=>by rw [h,ht,bU,if_pos rfl]) hc (fun b hb=>.inl hb) hr ⟨#[],rfl,rfl⟩
    | @val r fr H1 hg hH hfr hov h =>
     rw [hguard true hg]
     simp only [if_true]
     have hH1:H1=(f (i+1)).heap:=by rw [h]
     have hle1:H1.le (f m).heap:=by rw [hH1];exact hle (i+1) m (by omega) (Nat.le_refl _)
     have hov':=hov.le hle1
     obtain⟨dst,op,ty,pos,after,g⟩:=o
     have hops:∀ x∈op.operands,bP Z μ w ((f i).ev x) (a.eval x):=by
      intro x hx
      cases x with
      | tmp t =>
       have ht:t∈Oper.looksAt ops ⟨dst,op,ty,pos,after,g⟩:=by
        unfold Oper.looksAt
        simp only [List.mem_append,List.mem_filterMap]
        exact .inl ⟨.tmp t,by simpa using hx,rfl⟩
       show bP Z μ w ((f i).slot t) (a.tmps.getD t undef)
       rw [hread him t ht];exact hr t
      | const v=>exact fL (L:=⟨bW ops f m D,(f m).heap⟩) hr (.const v)
      | func g=>exact fL (L:=⟨bW ops f m D,(f m).heap⟩) hr (.func g)
      | global g=>exact fL (L:=⟨bW ops f m D,(f m).heap⟩) hr (.global g)
     refine OpV.sound hc hov' hops (fun b blk hb=>?_) dst ty pos after g (fun v w' μ' Z' haf=>?_)
     ·obtain⟨q1,mm,q2,q3⟩:=hfr b blk hb
      obtain⟨m2,q4,q5,_⟩:=hle1 b _ q2
      refine⟨m2,q4,fun e=>q5 (q3 e),?_⟩
      cases hμ:μ b with
      | none=>rfl
      | some id =>
       rcases hnew b (by rw [hμ];simp) with h0 | ⟨k,hkm,hDk,hk1,hk2⟩
       ·exact absurd q1 (hle_ne 0 i b (Nat.zero_le _) (by omega) h0)
       ·have hki:k≠i:=by rintro rfl;rw [hni'] at hDk;cases hDk
        by_cases hlt:k<i
        ·exact absurd q1 (hle_ne (k+1) i b (by omega) (by omega) hk2)
        ·have:(f (i+1)).heap b≠none:=by rw [←hH1,q2];simp
         exact absurd hk1 (hle_ne (i+1) k b (by omega) (by omega) this)
     ·refine hfin r v w' μ' Z' (fun t ht=>by rw [h];simp only at ht;subst ht;exact(bU _ _ _ _).trans (if_pos rfl)) haf.core (fun b hb=>?_) (fun t=>(hr t).mono haf.hz haf.hm haf.hf) haf.rep
      rcases haf.new b hb with h' | h'
      ·exact .inl h'
      ·simp only [List.mem_map] at h'
       obtain⟨⟨b',blk⟩,hb',rfl⟩:=h'
       obtain⟨q1,mm,q2,_⟩:=hfr b' blk hb'
       exact .inr ⟨q1,by rw [←hH1,q2];simp⟩
    | st hg ho' =>
     have:=hpre i o ho him
     rw [ho'.tail] at this;cases this
    | stM hdr _ _=>cases hdr
   ·have him':i=m:=by
     by_cases e:i=m
     ·exact e
     ·rcases htail i o ho (by omega) (i-1) (by omega) with h | ⟨h,_⟩
      ·have:=hA.1 (i-1) (hclosed D hcl _ i h hrd');omega
      ·exact absurd h e
    by_cases hall:∀ j,j<i→D.getD j false=true
    ·subst him'
     exact tail i (Nat.le_refl _) (fun j hj=>⟨fun h=>hA.1 j h,fun h=>hall j h⟩) rfl (hAB D a w hA hall)
    ·
     obtain⟨j0,hj0,hDj0⟩:∃ j,j<i∧D.getD j false=false:=by
      obtain⟨j,h⟩:=Classical.not_forall.1 hall
      obtain⟨h,h'⟩:=Classical.not_imp.1 h
      exact⟨j,h,by simpa using h'⟩
     have hnf:∀ j,j<m→j∉fr→D.getD j false=true:=fun j hj hjf=>by
      rcases htail i o ho (by omega) j (by omega) with h | ⟨_,h⟩
      ·exact hclosed D hcl j i h hrd'
      ·exact absurd h hjf
     have hj0f:j0∈fr:=Classical.byContradiction fun h=>by have:=hnf j0 (by omega) h;rw [hDj0] at this;cases this
     obtain⟨oj0,hoj0⟩:=some_of j0 (by omega)
     subst him'
     obtain⟨_,hms,hst,_⟩:=hfree j0 oj0 hoj0 hj0f
     obtain⟨hg0,hop,_⟩:=hst o ho
     have hsl:∀ t,t∈o.looksAt ops→bW ops f i D t=(f i).slot t:=by
      intro t ht
      unfold bW
      split
      ·rfl
      ·rename_i hno
       refine(hconst 0 i t (Nat.zero_le _) (Nat.le_refl _) (fun k ok _ hki hk e=>hno ⟨k,ok,hki,?_,hk,e⟩)).symm
       by_cases hkf:k∈fr
       ·exact absurd ht (((hfree k ok hk hkf).2.2.1 o ho).2.2.1 t e).1
       ·exact hnf k hki hkf
     have hev:∀ y,y∈o.op.operands→St.ev ⟨bW ops f i D,(f i).heap⟩ y=(f i).ev y:=by
      intro y hy
      cases y with
      | tmp t =>
       show bW ops f i D t=(f i).slot t
       refine hsl t ?_
       unfold Oper.looksAt
       simp only [List.mem_append,List.mem_filterMap]
       exact .inl ⟨.tmp t,by simpa using hy,rfl⟩
      | const v=>rfl
      | func g=>rfl
      | global g=>rfl
     have hA2:kZ n W X Z0 ⟨bW ops f i D,(f i).heap⟩ a w:=by
      obtain⟨_,hdf,hsz,μ,Z,hc,_,hr⟩:=hA
      exact⟨hdf,hsz,μ,Z,hc,hr⟩
     have hstep2:∃ kb,(o.dst=none→kb=none)∧(∀ t,o.dst≠some t→(f (i+1)).slot t=kK kb ((f i).slot t)) ∧
       Step P true ops o ⟨bW ops f i D,(f i).heap⟩ ⟨cZ ops f i o.dst kb D,(f (i+1)).heap⟩:=by
      have hs1:=fs' i o ho
      obtain⟨dst,op,ty,pos,after,g⟩:=o
      simp only at hg0 hop
      rcases hop with⟨hd0,T,p,x,hop⟩ | ⟨d,xs,ts,hd0,hop⟩
      ·subst hg0 hd0 hop
       have e1:=hev p (by simp [Op.operands])
       have e2:=hev x (by simp [Op.operands])
       cases hs1 with
       | skip hg h=>cases hg
       | val hg hle hfr hov h =>
        cases hov with
        | pure h=>cases h
        | alloc h=>cases h
        | call h=>cases h
       | st hg hot =>
        generalize hfe:f (i+1)=F at hot
        cases hot with
        | store hp hb hs hm hi hy hput hT hne =>
         refine⟨none,fun _=>rfl,fun t _=>rfl,.st rfl ?_⟩
         have:=OpT.store (P:=P) (L:=⟨bW ops f i D,(f i).heap⟩) (dst:=none) (x:=x) (e1.trans hp) hb hs hm hi hy (by rw [e2];exact hput) (by rw [e2];exact hT) (by rw [e2];exact hne)
         exact this
       | stM hdr _ _=>cases hdr
      ·subst hg0 hd0 hop
       cases hs1 with
       | skip hg h=>cases hg
       | val hg hle hfr hov h =>
        cases hov with
        | pure h=>cases h
        | alloc h=>cases h
        | call h=>cases h
       | st hg hot =>
        generalize hfe:f (i+1)=F at hot
        cases hot with
        | @appX T U E E' d1 b sz len blk x y news z by_ hx hb hs hm hlen hbd hb0 hT hU hz hE hzs hby hy hsz h63 hs0 =>
         have e1:=hev x (by simp [Op.operands,Call.operands])
         have e2:=hev y (by simp [Op.operands,Call.operands])
         refine⟨some b,(fun h=>by cases h),fun t ht=>?_,.st rfl ?_⟩
         ·exact(bU _ _ _ _).trans (if_neg (fun e=>ht (by rw [e])))
         ·have:=OpT.appX (P:=P) (L:=⟨bW ops f i D,(f i).heap⟩) (dst:=some d) (x:=x) (y:=y) (e1.trans hx) hb hs hm hlen hbd hb0 hT hU hz hE hzs hby (by rw [e2];exact hy) hsz h63 hs0
          have hq:(⟨cZ ops f i (some d) (some b) D,((((f i).kill b).setB d1 (some ⟨sz,bH b (blk.vals.take len++news),true⟩)).put (some d) (.ref d1 sz 0 (len+news.length))).heap⟩:St) =
            (((St.kill ⟨bW ops f i D,(f i).heap⟩ b).setB d1 (some ⟨sz,bH b (blk.vals.take len++news),true⟩)).put (some d) (.ref d1 sz 0 (len+news.length))):=by
           show (⟨_,_⟩:St)=⟨_,_⟩
           congr 1
           funext t
           unfold cZ
           rw [hfe,bU]
           refine Eq.trans ?_ (bU _ _ _ _).symm
           by_cases e:t=d
           ·subst e;rw [if_pos rfl,if_pos rfl,if_pos rfl]
           ·rw [if_neg (by simpa using fun h=>e h.symm),if_neg e];rfl
          rw [hq]
          exact this
        | @app0X T U E E' d1 sz x y news z by_ hx hbd hT hU hz hE hzs hby hy hn hsz h63 hs0 =>
         have e1:=hev x (by simp [Op.operands,Call.operands])
         have e2:=hev y (by simp [Op.operands,Call.operands])
         refine⟨none,(fun h=>by cases h),fun t ht=>?_,.st rfl ?_⟩
         ·exact(bU _ _ _ _).trans (if_neg (fun e=>ht (by rw [e])))
         ·have:=OpT.app0X (P:=P) (L:=⟨bW ops f i D,(f i).heap⟩) (dst:=some d) (x:=x) (y:=y) (e1.trans hx) hbd hT hU hz hE hzs hby (by rw [e2];exact hy) hn hsz h63 hs0
          have hq:(⟨cZ ops f i (some d) none D,((((f i).setB d1 (some ⟨sz,news,true⟩)).put (some d) (.ref d1 sz 0 news.length))).heap⟩:St) =
            (((St.setB ⟨bW ops f i D,(f i).heap⟩ d1 (some ⟨sz,news,true⟩)).put (some d) (.ref d1 sz 0 news.length))):=by
           show (⟨_,_⟩:St)=⟨_,_⟩
           congr 1
           funext t
           unfold cZ
           rw [hfe,bU]
           refine Eq.trans ?_ (bU _ _ _ _).symm
           by_cases e:t=d
           ·subst e;rw [if_pos rfl,if_pos rfl,if_pos rfl]
           ·rw [if_neg (by simpa using fun h=>e h.symm),if_neg e];rfl
          rw [hq]
          exact this
       | stM hdr _ _=>cases hdr
     obtain⟨kb,hkb,hkslot,hstep2⟩:=hstep2
     refine hF hA2 hstep2 hdo (K:=fun a' w'=>closed (D.setIfInBounds i true)∧(PhA (D.setIfInBounds i true) a' w'∨PhB (D.setIfInBounds i true) a' w'∨PhC (D.setIfInBounds i true) a' w')) (fun a' w' hs'=>⟨hcl',.inr (.inr ⟨hms,⟨o,kb,ho,hkb,hkslot,?_⟩,fun k hk=>?_,(hset i).2 (.inl rfl),fun k hk hkf=>(hset k).2 (.inr (hnf k hk hkf))⟩)⟩)
     ·have:bW ops f i (D.setIfInBounds i true)=bW ops f i D:=by
       funext t
       unfold bW
       congr 1
       apply propext
       constructor
       ·rintro⟨k,ok,hkm,hDk,hk,hdk⟩
        rcases(hset k).1 hDk with rfl | h
        ·omega
        ·exact⟨k,ok,hkm,h,hk,hdk⟩
       ·rintro⟨k,ok,hkm,hDk,hk,hdk⟩
        exact⟨k,ok,hkm,(hset k).2 (.inr hDk),hk,hdk⟩
      have e:cZ ops f i o.dst kb (D.setIfInBounds i true)=cZ ops f i o.dst kb D:=by
       funext t;unfold cZ;rw [this]
      rw [e];exact hs'
     ·rcases(hset k).1 hk with rfl | h
      ·exact Nat.le_refl _
      ·have:=hA.1 k h;omega
  ·have hik:k≤i:=by
    by_cases e:i<k
    ·have:=(hDk i hin).2 e;rw [hni'] at this;cases this
    ·omega
   have:k=i:=by
    by_cases e:k=i
    ·exact e
    ·rcases htail i o ho (by omega) k (by omega) with h | ⟨h,_⟩
     ·have:=hclosed D hcl k i h hrd'
      have:=(hDk k (by omega)).1 this;omega
     ·omega
   exact tail k hmk hDk this hsim
  ·
   have hDne:i≠m:=by rintro rfl;rw [hni'] at hDmm;cases hDmm
   by_cases him:i<m
   ·have hif:i∈fr:=Classical.byContradiction fun h=>by have:=hDf i him h;rw [hni'] at this;cases this
    obtain⟨_,_,hst,hg0,hop⟩:=hfree i o ho hif
    obtain⟨_,_,hd1,hd2⟩:=hst om hom
    have hrd1:∀ t,t∈o.looksAt ops→cZ ops f m om.dst kb D t=kK kb ((f i).slot t):=fun t ht=>by
     unfold cZ
     rw [if_neg (fun e=>hd2 t e ht),←hread him t ht]
    have hopr:∀ t,Operand.tmp t∈o.op.operands→t∈o.looksAt ops:=fun t hy=>by
     unfold Oper.looksAt
     simp only [List.mem_append,List.mem_filterMap]
     exact .inl ⟨.tmp t,by simpa using hy,rfl⟩
    have hev:kb=none→∀ y,y∈o.op.operands→(f i).ev y=St.ev ⟨cZ ops f m om.dst kb D,(f (m+1)).heap⟩ y:=by
     intro hk y hy
     cases y with
     | tmp t =>
      show (f i).slot t=cZ ops f m om.dst kb D t
      rw [hrd1 t (hopr t hy),hk];rfl
     | const v=>rfl
     | func g=>rfl
     | global g=>rfl
    have hevk:∀ y,y∈o.op.operands→St.ev ⟨cZ ops f m om.dst kb D,(f (m+1)).heap⟩ y=kK kb ((f i).ev y):=by
     intro y hy
     cases y with
     | tmp t=>exact hrd1 t (hopr t hy)
     | const v =>
      show (if _ then _ else _:LV)=kK kb (if _ then _ else _)
      cases kb<;>split<;>rfl
     | func g=>cases kb<;>rfl
     | global g=>cases kb<;>rfl
    by_cases hgen:∃ r,OpV P (f (m+1)).heap (f i).ev (o.dst.getD 0) o.op r []∧(∀ t,o.dst=some t→(f (i+1)).slot t=r)∧om.dst=none
    ·obtain⟨r,hov,hrs,hnd⟩:=hgen
     have hk0:=hkb hnd
     obtain⟨hdf,hsz,μ,Z,hc,hr⟩:=hsim
     have hd':∀ t,o.dst=some t→t<a.tmps.size:=fun t h=>by rw [hsz];exact hdo t h
     have hwant:Region.wanted o (yielded ops a.tmps)=true:=fM (L:=⟨cZ ops f m om.dst kb D,(f (m+1)).heap⟩) hr (by unfold bS;rw [hg0])
     rw [hwant]
     simp only [if_true]
     have haf:=hafter him
     obtain⟨dst,op,ty,pos,after,g⟩:=o
     have hops:∀ x∈op.operands,bP Z μ w ((f i).ev x) (a.eval x):=by
      intro x hx
      have h1:=fL (L:=⟨cZ ops f m om.dst kb D,(f (m+1)).heap⟩) hr x
      rwa [←hev hk0 x hx] at h1
     refine OpV.sound hc hov hops (fun b blk hb=>by cases hb) dst ty pos after g (fun v w' μ' Z' haf2=>?_)
     refine⟨hcl',.inr (.inr ⟨hms,⟨om,kb,hom,hkb,hslm,by rw [eG];exact hdf,by rw [fU];exact hsz,μ',Z',haf2.core,fun t=>?_⟩,fun k hk=>?_,(hset m).2 (.inr hDmm),fun k hk hkf=>(hset k).2 (.inr (hDf k hk hkf))⟩)⟩
     ·have h1:=gL (L:=⟨cZ ops f m om.dst kb D,(f (m+1)).heap⟩) (d:=dst) hd' (fun t=>(hr t).mono haf2.hz haf2.hm haf2.hf) haf2.rep t
      have e:cZ ops f m om.dst kb (D.setIfInBounds i true) t=(St.put ⟨cZ ops f m om.dst kb D,(f (m+1)).heap⟩ dst r).slot t:=by
       unfold cZ
       rw [haf t,hnd,hk0]
       cases dst with
       | none=>rw [if_neg (c:=(none:Option Tmp)=some t) (by simp),if_neg (c:=(none:Option Tmp)=some t) (by simp)];rfl
       | some d =>
        rw [if_neg (c:=(none:Option Tmp)=some t) (by simp),bU]
        by_cases e:t=d
        ·subst e;rw [if_pos rfl,if_pos rfl];exact hrs t rfl
        ·rw [if_neg (c:=(some d:Option Tmp)=some t) (by simpa using fun h=>e h.symm),if_neg e]
         show kK none (bW ops f m D t)=if (none:Option Tmp)=some t then(f (m+1)).slot t else kK none (bW ops f m D t)
         rw [if_neg (by simp)]
      show bP Z' μ' w' (cZ ops f m om.dst kb (D.setIfInBounds i true) t) _
      rw [e];exact h1
     ·rcases(hset k).1 hk with rfl | h
      ·omega
      ·exact hDm k h
    replace hop:(∃ x,o.op=.move x)∨(∃ q T x y U,o.op=.binOp q T x y U∧∀ om,ops[m]?=some om→om.dst=none)∨(∃ x i,o.op=.extract x i∧∀ om,ops[m]?=some om→om.dst=none):=by
     rcases hop with h | h | h | ⟨h1,r,h2,h3⟩
     ·exact .inl h
     ·exact .inr (.inl h)
     ·exact .inr (.inr h)
     ·exact absurd ⟨r,h2,h3,h1 om hom⟩ hgen
    have hstep2:Step P true ops o ⟨cZ ops f m om.dst kb D,(f (m+1)).heap⟩ ⟨cZ ops f m om.dst kb (D.setIfInBounds i true),(f (m+1)).heap⟩:=by
     have hs1:=fs' i o ho
     have haf:=hafter him
     obtain⟨dst,op,ty,pos,after,g⟩:=o
     simp only at hg0 hop haf hd1
     subst hg0
     have hfin2:∀ r,OpP P (f (m+1)).heap (St.ev ⟨cZ ops f m om.dst kb D,(f (m+1)).heap⟩) op (kK kb r)→(∀ t,dst=some t→(f (i+1)).slot t=r)→Step P true ops ⟨dst,op,ty,pos,after,none⟩ ⟨cZ ops f m om.dst kb D,(f (m+1)).heap⟩ ⟨cZ ops f m om.dst kb (D.setIfInBounds i true),(f (m+1)).heap⟩:=by
      intro r hr hrs
      refine .val rfl (cM.le_refl _) (fr:=[]) (fun _ _ h=>by cases h) (.pure hr) ?_
      show (_:St)=⟨_,_⟩
      congr 1
      funext t
      unfold cZ
      rw [haf t]
      cases dst with
      | none=>rw [if_neg (c:=(none:Option Tmp)=some t) (by simp)];rfl
      | some d =>
       show _=(St.put _ (some d) _).slot t
       rw [bU]
       by_cases e:t=d
       ·subst e;rw [if_neg (hd1 t rfl).2,if_pos rfl,if_pos rfl,hrs t rfl]
       ·rw [if_neg (c:=(some d:Option Tmp)=some t) (by simpa using fun h=>e h.symm),if_neg e]
     cases hs1 with
     | skip hg h=>cases hg
     | @val r fr' H1 hg hle hfr hov h =>
      have hrs:∀ t,dst=some t→(f (i+1)).slot t=r:=fun t ht=>by rw [h];simp only;subst ht;exact(bU _ _ _ _).trans (if_pos rfl)
      rcases hop with⟨x,rfl⟩ | ⟨q,T,x,y,U,rfl,hnd⟩ | ⟨x,i,rfl,hnd⟩
      ·cases hov with
       | pure hp =>
        cases hp with
        | move =>
         refine hfin2 _ ?_ hrs
         rw [←hevk x (by simp [Op.operands])];exact .move x
       | alloc hp=>cases hp
       | call hp=>cases hp
      ·have hk0:=hkb (hnd om hom)
       have e1:=hev hk0 x (by simp [Op.operands])
       have e2:=hev hk0 y (by simp [Op.operands])
       cases hov with
       | pure hp =>
        refine hfin2 _ ?_ hrs
        rw [hk0] at e1 e2 ⊢
        cases hp with
        | bin hx hy hb=>exact .bin (e1.symm.trans hx) (e2.symm.trans hy) hb
        | sh hx hy hb=>exact .sh (e1.symm.trans hx) (e2.symm.trans hy) hb
        | beq hx hy hb=>exact .beq (e1.symm.trans hx) (e2.symm.trans hy) hb
        | bne hx hy hb=>exact .bne (e1.symm.trans hx) (e2.symm.trans hy) hb
        | addS hx hy hb=>exact .addS (e1.symm.trans hx) (e2.symm.trans hy) hb
        | eqS hx hy=>exact .eqS (e1.symm.trans hx) (e2.symm.trans hy)
        | eqN hx hy hT=>exact .eqN (e1.symm.trans hx) (e2.symm.trans hy) hT
        | eqNL hx hy hT=>exact .eqNL (e1.symm.trans hx) (e2.symm.trans hy) hT
        | eqA4 hx hy hT hE hs hd=>exact .eqA4 (e1.symm.trans hx) (e2.symm.trans hy) hT hE hs hd
       | alloc hp=>cases hp
       | call hp=>cases hp
      ·have hk0:=hkb (hnd om hom)
       have e1:=hev hk0 x (by simp [Op.operands])
       cases hov with
       | pure hp =>
        refine hfin2 _ ?_ hrs
        rw [hk0] at e1 ⊢
        cases hp with
        | extract ht hr hne=>exact .extract (e1.symm.trans ht) hr hne
       | alloc hp=>cases hp
       | call hp=>cases hp
     | st hg hot=>rcases hop with⟨x,rfl⟩ | ⟨q,T,x,y,U,rfl,_⟩ | ⟨x,i,rfl,_⟩<;>cases hot
     | stM hdr _ _=>cases hdr
    refine hF hsim hstep2 hdo (K:=fun a' w'=>closed (D.setIfInBounds i true)∧(PhA (D.setIfInBounds i true) a' w'∨PhB (D.setIfInBounds i true) a' w'∨PhC (D.setIfInBounds i true) a' w')) (fun a' w' hs'=>⟨hcl',.inr (.inr ⟨hms,⟨om,kb,hom,hkb,hslm,hs'⟩,fun k hk=>?_,(hset m).2 (.inr hDmm),fun k hk hkf=>(hset k).2 (.inr (hDf k hk hkf))⟩)⟩)
    rcases(hset k).1 hk with rfl | h
    ·omega
    ·exact hDm k h
   ·have hall:∀ j,j<i→D.getD j false=true:=fun j hj=>by
     rcases htail i o ho (by omega) j hj with h | ⟨h,_⟩
     ·exact hclosed D hcl j i h hrd'
     ·exact absurd h hDne
    have him':i=m+1:=by
     by_cases e:i=m+1
     ·exact e
     ·have:=hDm (m+1) (hall (m+1) (by omega));omega
    refine tail (m+1) (by omega) (fun j hj=>⟨fun h=>by have:=hDm j h;omega,fun h=>hall j (by omega)⟩) him'.symm ?_
    have hsl:=hfull (fun j hj=>hall j (by omega))
    have:(⟨cZ ops f m om.dst kb D,(f (m+1)).heap⟩:St)=f (m+1):=by
     show (⟨_,_⟩:St)=⟨_,_⟩
     congr 1
     funext t
     unfold cZ
     split
     ·rfl
     ·rename_i e;rw [hsl t,hslm t e]
    rw [←this];exact hsim
 ·
  rintro D a w hDs ⟨hcl,hI⟩ hall
  rcases hI with hA | ⟨k,hmk,hDk,hkn,hsim⟩ | ⟨hms,⟨om,kb,hom,hkb,hslm,hsim⟩,hDm,hDmm,hDf⟩
  ·have hmn':m=ops.size:=by
    by_cases e:m=ops.size
    ·exact e
    ·have:=hA.1 m (hall m (by omega));omega
   exact hq _ a w (hmn' ▸ fK) (hAB D a w hA (fun i hi=>hall i (by omega)))
  ·have:k=ops.size:=by
    by_cases e:k=ops.size
    ·exact e
    ·have:=(hDk k (by omega)).1 (hall k (by omega));omega
   subst this
   exact hq _ a w fK hsim
  ·have hm1:m+1=ops.size:=by
    by_cases e:m+1=ops.size
    ·exact e
    ·have:=hDm (m+1) (hall (m+1) (by omega));omega
   have hsl:bW ops f m D=(f m).slot:=by
    funext t
    unfold bW
    split
    ·rfl
    ·rename_i hno
     rw [hconst 0 m t (Nat.zero_le _) (Nat.le_refl _) (fun k o _ hkm hk e=>hno ⟨k,o,hkm,hall k (by omega),hk,e⟩)]
   have:(⟨cZ ops f m om.dst kb D,(f (m+1)).heap⟩:St)=f (m+1):=by
    show (⟨_,_⟩:St)=⟨_,_⟩
    congr 1
    funext t
    unfold cZ
    split
    ·rfl
    ·rename_i e;rw [hsl,hslm t e]
   exact hq _ a w (hm1 ▸ fK) (this ▸ hsim)
 ·
  refine Nat.le_trans List.countP_le_length ?_
  simp
 ·
  have hD0:∀ i,(Array.replicate ops.size false).getD i false=false:=fun i=>by
   rw [Array.getD_eq_getD_getElem?,Array.getElem?_replicate];split<;>rfl
  refine⟨fun i o _ h=>(by rw [hD0] at h;cases h),.inl ⟨fun i h=>(by rw [hD0] at h;cases h),?_⟩⟩
  rw [←f0] at hs
  obtain⟨hdf,hsz,μ,Z,hc,hr⟩:=hs
  obtain⟨Z1,k1,k2⟩:=hc.widen (hle 0 m (Nat.zero_le _) (Nat.le_refl _))
  have hfrm:∀ (w':World),w'.heap=w.heap→Frame Z μ w w':=fun w' h=>⟨fun _ _=>by rw [h],fun _ id _ c _ _ hh=>⟨c,by rw [h];exact hh,rfl⟩⟩
  have hfrm1:∀ (w':World),w'.heap=w.heap→Frame Z1 μ w w':=fun w' h=>⟨fun _ _=>by rw [h],fun _ id _ c _ _ hh=>⟨c,by rw [h];exact hh,rfl⟩⟩
  refine⟨hdf,hsz,μ,Z1,⟨⟨k1.keep.os,k1.keep.tape,k1.keep.output,k1.keep.size,k1.keep.block,k1.keep.xsz⟩,k1.zone,k1.zsup,k1.zsub,k1.inj,k1.own,k1.x0,k1.xlt,k1.x1,k1.mutz,k1.frz,fun b id hb=>?_⟩,fun b hb=>?_,fun t=>?_⟩
  ·obtain⟨blk,g1,g2⟩:=k1.heap b id hb
   exact⟨blk,g1,g2.mono (fun _ h=>h) (fun _ _ h=>h) (hfrm1 _ rfl) rfl⟩
  ·left
   obtain⟨id,hid⟩:=Option.ne_none_iff_exists'.1 hb
   obtain⟨blk,g1,_⟩:=hc.heap b id hid
   rw [g1];simp
  ·have:bW ops f m (Array.replicate ops.size false) t=(f 0).slot t:=by
    unfold bW
    rw [if_neg]
    rintro⟨i,o,_,h,_⟩
    rw [hD0] at h;cases h
   rw [this]
   exact(hr t).mono k2 (fun _ _ h=>h) (hfrm { w with drawn:=w.drawn+1 } rfl)
theorem aBO {m id:Nat} {fr:List Nat} {K:St→Prop} {Q:Exit→Act→World→Prop} {L:St} (hfol:P.follows .mixedOrders=true) (hok:qF ops m fr=true) (hs:kZ n W X Z0 L a w)
  (hL:opsL P true ops ops.toList L K) (hd:∀ o∈ops.toList,∀ t,o.dst=some t→t<n) (hq:∀ L' a' w',K L'→kZ n W X Z0 L' a' w'→Q .normal a' w') :
  (Code.region id ops true).wp P Q a w:=by
 obtain⟨f,f0,fs,fK⟩:=lN _ _ hL
 have fs':∀ i o,ops[i]?=some o→Step P true ops o (f i) (f (i+1)):=fun i o h=>fs i o (by simpa using h)
 rw [Array.length_toList] at fK
 unfold qF at hok
 simp only [Bool.and_eq_true,decide_eq_true_eq,List.all_eq_true,List.mem_range] at hok
 obtain⟨⟨⟨hmn,h1⟩,h2⟩,h3⟩:=hok
 have getD_of:∀ i o,ops[i]?=some o→ops.getD i default=o:=fun i o h=>by rw [Array.getD_eq_getD_getElem?,h];rfl
 have lt_of:∀ i o,ops[i]?=some o→i<ops.size:=fun i o h=>(Array.getElem?_eq_some_iff.1 h).1
 have some_of:∀ i,i<ops.size→∃ o,ops[i]?=some o:=fun i h=>⟨_,Array.getElem?_eq_getElem h⟩
 have hdir:∀ i o,ops[i]?=some o→∀ j∈kP o,j<i:=fun i o h j hj=>by
  have:=(h1 i (lt_of i o h)).1 j (by rw [getD_of i o h];exact hj)
  simpa using this
 have hanc:=tX ops ops.toList [] (fun i=>by simp) (fun i t h=>by simp at h)
 have htail:∀ i o,ops[i]?=some o→m≤i→∀ j,j<i→Anc ops j i∨(i=m∧j∈fr):=fun i o h hmi j hj=>by
  have:=(h1 i (lt_of i o h)).2
  rw [if_pos hmi] at this
  have:=(List.all_eq_true.1 this) j (by simpa using hj)
  simp only [Bool.or_eq_true,Bool.and_eq_true,beq_iff_eq,List.contains_iff_mem] at this
  rcases this with g | g
  ·exact .inl (hanc i j (by simpa using g))
  ·exact .inr g
 have hpre:∀ i o,ops[i]?=some o→i<m→mE o.op=false:=fun i o h hmi=>by
  have:=(h1 i (lt_of i o h)).2
  rw [if_neg (by omega),getD_of i o h] at this
  simpa using this
 have hpair:∀ i j oi oj d,ops[i]?=some oi→ops[j]?=some oj→i<m→j<m→i≠j→oj.dst=some d→oi.dst≠some d∧(d∈oi.looksAt ops→if j<i then Anc ops j i else Anc ops i j):=by
  intro i j oi oj d hi hj him hjm hne hdj
  have:=h2 i him j hjm
  simp only [Bool.or_eq_true,beq_iff_eq] at this
  rcases this with h | h
  ·exact absurd h hne
  ·unfold uW at h
   rw [getD_of j oj hj,getD_of i oi hi,hdj] at h
   simp only [Bool.and_eq_true,bne_iff_ne,ne_eq,Bool.or_eq_true,Bool.not_eq_true'] at h
   refine⟨h.1,fun hmem=>?_⟩
   rcases h.2 with h' | h'
   ·rw [List.contains_iff_mem.2 hmem] at h';cases h'
   ·split
    ·rename_i hlt;rw [if_pos hlt] at h';exact hanc i j h'
    ·rename_i hlt;rw [if_neg hlt] at h';exact hanc j i h'
 have hfree:∀ j o,ops[j]?=some o→j∈fr→j<m∧m<ops.size∧(∀ om,ops[m]?=some om→om.guard=none∧((om.dst=none∧∃ T p x,om.op=.store T p x)∨∃ d xs ts,om.dst=some d∧om.op=.call ⟨.builtin .append,xs,ts⟩) ∧
    (∀ d,o.dst=some d→d∉om.looksAt ops∧om.dst≠some d)∧∀ d,om.dst=some d→d∉o.looksAt ops) ∧
   o.guard=none∧((∃ x,o.op=.move x)∨(∃ q T x y U,o.op=.binOp q T x y U∧∀ om,ops[m]?=some om→om.dst=none)∨(∃ x i,o.op=.extract x i∧∀ om,ops[m]?=some om→om.dst=none) ∨
    ((∀ om,ops[m]?=some om→om.dst=none)∧∃ r,OpV P (f (m+1)).heap (f j).ev (o.dst.getD 0) o.op r []∧∀ t,o.dst=some t→(f (j+1)).slot t=r)):=by
  intro j o ho hj
  simp only [Bool.or_eq_true,List.isEmpty_iff,Bool.and_eq_true,decide_eq_true_eq,List.all_eq_true] at h3
  rcases h3 with h3 | ⟨⟨hm,hst⟩,hall⟩
  ·rw [h3] at hj;cases hj
  ·obtain⟨hjm,hf⟩:=hall j hj
   unfold aFY at hf
   rw [getD_of j o ho] at hf
   simp only [Bool.and_eq_true,Option.isNone_iff_eq_none] at hf
   obtain⟨⟨⟨hf1,hf2⟩,hf3⟩,hf4⟩:=hf
   refine⟨hjm,hm,fun om hom=>?_,hf1,?_⟩
   ·unfold aCW at hst
    rw [getD_of m om hom] at hst hf3 hf4
    simp only [Bool.and_eq_true,Option.isNone_iff_eq_none] at hst
    refine⟨hst.1,?_,fun d hd=>⟨fun hmem=>?_,fun e=>?_⟩,fun d hd hmem=>?_⟩
    ·have:=hst.2
     split at this
     ·rename_i T p x e;exact .inl ⟨Option.isNone_iff_eq_none.1 this,T,p,x,e⟩
     ·rename_i xs ts e
      obtain⟨d,hd⟩:=Option.isSome_iff_exists.1 this
      exact .inr ⟨d,xs,ts,hd,e⟩
     ·cases this
    ·rw [hd] at hf3
     simp only [List.contains_iff_mem.2 hmem] at hf3
     cases hf3
    ·rw [hd,e] at hf3
     simp at hf3
    ·rw [hd] at hf4
     simp only [List.contains_iff_mem.2 hmem] at hf4
     cases hf4
   ·split at hf2
    ·rename_i x e;exact .inl ⟨x,e⟩
    ·rename_i q T x y U e;exact .inr (.inl ⟨q,T,x,y,U,e,fun om hom=>by rw [getD_of m om hom] at hf2;exact Option.isNone_iff_eq_none.1 hf2⟩)
    ·rename_i x i e;exact .inr (.inr (.inl ⟨x,i,e,fun om hom=>by rw [getD_of m om hom] at hf2;exact Option.isNone_iff_eq_none.1 hf2⟩))
    ·cases hf2
 exact xM hfol hs f0 fs' fK hmn hdir htail hpre hpair hfree hd hq
def aCT (ops:Array Oper) (m j:Nat):Bool :=
 (ops.getD j default).guard.isNone && (match (ops.getD j default).op with | .makeSlice ..=>false | .buildSlice ..=>false | .box ..=>false | .alloc ..=>false | _=>true) &&
 (match (ops.getD j default).dst with | some d=>!((ops.getD m default).looksAt ops).contains d | none=>false)
def yY (ops:Array Oper) (m:Nat) (fr:List Nat):Bool :=
 decide (m<ops.size) &&
 (List.range ops.size).all (fun i=>(kP (ops.getD i default)).all (·<i) &&
  (if m≤i then(List.range i).all (fun j=>((bef ops.toList []).getD i 0).testBit j || (i==m && fr.contains j)) else !mE (ops.getD i default).op)) &&
 ((List.range m).all fun i=>(List.range m).all fun j=>i==j || uW ops (bef ops.toList []) i j) &&
 ((ops.getD m default).guard.isNone && (ops.getD m default).dst.isNone && (match (ops.getD m default).op with | .store ..=>true | _=>false)) &&
 (fr.all fun j=>decide (j<m) && aCT ops m j)
theorem aD0 {o:Oper} {L L':St} {b:Nat} {x:Blk} (ht:mE o.op=false) (hL:L.heap b=none) (hL':L'.heap b=none) (h:Step P true ops o L L'):Step P true ops o (L.setB b (some x)) (L'.setB b (some x)):=by
 have hput:∀ (d:Option Tmp) (r:LV),(L.put d r).setB b (some x)=(L.setB b (some x)).put d r:=fun d r=>by cases d<;>rfl
 have hG:∀ res,bS ops L o res→bS ops (L.setB b (some x)) o res:=fun res h=>h
 cases h with
 | skip hg h=>exact .skip (hG _ hg) (by rw [h,hput])
 | @val r fr H1 hg hle hfr ho h =>
  have hH1:H1 b=none:=by rw [h] at hL';exact hL'
  have hle2:∀ {A B:cM},A.le B→A b=none→cM.le (fun c=>if c=b then some x else A c) (fun c=>if c=b then some x else B c):=fun {A B} hab hA c blk hc=>by
   change (if c=b then some x else A c)=some blk at hc
   show ∃ m,(if c=b then some x else B c)=_∧_
   by_cases e:c=b
   ·rw [if_pos e] at hc ⊢
    cases hc
    exact⟨x.mt,rfl,fun h=>h,fun h1 h2=>by rw [h1] at h2;cases h2⟩
   ·rw [if_neg e] at hc ⊢
    exact hab c blk hc
  have hle3:H1.le (fun c=>if c=b then some x else H1 c):=fun c blk hc=>by
   have e:c≠b:=fun e=>by subst e;rw [hH1] at hc;cases hc
   exact⟨blk.mt,by show (if c=b then _ else _)=_;rw [if_neg e];exact hc,fun h=>h,fun h1 h2=>by rw [h1] at h2;cases h2⟩
  refine .val (r:=r) (fr:=fr) (H1:=fun c=>if c=b then some x else H1 c) (hG _ hg) (hle2 hle hL) (fun c blk hc=>?_) (ho.le hle3) (by rw [h];cases o.dst<;>rfl)
  obtain⟨q1,mm,q2,q3⟩:=hfr c blk hc
  have e:c≠b:=fun e=>by subst e;rw [hH1] at q2;cases q2
  exact⟨by show (if c=b then _ else _)=_;rw [if_neg e];exact q1,mm,by show (if c=b then _ else _)=_;rw [if_neg e];exact q2,q3⟩
 | st hg ho =>
  obtain⟨dst,op,ty,pos,after,g⟩:=o
  rw [ho.tail] at ht;cases ht
 | stM hdr _ _=>cases hdr
theorem aAr {m id b:Nat} {fr:List Nat} {x0:Blk} {K:St→Prop} {Q:Exit→Act→World→Prop} {L:St} (hfol:P.follows .mixedOrders=true) (hok:yY ops m fr=true) (hs:kZ n W X Z0 L a w) (hb:L.heap b=some x0)
  (hL:opsL P true ops (ops.toList.take m) (L.setB b none) (fun Lm=>Lm.heap b=none∧(fr.all fun j=>match (ops.getD j default).dst with | some d=>(Lm.heap (bK d 1)).isNone | none=>true)=true ∧
   (∀ om,ops[m]?=some om→∃ T p v i o,om.op=.store T p v∧Lm.ev p=.eptr b x0.sz i o)∧opsL P true ops (ops.toList.drop m) (Lm.setB b (some x0)) K))
  (hd:∀ o∈ops.toList,∀ t,o.dst=some t→t<n) (hq:∀ L' a' w',K L'→kZ n W X Z0 L' a' w'→Q .normal a' w') :
  (Code.region id ops true).wp P Q a w:=by
 obtain⟨g,g0,gs,gK,gN,gP,gT⟩:=lN _ _ hL
 unfold yY at hok
 simp only [Bool.and_eq_true,decide_eq_true_eq,List.all_eq_true,List.mem_range] at hok
 obtain⟨⟨⟨⟨hmn,h1⟩,h2⟩,hst⟩,h3⟩:=hok
 have getD_of:∀ i o,ops[i]?=some o→ops.getD i default=o:=fun i o h=>by rw [Array.getD_eq_getD_getElem?,h];rfl
 have lt_of:∀ i o,ops[i]?=some o→i<ops.size:=fun i o h=>(Array.getElem?_eq_some_iff.1 h).1
 have hlen:(ops.toList.take m).length=m:=by rw [List.length_take,Array.length_toList];omega
 rw [hlen] at gK gN gP gT
 obtain⟨e,e0,es,eK⟩:=lN _ _ gT
 have gs':∀ i o,ops[i]?=some o→i<m→Step P true ops o (g i) (g (i+1)):=fun i o h hi=>gs i o (by rw [List.getElem?_take,if_pos hi];simpa using h)
 have hpre:∀ i o,ops[i]?=some o→i<m→mE o.op=false:=fun i o h hmi=>by
  have:=(h1 i (lt_of i o h)).2
  rw [if_neg (by omega),getD_of i o h] at this
  simpa using this
 have some_of:∀ i,i<ops.size→∃ o,ops[i]?=some o:=fun i h=>⟨_,Array.getElem?_eq_getElem h⟩
 have gle:∀ i j,i≤j→j≤m→(g i).heap.le (g j).heap:=by
  intro i j hij
  induction j with
  | zero =>
   intro _
   have:i=0:=by omega
   subst this;exact cM.le_refl _
  | succ j ih =>
   intro hjm
   by_cases q:i=j+1
   ·subst q;exact cM.le_refl _
   ·obtain⟨o,ho⟩:=some_of j (by omega)
    exact cM.le_trans (ih (by omega) (by omega)) (s7 (hpre j o ho (by omega)) (gs' j o ho (by omega))).1
 have gb:∀ i,i≤m→(g i).heap b=none:=fun i hi=>by
  cases hq:(g i).heap b with
  | none=>rfl
  | some blk =>
   obtain⟨mm,q,_⟩:=gle i m hi (Nat.le_refl _) b blk hq
   rw [gK] at q;cases q
 let f:Nat→St:=fun i=>if i≤m then(g i).setB b (some x0) else e (i-m)
 have fm:∀ i,i≤m→f i=(g i).setB b (some x0):=fun i hi=>if_pos hi
 have ft:∀ i,m≤i→f i=e (i-m):=fun i hi=>by
  show (if i≤m then _ else _)=_
  by_cases q:i≤m
  ·have:i=m:=by omega
   subst this
   rw [if_pos q,Nat.sub_self,e0]
  ·rw [if_neg q]
 have f0:f 0=L:=by
  rw [fm 0 (Nat.zero_le _),g0]
  obtain⟨sl,hp⟩:=L
  show (⟨sl,fun c=>if c=b then some x0 else(if c=b then none else hp c)⟩:St)=⟨sl,hp⟩
  congr 1
  funext c
  split
  ·rename_i q;subst q;exact hb.symm
  ·rfl
 have fs':∀ i o,ops[i]?=some o→Step P true ops o (f i) (f (i+1)):=fun i o ho=>by
  by_cases him:i<m
  ·rw [fm i (by omega),fm (i+1) (by omega)]
   exact aD0 (hpre i o ho him) (gb i (by omega)) (gb (i+1) (by omega)) (gs' i o ho him)
  ·rw [ft i (by omega),ft (i+1) (by omega),show i+1-m=i-m+1 by omega]
   refine es (i-m) o ?_
   rw [List.getElem?_drop,show m+(i-m)=i by omega]
   simpa using ho
 have fK:K (f ops.size):=by
  rw [ft _ (by omega)]
  rw [List.length_drop,Array.length_toList] at eK
  exact eK
 have hdir:∀ i o,ops[i]?=some o→∀ j∈kP o,j<i:=fun i o h j hj=>by
  have:=(h1 i (lt_of i o h)).1 j (by rw [getD_of i o h];exact hj)
  simpa using this
 have hanc:=tX ops ops.toList [] (fun i=>by simp) (fun i t h=>by simp at h)
 have htail:∀ i o,ops[i]?=some o→m≤i→∀ j,j<i→Anc ops j i∨(i=m∧j∈fr):=fun i o h hmi j hj=>by
  have:=(h1 i (lt_of i o h)).2
  rw [if_pos hmi] at this
  have:=(List.all_eq_true.1 this) j (by simpa using hj)
  simp only [Bool.or_eq_true,Bool.and_eq_true,beq_iff_eq,List.contains_iff_mem] at this
  rcases this with g | g
  ·exact .inl (hanc i j (by simpa using g))
  ·exact .inr g
 have hpair:∀ i j oi oj d,ops[i]?=some oi→ops[j]?=some oj→i<m→j<m→i≠j→oj.dst=some d→oi.dst≠some d∧(d∈oi.looksAt ops→if j<i then Anc ops j i else Anc ops i j):=by
  intro i j oi oj d hi hj him hjm hne hdj
  have:=h2 i him j hjm
  simp only [Bool.or_eq_true,beq_iff_eq] at this
  rcases this with h | h
  ·exact absurd h hne
  ·unfold uW at h
   rw [getD_of j oj hj,getD_of i oi hi,hdj] at h
   simp only [Bool.and_eq_true,bne_iff_ne,ne_eq,Bool.or_eq_true,Bool.not_eq_true'] at h
   refine⟨h.1,fun hmem=>?_⟩
   rcases h.2 with h' | h'
   ·rw [List.contains_iff_mem.2 hmem] at h';cases h'
   ·split
    ·rename_i hlt;rw [if_pos hlt] at h';exact hanc i j h'
    ·rename_i hlt;rw [if_neg hlt] at h';exact hanc j i h'
 have hstm:∀ om,ops[m]?=some om→om.guard=none∧om.dst=none∧∃ T p x,om.op=.store T p x:=fun om hom=>by
  rw [getD_of m om hom] at hst
  refine⟨Option.isNone_iff_eq_none.1 hst.1.1,Option.isNone_iff_eq_none.1 hst.1.2,?_⟩
  have:=hst.2
  split at this
  ·rename_i T p x q;exact⟨T,p,x,q⟩
  ·cases this
 have hHm:(g m).heap.le (f (m+1)).heap:=by
  obtain⟨om,hom⟩:=some_of m hmn
  obtain⟨q1,q2,_⟩:=hstm om hom
  obtain⟨T,p,v,ii,oo,q3,q4⟩:=gP om hom
  have hs1:=fs' m om hom
  rw [fm m (Nat.le_refl _)] at hs1
  obtain⟨dst,op,ty,pos,after,gd⟩:=om
  simp only at q1 q2 q3
  subst q1 q2 q3
  intro c blk hc
  have hcb:c≠b:=fun q=>by subst q;rw [gK] at hc;cases hc
  cases hs1 with
  | skip hg h=>cases hg
  | val hg hle hfr hov h =>
   cases hov with
   | pure h=>cases h
   | alloc h=>cases h
   | call h=>cases h
  | st hg hot =>
   generalize hfe:f (m+1)=F at hot ⊢
   cases hot with
   | store hp hb1 hss hm hi hy hput hT hne =>
    have e1:(LV.eptr _ _ _ _)=LV.eptr b x0.sz ii oo:=hp.symm.trans q4
    cases e1
    exact⟨blk.mt,by
     show (if c=b then _ else if c=b then _ else(g m).heap c)=_
     rw [if_neg hcb,if_neg hcb];exact hc,fun h=>h,fun h1 h2=>by rw [h1] at h2;cases h2⟩
  | stM hdr _ _=>cases hdr
 refine xM hfol hs f0 fs' fK (by omega) hdir htail hpre hpair ?_ hd hq
 intro j o ho hj
 have hj3:=h3 j hj
 obtain⟨hjm,hf⟩:=hj3
 unfold aCT at hf
 rw [getD_of j o ho] at hf
 simp only [Bool.and_eq_true,Option.isNone_iff_eq_none] at hf
 obtain⟨⟨hf1,hf2⟩,hf3⟩:=hf
 refine⟨hjm,hmn,fun om hom=>?_,hf1,.inr (.inr (.inr ⟨fun om hom=>(hstm om hom).2.1,?_⟩))⟩
 ·obtain⟨q1,q2,q3⟩:=hstm om hom
  refine⟨q1,.inl ⟨q2,q3⟩,fun d hdd=>⟨fun hmem=>?_,fun q=>by rw [q2] at q;cases q⟩,fun d hdd=>by rw [q2] at hdd;cases hdd⟩
  rw [hdd,getD_of m om hom] at hf3
  simp only [List.contains_iff_mem.2 hmem] at hf3
  cases hf3
 ·have hsj:=gs' j o ho hjm
  have hev:∀ y,(f j).ev y=(g j).ev y:=fun y=>by rw [fm j (by omega)];rfl
  have hsl:∀ t,(f (j+1)).slot t=(g (j+1)).slot t:=fun t=>by rw [fm (j+1) (by omega)];rfl
  cases hsj with
  | skip hg h=>unfold bS at hg;rw [hf1] at hg;cases hg
  | @val r fr' H1 hg hle hfr hov h =>
   have hH1:H1=(g (j+1)).heap:=by rw [h]
   have hle1:H1.le (f (m+1)).heap:=by rw [hH1];exact cM.le_trans (gle (j+1) m (by omega) (Nat.le_refl _)) hHm
   have hrs:∀ t,o.dst=some t→(f (j+1)).slot t=r:=fun t ht=>by rw [hsl,h];simp only [ht];exact(bU _ _ _ _).trans (if_pos rfl)
   refine⟨r,?_,hrs⟩
   have hev2:(f j).ev=(g j).ev:=funext hev
   rw [hev2]
   have hov2:=hov.le hle1
   obtain⟨dst,op,ty,pos,after,gd⟩:=o
   simp only at hf2 hov2 hov hfr
   cases hov2 with
   | pure h=>exact .pure h
   | alloc h=>cases h<;>cases hf2
   | @call bs h =>
    cases bs with
    | nil=>exact .call h
    | cons x bs =>
     exfalso
     obtain⟨_,mm,q2,_⟩:=hfr (bK (dst.getD 0) 1) x (by simp)
     have hdn:=List.all_eq_true.1 gN j hj
     rw [getD_of j _ ho] at hdn
     simp only at hdn
     rw [hH1] at q2
     obtain⟨_,q4,_⟩:=gle (j+1) m (by omega) (Nat.le_refl _) _ _ q2
     cases dst with
     | none=>simp at hf3
     | some d =>
      simp only [Option.getD_some] at q4
      change ((g m).heap (bK d 1)).isNone=true at hdn
      rw [q4] at hdn;cases hdn
  | st hg ho2 =>
   have:=hpre j o ho hjm
   obtain⟨dst,op,ty,pos,after,gd⟩:=o
   rw [ho2.tail] at this;cases this
  | stM hdr _ _=>cases hdr
def mC (P:Program) (ops:Array Oper):Nat→Array Bool→St→(St→Prop)→Prop
 | 0,D,L,K=>Region.ready .any ops D=[]∧K L
 | fuel+1,D,L,K=>(Region.ready .any ops D=[]→K L)∧∀ i∈Region.ready .any ops D,∃ o L',ops[i]?=some o∧Step P false ops o L L'∧mC P ops fuel (D.setIfInBounds i true) L' K
theorem x8 {K K':St→Prop} (hk:∀ L,K L→K' L):∀ (fuel:Nat) (D:Array Bool) (L:St),mC P ops fuel D L K→mC P ops fuel D L K'
 | 0,D,L,h=>⟨h.1,hk L h.2⟩
 | fuel+1,D,L,h=>⟨fun e=>hk L (h.1 e),fun i hi=>by obtain⟨o,L',h1,h2,h3⟩:=h.2 i hi;exact⟨o,L',h1,h2,x8 hk fuel _ L' h3⟩⟩
theorem kZ.drew {L:St} {w':World} (hs:kZ n W X Z0 L a w) (hh:w'.heap=w.heap) (h1:w'.os=w.os) (h2:w'.tape=w.tape) (h3:w'.output=w.output):kZ n W X Z0 L a w':=by
 obtain⟨hdf,hsz,μ,Z,hc,hr⟩:=hs
 have hfr:Frame Z μ w w':=⟨fun _ _=>by rw [hh],fun _ id _ c _ _ h=>⟨c,by rw [hh];exact h,rfl⟩⟩
 refine⟨hdf,hsz,μ,Z,⟨⟨h1.trans hc.keep.os,h2.trans hc.keep.tape,h3.trans hc.keep.output,by rw [hh];exact hc.keep.size,by rw [hh];exact hc.keep.block,by rw [hh];exact hc.keep.xsz⟩,by rw [hh];exact hc.zone,hc.zsup,hc.zsub,
  hc.inj,hc.own,hc.x0,hc.xlt,hc.x1,hc.mutz,hc.frz,fun b id hb=>?_⟩,fun t=>(hr t).mono (fun _ h=>h) (fun _ _ h=>h) hfr⟩
 obtain⟨blk,g1,g2⟩:=hc.heap b id hb
 exact⟨blk,g1,g2.mono (fun _ h=>h) (fun _ _ h=>h) hfr (by rw [hh])⟩
theorem uV {K:St→Prop} {Q:Exit→Act→World→Prop} (hd:∀ o∈ops.toList,∀ t,o.dst=some t→t<n) (hq:∀ L' a' w',K L'→kZ n W X Z0 L' a' w'→Q .normal a' w') :
  ∀ (fuel:Nat) (D:Array Bool) (L:St) (a:Act) (w:World),kZ n W X Z0 L a w→mC P ops fuel D L K→wpAny P .any ops Q fuel D a w
 | 0,D,L,a,w,hs,h=>⟨h.1,hq L a w h.2 hs⟩
 | fuel+1,D,L,a,w,hs,h=>by
   refine⟨fun e=>hq L a w (h.1 e) hs,fun i hi=>?_⟩
   obtain⟨o,L',h1,h2,h3⟩:=h.2 i hi
   unfold wpOp
   rw [h1]
   simp only
   have:=hF (Q:=Q) (K:=wpAny P .any ops Q fuel (D.setIfInBounds i true)) hs h2 (hd o (by rw [Array.mem_toList_iff];exact Array.mem_of_getElem? h1)) (fun a' w' hs'=>uV hd hq fuel _ L' a' w' hs' h3)
   split
   ·rename_i hw;rw [if_pos hw] at this;exact .inl this
   ·rename_i hw;rw [if_neg hw] at this;exact this
theorem aD3 {id:Nat} {K:St→Prop} {Q:Exit→Act→World→Prop} {L:St} (hfol:P.follows .mixedOrders=true) (hs:kZ n W X Z0 L a w)
  (hL:mC P ops ops.size (Array.replicate ops.size false) L K) (hd:∀ o∈ops.toList,∀ t,o.dst=some t→t<n) (hq:∀ L' a' w',K L'→kZ n W X Z0 L' a' w'→Q .normal a' w') :
  (Code.region id ops true).wp P Q a w :=
 wp_region_any hfol (uV hd hq _ _ L a _ (hs.drew rfl rfl rfl rfl) hL)
end
section
variable {P:Program} {ops:Array Oper}
theorem rT {D:Array Bool} {i:Nat} (h:i<D.size) (a b:Bool):D.getD i a=D.getD i b:=by
 rw [Array.getD_eq_getD_getElem?,Array.getD_eq_getD_getElem?,Array.getElem?_eq_getElem h];rfl
end
end Go.Lg
namespace Go.Lg
inductive LEx where
 | normal
 | exit (id:Nat)
 | ret
def thenL (K:St→Prop) (Q:LEx→St→Prop):LEx→St→Prop
 | .normal,L=>K L
 | e,L=>Q e L
def blockL (id:Nat) (Q:LEx→St→Prop):LEx→St→Prop
 | .exit i,L=>if i=id then Q .normal L else Q (.exit i) L
 | e,L=>Q e L
def fC (n:Nat):Code→Bool
 | .region _ ops _=>ops.toList.all fun o=>match o.dst with | some t=>decide (t<n) | none=>true
 | .seq x y=>fC n x && fC n y
 | .cond _ x y=>fC n x && fC n y
 | .block _ c=>fC n c
 | .loop c=>fC n c
 | _=>true
def wG (n:Nat) (W:World) (X:XS) (Z0:Nat→Prop) (Q:LEx→St→Prop):Exit→Act→World→Prop
 | .normal,a,w=>∃ L,Q .normal L∧kZ n W X Z0 L a w
 | .exit id,a,w=>∃ L,Q (.exit id) L∧kZ n W X Z0 L a w
 | .ret,a,w=>∃ L,Q .ret L∧kZ n W X Z0 L a w
 | _,_,_=>False
def wpL (P:Program):Code→(LEx→St→Prop)→St→Prop
 | .skip,Q,L=>Q .normal L
 | .region _ ops d,Q,L=>∃ L0,a7 L L0∧(((d=true→∃ m fr,qF ops m fr=true)∧opsL P d ops ops.toList L0 (Q .normal))∨(d=true∧mC P ops ops.size (Array.replicate ops.size false) L0 (Q .normal)) ∨
   ∀ n W X Z0 a w,kZ n W X Z0 L0 a w→fC n (.region 0 ops d)=true→∀ id,(Code.region id ops d).wp P (wG n W X Z0 Q) a w)
 | .seq x y,Q,L=>wpL P x (thenL (wpL P y Q) Q) L
 | .cond c x y,Q,L=>∃ t,L.ev c=.v (.bool t)∧(t=true→wpL P x Q L)∧(t=false→wpL P y Q L)
 | .block id c,Q,L=>wpL P c (blockL id Q) L
 | .loop c,Q,L=>∀ I:St→Prop,(∀ L,wpL P c (thenL (fun L'=>∃ L'',a7 L' L''∧I L'') Q) L→I L)→∃ L0,a7 L L0∧I L0
 | .exit id,Q,L=>Q (.exit id) L
 | .ret,Q,L=>Q .ret L
 | _,_,_=>False
section
variable {P:Program} {W w w':World} {X:XS} {Z0 Z:Nat→Prop} {μ:Nat→Option Nat} {H:cM} {a:Act} {L L':St} {n:Nat}
def zR (P:Program) (c:Code) (Q:Exit→Act→World→Prop) (a:Act) (w:World):Prop :=
 ∀ b k cs,∃ e a' w',Q e a' w'∧Arrives P (lone (b.at a (.code c :: .inLoop c :: k)) cs w) b k cs e a' w'
theorem aAq {c:Code} {Q:Exit→Act→World→Prop} {a:Act} {w:World} (h:c.wp P (Exit.then (zR P c Q) Q) a w):zR P c Q a w:=by
 intro b k cs
 obtain⟨e,a₁,w₁,hq,harr⟩:=h b (.inLoop c :: k) cs
 cases e with
 | normal =>
  obtain⟨e₂,a₂,w₂,hq₂,harr₂⟩:=hq b k cs
  exact⟨e₂,a₂,w₂,hq₂,.of_steps (Steps.trans harr (.one step_inLoop)) harr₂⟩
 | exit id=>exact⟨_,a₁,w₁,hq,.pass (x:=.inLoop c) rfl (fun _ _=>.inl (by simp)) harr⟩
 | goto l=>exact⟨_,a₁,w₁,hq,.pass (x:=.inLoop c) rfl (fun _ _=>.inl (by simp)) harr⟩
 | ret=>exact⟨_,a₁,w₁,hq,.pass (x:=.inLoop c) rfl (fun _ _=>.inl (by simp)) harr⟩
 | panic ch=>exact⟨_,a₁,w₁,hq,.pass (x:=.inLoop c) rfl (fun _ _=>.inl (by simp)) harr⟩
 | outgrown=>exact⟨_,a₁,w₁,hq,.pass (x:=.inLoop c) rfl (fun _ _=>.inl (by simp)) harr⟩
theorem aDQ {c:Code} {Q:Exit→Act→World→Prop} {a:Act} {w:World} (h:zR P c Q a w):(Code.loop c).wp P Q a w:=by
 intro b k cs
 obtain⟨e,a',w',hq,harr⟩:=h b k cs
 exact⟨e,a',w',hq,.of_steps (.one step_loop) harr⟩
theorem iH (hfol:P.follows .mixedOrders=true):∀ (c:Code) (Q:LEx→St→Prop) (L:St) (a:Act) (w:World),kZ n W X Z0 L a w→wpL P c Q L→fC n c=true →
  c.wp P (wG n W X Z0 Q) a w
 | .skip,Q,L,a,w,hs,h,_=>wp_skip ⟨L,h,hs⟩
 | .region id ops d,Q,L,a,w,hs,h,hd=>by
   obtain⟨L0,hw,hdL⟩:=h
   have hd':∀ o∈ops.toList,∀ t,o.dst=some t→t<n:=fun o ho t ht=>by
    simp only [fC,List.all_eq_true] at hd
    have:=hd o ho
    rw [ht] at this
    simpa using this
   rcases hdL with⟨hdr,hL⟩ | ⟨rfl,hL⟩ | hL
   case inr.inr=>exact hL _ _ _ _ _ _ (hw _ _ _ _ _ _ hs) hd id
   case inr.inl=>exact aD3 hfol (hw _ _ _ _ _ _ hs) hL hd' (fun L' a' w' hk hs'=>⟨L',hk,hs'⟩)
   cases d with
   | true =>
    obtain⟨m,_,hm⟩:=hdr rfl
    exact aBO hfol hm (hw _ _ _ _ _ _ hs) hL hd' (fun L' a' w' hk hs'=>⟨L',hk,hs'⟩)
   | false=>exact wp_region_list (u4 _ _ _ _ (hw _ _ _ _ _ _ hs) hL hd' (fun L' a' w' hk hs'=>⟨L',hk,hs'⟩))
 | .seq x y,Q,L,a,w,hs,h,hd=>by
   simp only [fC,Bool.and_eq_true] at hd
   refine wp_seq (wp_mono (iH hfol x _ L a w hs h hd.1) fun e a' w' q=>?_)
   cases e with
   | normal=>obtain⟨L',q1,q2⟩:=q;exact iH hfol y Q L' a' w' q2 q1 hd.2
   | exit id=>exact q
   | ret=>exact q
   | _=>exact q.elim
 | .cond c x y,Q,L,a,w,hs,h,hd=>by
   simp only [fC,Bool.and_eq_true] at hd
   obtain⟨t,h1,h2,h3⟩:=h
   have hc:a.eval c=.bool t:=by
    obtain⟨_,_,μ,Z,hc,hr⟩:=hs
    have:=fL (L:=L) hr c
    rw [h1] at this
    exact this.v_eq
   exact wp_cond_split hc (fun e=>iH hfol x Q L a w hs (h2 e) hd.1) (fun e=>iH hfol y Q L a w hs (h3 e) hd.2)
 | .block id c,Q,L,a,w,hs,h,hd=>by
   refine wp_block (wp_mono (iH hfol c _ L a w hs h hd) fun e a' w' q=>?_)
   cases e with
   | normal=>exact q
   | exit i =>
    obtain⟨L',q1,q2⟩:=q
    simp only [blockL] at q1
    simp only [Exit.inBlock]
    split
    ·rename_i e;rw [if_pos e] at q1;exact⟨L',q1,q2⟩
    ·rename_i e;rw [if_neg e] at q1;exact⟨L',q1,q2⟩
   | ret=>exact q
   | _=>exact q.elim
 | .loop c,Q,L,a,w,hs,h,hd=>by
   obtain⟨L0,hw,h0⟩:=h (fun L=>∀ a w,kZ n W X Z0 L a w→zR P c (wG n W X Z0 Q) a w) (fun L hL a w hs=>by
    refine aAq (wp_mono (iH hfol c _ L a w hs hL hd) fun e a' w' q=>?_)
    cases e with
    | normal =>
     obtain⟨L',⟨L'',k1,k2⟩,k4⟩:=q
     exact k2 _ _ (k1 _ _ _ _ _ _ k4)
    | exit id=>exact q
    | ret=>exact q
    | _=>exact q.elim)
   exact aDQ (h0 a w (hw _ _ _ _ _ _ hs))
 | .exit id,Q,L,a,w,hs,h,_=>wp_exit ⟨L,h,hs⟩
 | .ret,Q,L,a,w,hs,h,_=>wp_ret ⟨L,h,hs⟩
 | .rangeFunc ..,_,_,_,_,_,h,_=>h.elim
 | .scope _,_,_,_,_,_,h,_=>h.elim
 | .label _,_,_,_,_,_,h,_=>h.elim
 | .goto _,_,_,_,_,_,h,_=>h.elim
 | .refuse _,_,_,_,_,_,h,_=>h.elim
end
def aF7 (P:Program) (L:St):ResultVar→LV→Prop
 | .tmp t,x=>L.slot t=x
 | .cell a T,x=>∃ b sz i o blk y n ag,L.slot a=.eptr b sz i o∧L.heap b=some blk∧blk.sz=sz∧blk.vals[i]?=some y∧y.csize=sz∧y.at o n ag=some x∧bT P T n ag
inductive ResL (P:Program) (L:St):List ResultVar→List LV→Prop
 | nil:ResL P L [] []
 | cons {v x vs xs} (h:aF7 P L v x) (t:ResL P L vs xs):ResL P L (v :: vs) (x :: xs)
inductive Ret1 (H:cM) (own:List Nat):LV→LV→Prop
 | imm {x y} (h:Imm H x y):Ret1 H own x y
 | ref {b sz off len k} (hk:own[k]?=some b):Ret1 H own (.ref b sz off len) (.ref (k+1) sz off len)
 | ptr {b sz i o k} (hk:own[k]?=some b):Ret1 H own (.eptr b sz i o) (.eptr (k+1) sz i o)
 | net {x y x' y' b sz off len k} (h1:Imm H x x') (h2:Imm H y y') (hk:own[k]?=some b):Ret1 H own (.agg [x,y,.ref b sz off len]) (.agg [x',y',.ref (k+1) sz off len])
inductive RetLs (H:cM) (own:List Nat):List LV→List LV→Prop
 | nil:RetLs H own [] []
 | cons {x y xs ys} (h:Ret1 H own x y) (t:RetLs H own xs ys):RetLs H own (x :: xs) (y :: ys)
def nE:List LV→LV
 | [y]=>y
 | ys=>.tup ys
def n9 (P:Program) (rs:List ResultVar) (L:St) (r:LV) (bs:List Blk):Prop :=
 ∃ (xs ys:List LV) (H1:cM) (own:List Nat),ResL P L rs xs∧L.heap.le H1∧RetLs H1 own xs ys∧own.Nodup∧own.length=bs.length ∧
  (∀ (k b:Nat),own[k]?=some b→∃ blk:Blk,H1 b=some blk∧bs[k]?=some blk∧aV blk.vals=true)∧r=nE ys
def St0 (args:List LV):St:=⟨fun t=>args.getD t .any,fun _=>none⟩
section
variable {P:Program} {W w w':World} {X:XS} {Z0 Z:Nat→Prop} {μ:Nat→Option Nat} {H:cM} {a:Act} {L L':St} {n:Nat}
def mW (tmps:Array Value) (v:ResultVar):Sem Value :=
 match v with
 | .tmp t=>pure (tmps.getD t undef)
 | .cell p T=>do loadVar T (←asAddr (tmps.getD p undef))
theorem qL (fn:Func) (tmps:Array Value):results fn tmps=(do let vs ←fn.results.mapM (mW tmps);pure (if h:vs.size=1 then vs[0] else .tuple vs)):=by
 rfl
theorem oN {v:ResultVar} {x:LV} (hc:Core W X Z0 μ Z L.heap w) (hr:∀ t,bP Z μ w (L.slot t) (a.tmps.getD t undef)) (h:aF7 P L v x) (hx:x≠.any∧∀ l,x≠.tup l) :
  ∃ u,(mW a.tmps v).run P w=.ok u w∧dW Z μ w x u:=by
 cases v with
 | tmp t =>
  simp only [aF7] at h
  have:=hr t
  rw [h] at this
  exact⟨_,rfl,bP.to1 hx.2 hx.1 this⟩
 | cell p T =>
  obtain⟨b,sz,i,o,blk,y,m,ag,h1,h2,h3,h4,h5,h6,h7⟩:=h
  have e1:=hr p
  rw [h1] at e1
  have hl:OpP P L.heap L.ev (.load T (.tmp p)) x:=.loadE (b:=b) (sz:=sz) h1 h2 h3 h4 h5 h6 h7
  obtain⟨u,r1,r2⟩:=hl.sound (a:=a) (fun y hy=>fL (L:=L) hr y) hc.heap none 0 "" #[] none
  have e2:=e1.2 rfl
  simp only [bZ] at e2
  obtain⟨id,q1,q2⟩:=e2
  simp only [List.cons.injEq,and_true] at q1
  have hev:a.eval (.tmp p)=a.tmps.getD p undef:=rfl
  refine⟨u,?_,bP.to1 hx.2 hx.1 r2⟩
  simp only [execOp,hev,q1,Instr.loadAt,Instr.sureAddr,Sem.run_bind,Sem.run_pure,Result.andThen_ok] at r1
  simp only [mW,q1,asAddr,Sem.run_bind,Sem.run_pure,Result.andThen_ok]
  cases hq:(loadVar T ⟨id,i*sz+o,none⟩).run P w with
  | ok v' w'' =>
   rw [hq] at r1
   simp only [Result.andThen_ok,Result.ok.injEq,Next.value.injEq] at r1
   rw [r1.1,r1.2]
  | halt x' w''=>rw [hq] at r1;simp at r1
theorem Ret1.ne {own:List Nat} {x y:LV} (h:Ret1 H own x y):x≠.any∧∀ l,x≠.tup l:=by
 cases h with
 | imm h=>exact h.ne
 | ref _=>exact⟨by simp,by simp⟩
 | ptr _=>exact⟨by simp,by simp⟩
 | net _ _ _=>exact⟨by simp,by simp⟩
def m8 (μ:Nat→Option Nat) (own:List Nat):Nat→Option Nat:=fun k=>if k=0 then none else(own[k-1]?).bind μ
theorem Ret1.sound {own:List Nat} {x y:LV} {u:Value} (hc:Core W X Z0 μ Z H w) (h:Ret1 H own x y) (hu:dW Z μ w x u):dW Z (m8 μ own) w y u:=by
 cases h with
 | imm h=>exact Imm.soundV hc h (bP.of1 h.ne.2 hu)
 | @ref b sz off len k hk =>
  have:=hu.2 rfl
  refine⟨by simp [LV.isAgg],fun _=>?_⟩
  simp only [bZ] at this ⊢
  rcases this with h | ⟨id,cap,c,T,fz,h1,h2,h3⟩
  ·exact .inl h
  exact .inr ⟨id,cap,c,T,fz,h1,by simp [m8,hk,h2],h3⟩
 | @ptr b sz i o k hk =>
  have:=hu.2 rfl
  refine⟨by simp [LV.isAgg],fun _=>?_⟩
  simp only [bZ] at this ⊢
  obtain⟨id,h1,h2⟩:=this
  exact⟨id,h1,by simp [m8,hk,h2]⟩
 | @net x y x' y' b sz off len k hx hy hk =>
  obtain⟨cs,rfl,hr⟩:=hu.1 rfl
  refine⟨fun _=>⟨cs,rfl,?_⟩,by simp [LV.isAgg]⟩
  simp only [bZ,bV] at hr ⊢
  obtain⟨c1,d1,e1,l1,r1,c2,d2,e2,l2,r2,c3,d3,e3,l3,r3,r4⟩:=hr
  refine⟨c1,d1,e1,by rw [l1,hx.lay.2.1],Imm.sound hc hx r1,c2,d2,e2,by rw [l2,hy.lay.2.1],Imm.sound hc hy r2,c3,d3,e3,l3,?_,r4⟩
  rcases r3 with h | ⟨id,cap,c,T,fz,h1,h2,h3⟩
  ·exact .inl h
  exact .inr ⟨id,cap,c,T,fz,h1,by simp [m8,hk,h2],h3⟩
theorem pX {own:List Nat} (hc:Core W X Z0 μ Z L.heap w) (hr:∀ t,bP Z μ w (L.slot t) (a.tmps.getD t undef)) {Z1:Nat→Prop} {H1:cM} (hc1:Core W X Z0 μ Z1 H1 w) (hz:∀ id,Z id→Z1 id) :
  ∀ (rs:List ResultVar) (xs ys:List LV),ResL P L rs xs→RetLs H1 own xs ys →
  ∃ us,(rs.mapM (mW a.tmps)).run P w=.ok us w∧dY Z1 (m8 μ own) w ys us
 | _,_,_,.nil,.nil=>⟨[],rfl,rfl⟩
 | _,_,_,.cons (vs:=vs) (xs:=xs) h t,.cons (ys:=ys) h' t'=>by
   obtain⟨u,q1,q2⟩:=oN hc hr h h'.ne
   obtain⟨us,q3,q4⟩:=pX hc hr hc1 hz _ _ _ t t'
   refine⟨u :: us,?_,u,us,rfl,h'.sound hc1 (q2.mono hz (fun _ _ h=>h) ⟨fun _ _=>rfl,(Frame.refl Z μ w).m⟩),q4⟩
   rw [List.mapM_cons,Sem.run_bind,q1]
   simp only [Result.andThen_ok,Sem.run_bind,q3,Sem.run_pure]
theorem t6:∀ (args:List LV) (vs us:List Value),dY Z μ w args vs→∀ t,bP Z μ w ((St0 args).slot t) ((vs++us).toArray.getD t undef)
 | [],_,us,h,t=>by simp only [St0,List.getD_nil];trivial
 | x :: xs,_,us,⟨v,vs',e,h1,h2⟩,t=>by
   subst e
   cases t with
   | zero =>
    have:∀ l,x≠.tup l:=fun l e=>by subst e;have:=h1.2 rfl;simp [bZ] at this
    simpa [St0] using bP.of1 this h1
   | succ t =>
    have:=t6 xs vs' us h2 t
    simpa [St0] using this
theorem gO:∀ (args:List LV) (vs:List Value),dY Z μ w args vs→vs.length=args.length
 | [],_,h=>by cases h;rfl
 | _ :: xs,_,⟨v,vs',e,_,h2⟩=>by subst e;simp [gO xs vs' h2]
theorem x5 {f:FuncId} {fn:Func} {c:Code} {args:List LV} {r:LV} {bs:List Blk} (hfol:P.follows .mixedOrders=true) (hf:P.funcs[f]?=some fn) (hb:fn.body=some c)
  (hn:(fn.name== "runtime.NumGoroutine")=false) (hd:fC fn.ntmps c=true) (hlen:args.length≤fn.ntmps)
  (h:wpL P c (fun e L=>match e with | .exit _=>False | _=>n9 P fn.results.toList L r bs) (St0 args)):gM P f args r bs:=by
 refine⟨⟨fn,hf,by rw [hb];rfl,hn⟩,fun W Z0 vs hz hargs=>?_⟩
 have hvl:=gO _ _ hargs
 refine calls_of_wp hf hb ?_
 have hsim:kZ fn.ntmps W XS.no Z0 (St0 args) ⟨vs.toArray++Array.replicate (fn.ntmps-vs.toArray.size) undef,[]⟩ W:=by
  have hn0:∀ {p:Prop} (b id:Nat),(fun _:Nat=>(none:Option Nat)) b=some id→p:=fun b id h=>by cases h
  refine⟨rfl,by simp;omega,fun _=>none,Z0,⟨Kept.refl _ _,hz,fun _ h=>h,fun _ h=>.inl h,fun b _ id h _=>hn0 b id h,fun b id h=>hn0 b id h,fun b id h _=>hn0 b id h,fun _ h=>(XS.no_any h).elim,fun _ h=>False.elim h,
   fun b id _ h _ _=>hn0 b id h,fun b id _ h _ _=>hn0 b id h,fun b id h=>hn0 b id h⟩,fun t=>?_⟩
  have e:vs.toArray++Array.replicate (fn.ntmps-vs.toArray.size) undef=(vs++List.replicate (fn.ntmps-vs.toArray.size) undef).toArray:=by apply Array.ext';simp
  show bP Z0 (fun _=>none) W ((St0 args).slot t) ((vs.toArray++Array.replicate (fn.ntmps-vs.toArray.size) undef).getD t undef)
  rw [e]
  exact t6 (Z:=Z0) (μ:=fun _=>none) (w:=W) args vs _ hargs t
 refine wp_mono (iH hfol c _ _ _ _ hsim h hd) fun e a w q=>?_
 have main:∀ L,n9 P fn.results.toList L r bs→kZ fn.ntmps W XS.no Z0 L a w →
   a.defers=[]∧∃ v,(results fn a.tmps).run P w=.ok v w∧∃ v' μ Z,Ending.returned v=.returned v'∧Core W XS.no Z0 μ Z (fO bs) w∧bP Z μ w r v':=by
  rintro L ⟨xs,ys,H1,own,h1,h2,h3,h4,h5,h6,h7⟩ ⟨hdf,hsz,μ,Z,hc,hr⟩
  obtain⟨Z1,k1,k2⟩:=hc.widen h2
  obtain⟨us,q1,q2⟩:=pX hc hr k1 k2 _ _ _ h1 h3
  have hinv:∀ k id,m8 μ own k=some id→∃ b,k≠0∧own[k-1]?=some b∧μ b=some id:=fun k id hk=>by
   unfold m8 at hk
   split at hk
   ·cases hk
   ·rename_i h0
    rw [Option.bind_eq_some_iff] at hk
    obtain⟨b,g1,g2⟩:=hk
    exact⟨b,h0,g1,g2⟩
  have hout:∀ k b,k≠0→own[k-1]?=some b→∃ blk,H1 b=some blk∧fO bs k=some blk∧aV blk.vals=true:=fun k b h0 hb=>by
   obtain⟨blk,g1,g2,g3⟩:=h6 _ b hb
   exact⟨blk,g1,by simp [fO,h0,g2],g3⟩
  have hcore:Core W XS.no Z0 (m8 μ own) Z1 (fO bs) w:=by
   refine⟨k1.keep,k1.zone,k1.zsup,k1.zsub,?_,?_,fun _ _ _ h=>h.elim,fun _ h=>(XS.no_any h).elim,fun _ h=>h.elim,?_,?_,?_⟩
   ·intro k k' id hk hk'
    obtain⟨b,g0,g1,g2⟩:=hinv k id hk
    obtain⟨b',g0',g1',g2'⟩:=hinv k' id hk'
    have:=k1.inj b b' id g2 g2'
    subst this
    obtain⟨l1,e1⟩:=List.getElem?_eq_some_iff.1 g1
    obtain⟨l2,e2⟩:=List.getElem?_eq_some_iff.1 g1'
    have hp:=List.pairwise_iff_getElem.1 h4
    rcases Nat.lt_trichotomy (k-1) (k'-1) with h | h | h
    ·exact absurd (e1.trans e2.symm) (hp _ _ l1 l2 h)
    ·omega
    ·exact absurd (e2.trans e1.symm) (hp _ _ l2 l1 h)
   ·intro k id hk
    obtain⟨b,g0,g1,g2⟩:=hinv k id hk
    exact k1.own b id g2
   ·intro k id blk hk hb hm
    obtain⟨b,g0,g1,g2⟩:=hinv k id hk
    obtain⟨blk',j1,j2,_⟩:=hout k b g0 g1
    rw [hb] at j2;cases j2
    exact k1.mutz b id blk g2 j1 hm
   ·intro k id blk hk hb hm
    obtain⟨b,g0,g1,g2⟩:=hinv k id hk
    obtain⟨blk',j1,j2,_⟩:=hout k b g0 g1
    rw [hb] at j2;cases j2
    exact k1.frz b id blk g2 j1 hm
   ·intro k id hk
    obtain⟨b,g0,g1,g2⟩:=hinv k id hk
    obtain⟨blk',j1,j2,j3⟩:=hout k b g0 g1
    obtain⟨bk,l1,cc,T,part,rest,l2,l3,l4⟩:=k1.heap b id g2
    rw [j1] at l1;cases l1
    exact⟨_,j2,cc,T,part,rest,l2,l3,aM.repure (fun _ h=>h) (fun _ _=>rfl) _ _ _ j3 l4⟩
  have hrs:(fn.results.mapM (mW a.tmps)).run P w=.ok us.toArray w:=by
   rw [Array.mapM_eq_mapM_toList,Sem.run_map,q1];rfl
  refine⟨hdf,(if h:us.toArray.size=1 then us.toArray[0] else .tuple us.toArray),?_,_,m8 μ own,Z1,rfl,hcore,?_⟩
  ·rw [qL,Sem.run_bind,hrs]
   rfl
  ·subst h7
   have hyl:=gO _ _ q2
   match ys,us,q2,hyl with
   | [y],[u],q2,_ =>
    obtain⟨v,vs',e,g1,g2⟩:=q2
    simp only [List.cons.injEq] at e
    obtain⟨rfl,_⟩:=e
    have hnt:∀ l,y≠.tup l:=fun l e=>by subst e;have:=g1.2 rfl;simp [bZ] at this
    exact bP.of1 hnt g1
   | [],[],q2,_=>exact⟨_,rfl,by simpa using q2⟩
   | y :: y' :: ys,u :: u' :: us,q2,_ =>
    refine⟨(u :: u' :: us).toArray,by simp,by simpa using q2⟩
 cases e with
 | normal=>obtain⟨L,q1,q2⟩:=q;exact main L q1 q2
 | ret=>obtain⟨L,q1,q2⟩:=q;exact main L q1 q2
 | exit id=>obtain⟨L,q1,q2⟩:=q;exact q1.elim
 | _=>exact q.elim
def StM (args:List LV) (blk:Blk):St:=⟨fun t=>args.getD t .any,fun n=>if n=0 then some blk else none⟩
def aAI (P:Program) (rs:List ResultVar) (L:St) (r:LV) (blk':Blk):Prop :=
 ∃ (xs ys:List LV) (H1:cM),ResL P L rs xs∧L.heap.le H1∧ArgML H1 0 xs ys∧H1 0=some blk'∧blk'.mt=true∧aV blk'.vals=true∧r=nE ys
theorem oH {i0:Nat} (hc:Core W X Z0 μ Z L.heap w) (hr:∀ t,bP Z μ w (L.slot t) (a.tmps.getD t undef)) {Z1:Nat→Prop} {H1:cM} (hc1:Core W X Z0 μ Z1 H1 w) (hz:∀ id,Z id→Z1 id) (h0:μ 0=some i0) :
  ∀ (rs:List ResultVar) (xs ys:List LV),ResL P L rs xs→ArgML H1 0 xs ys →
  ∃ us,(rs.mapM (mW a.tmps)).run P w=.ok us w∧dY Z1 (mu0 i0) w ys us
 | _,_,_,.nil,.nil=>⟨[],rfl,rfl⟩
 | _,_,_,.cons (vs:=vs) (xs:=xs) h t,.cons (ys:=ys) h' t'=>by
   obtain⟨u,q1,q2⟩:=oN hc hr h h'.ne
   obtain⟨us,q3,q4⟩:=oH hc hr hc1 hz h0 _ _ _ t t'
   refine⟨u :: us,?_,u,us,rfl,h'.sound hc1 h0 (bP.of1 h'.ne.2 (q2.mono hz (fun _ _ h=>h) ⟨fun _ _=>rfl,(Frame.refl Z μ w).m⟩)),q4⟩
   rw [List.mapM_cons,Sem.run_bind,q1]
   simp only [Result.andThen_ok,Sem.run_bind,q3,Sem.run_pure]
theorem aB0 {f:FuncId} {fn:Func} {c:Code} {args:List LV} {r:LV} {blk blk':Blk} (hfol:P.follows .mixedOrders=true) (hf:P.funcs[f]?=some fn) (hb:fn.body=some c)
  (hn:(fn.name== "runtime.NumGoroutine")=false) (hd:fC fn.ntmps c=true) (hlen:args.length≤fn.ntmps) (hmt:blk.mt=true)
  (h:wpL P c (fun e L=>match e with | .exit _=>False | _=>aAI P fn.results.toList L r blk') (StM args blk)):fZ P f blk args r blk':=by
 refine⟨⟨fn,hf,by rw [hb];rfl,hn⟩,fun W Z0 vs i0 hz hnz hbr hargs=>?_⟩
 have hvl:=gO _ _ hargs
 refine calls_of_wp hf hb ?_
 have hm0:∀ b id,mu0 i0 b=some id→b=0∧id=i0:=fun b id h=>by
  unfold mu0 at h;split at h
  ·cases h;exact⟨by assumption,rfl⟩
  ·cases h
 have hlt:i0<W.heap.size:=by
  obtain⟨c,T,part,rest,h1,_⟩:=hbr
  exact(Array.getElem?_eq_some_iff.1 h1).1
 have hsim:kZ fn.ntmps W (XS.one i0) Z0 (StM args blk) ⟨vs.toArray++Array.replicate (fn.ntmps-vs.toArray.size) undef,[]⟩ W:=by
  refine⟨rfl,by simp;omega,mu0 i0,Z0,⟨Kept.refl _ _,hz,fun _ h=>h,fun _ h=>.inl h,fun b b' id h h'=>(hm0 b id h).1.trans (hm0 b' id h').1.symm,fun b id h=>.inr (.inl (hm0 b id h).2),
   fun b id h _=>(hm0 b id h).1,fun id h=>by rw [XS.one_any h];exact hlt,fun id h=>by rw [show id=i0 from h];rfl,fun b id bk h _ _=>by rw [(hm0 b id h).2];exact hnz,
   fun b id bk h g hm=>?_,fun b id h=>?_⟩,fun t=>?_⟩
  ·obtain⟨rfl,rfl⟩:=hm0 b id h
   simp only [StM,if_true] at g;cases g
   rw [hmt] at hm;cases hm
  ·obtain⟨rfl,rfl⟩:=hm0 b id h
   exact⟨blk,rfl,hbr⟩
  ·have e:vs.toArray++Array.replicate (fn.ntmps-vs.toArray.size) undef=(vs++List.replicate (fn.ntmps-vs.toArray.size) undef).toArray:=by apply Array.ext';simp
   show bP Z0 (mu0 i0) W ((St0 args).slot t) ((vs.toArray++Array.replicate (fn.ntmps-vs.toArray.size) undef).getD t undef)
   rw [e]
   exact t6 args vs _ hargs t
 refine wp_mono (iH hfol c _ _ _ _ hsim h hd) fun e a w q=>?_
 have main:∀ L,aAI P fn.results.toList L r blk'→kZ fn.ntmps W (XS.one i0) Z0 L a w →
   a.defers=[]∧∃ v,(results fn a.tmps).run P w=.ok v w∧∃ v' μ Z,Ending.returned v=.returned v'∧Core W (XS.one i0) Z0 μ Z (uT blk') w∧bP Z μ w r v':=by
  rintro L ⟨xs,ys,H1,h1,h2,h3,h4,h5,h6,h7⟩ ⟨hdf,hsz,μ,Z,hc,hr⟩
  obtain⟨Z1,k1,k2⟩:=hc.widen h2
  have h0:=k1.x1 i0 rfl
  obtain⟨us,q1,q2⟩:=oH hc hr k1 k2 h0 _ _ _ h1 h3
  have hcore:Core W (XS.one i0) Z0 (mu0 i0) Z1 (uT blk') w:=by
   refine⟨k1.keep,k1.zone,k1.zsup,k1.zsub,fun b b' id h h'=>(hm0 b id h).1.trans (hm0 b' id h').1.symm,fun b id h=>.inr (.inl (hm0 b id h).2),fun b id h _=>(hm0 b id h).1,k1.xlt,fun id h=>by rw [show id=i0 from h];rfl,?_,?_,?_⟩
   ·intro b id bk h g hm
    obtain⟨rfl,rfl⟩:=hm0 b id h
    exact k1.mutz 0 id blk' h0 h4 h5
   ·intro b id bk h g hm
    obtain⟨rfl,rfl⟩:=hm0 b id h
    simp only [uT,if_true] at g;cases g
    rw [h5] at hm;cases hm
   ·intro b id h
    obtain⟨rfl,rfl⟩:=hm0 b id h
    obtain⟨bk,l1,cc,T,part,rest,l2,l3,l4⟩:=k1.heap 0 id h0
    rw [h4] at l1;cases l1
    exact⟨_,rfl,cc,T,part,rest,l2,l3,aM.repure (fun _ h=>h) (fun _ _=>rfl) _ _ _ h6 l4⟩
  have hrs:(fn.results.mapM (mW a.tmps)).run P w=.ok us.toArray w:=by
   rw [Array.mapM_eq_mapM_toList,Sem.run_map,q1];rfl
  refine⟨hdf,(if h:us.toArray.size=1 then us.toArray[0] else .tuple us.toArray),?_,_,mu0 i0,Z1,rfl,hcore,?_⟩
  ·rw [qL,Sem.run_bind,hrs]
   rfl
  ·subst h7
   have hyl:=gO _ _ q2
   match ys,us,q2,hyl with
   | [y],[u],q2,_ =>
    obtain⟨v,vs',e,g1,g2⟩:=q2
    simp only [List.cons.injEq] at e
    obtain⟨rfl,_⟩:=e
    have hnt:∀ l,y≠.tup l:=fun l e=>by subst e;have:=g1.2 rfl;simp [bZ] at this
    exact bP.of1 hnt g1
   | [],[],q2,_=>exact⟨_,rfl,by simpa using q2⟩
   | y :: y' :: ys,u :: u' :: us,q2,_ =>
    refine⟨(u :: u' :: us).toArray,by simp,by simpa using q2⟩
 cases e with
 | normal=>obtain⟨L,q1,q2⟩:=q;exact main L q1 q2
 | ret=>obtain⟨L,q1,q2⟩:=q;exact main L q1 q2
 | exit id=>obtain⟨L,q1,q2⟩:=q;exact q1.elim
 | _=>exact q.elim
end
end Go.Lg
namespace Go.Lg
def St.frz (L:St) (bs:List Nat):St:=⟨L.slot,fun c=>(L.heap c).map fun blk=>⟨blk.sz,blk.vals,blk.mt && !bs.contains c⟩⟩
section
variable {P:Program} {dr:Bool} {ops:Array Oper} {rest:List Oper} {L:St} {K:St→Prop} {dst:Option Tmp} {ty:TypeId} {pos:String} {af:Array Edge} {g:Option (Nat × Bool)}
theorem kQ (bs:List Nat) (h0:bs.contains 0=false):L.heap.le (L.frz bs).heap:=fun b blk h=>by
 refine⟨blk.mt && !bs.contains b,by simp [St.frz,h],fun e=>by simp [e],fun e1 e2=>?_⟩
 rintro rfl
 rw [e1,h0] at e2;cases e2
theorem aB {op:Op} {r:LV} (hg:bS ops L ⟨dst,op,ty,pos,af,g⟩ true) (h:OpP P L.heap L.ev op r) (k:opsL P dr ops rest (L.put dst r) K) :
  opsL P dr ops (⟨dst,op,ty,pos,af,g⟩ :: rest) L K:=by
 refine⟨L.put dst r,.val hg (cM.le_refl _) (fr:=[]) (fun _ _ h=>by cases h) (.pure h) ?_,k⟩
 cases dst<;>rfl
theorem cE {op:Op} (hg:bS ops L ⟨dst,op,ty,pos,af,g⟩ false) (k:opsL P dr ops rest (L.put dst (.tup [])) K):opsL P dr ops (⟨dst,op,ty,pos,af,g⟩ :: rest) L K :=
 ⟨_,.skip hg rfl,k⟩
theorem b9 {op:Op} {d:Nat} {r:LV} {blk:Blk} (hg:bS ops L ⟨some d,op,ty,pos,af,g⟩ true) (hd:L.heap d=none) (h:OpA P L.ev d op r blk)
  (k:opsL P dr ops rest ((L.setB d (some blk)).put (some d) r) K):opsL P dr ops (⟨some d,op,ty,pos,af,g⟩ :: rest) L K:=by
 refine⟨_,.val hg (r:=r) (fr:=[(d,blk)]) (H1:=(L.setB d (some blk)).heap) ?_ ?_ (.alloc h) ?_,k⟩
 ·intro b bk hb
  have:b≠d:=by rintro rfl;rw [hd] at hb;cases hb
  exact⟨bk.mt,by simp only [St.setB,if_neg this];exact hb,fun h=>h,fun h1 h2=>by rw [h1] at h2;cases h2⟩
 ·intro b bk hb
  simp only [List.mem_singleton,Prod.mk.injEq] at hb
  obtain⟨rfl,rfl⟩:=hb
  exact⟨hd,bk.mt,by simp [St.setB],fun h=>h⟩
 ·rfl
theorem gE {op:Op} {r r':LV} (bs:List Nat) (hg:bS ops L ⟨dst,op,ty,pos,af,g⟩ true) (h0:bs.contains 0=false) (h:OpC P (L.frz bs).heap L.ev (dst.getD 0) op r []) (hr:r=r')
  (k:opsL P dr ops rest ((L.frz bs).put dst r') K):opsL P dr ops (⟨dst,op,ty,pos,af,g⟩ :: rest) L K:=by
 subst hr
 refine⟨(L.frz bs).put dst r,.val hg (r:=r) (fr:=[]) (H1:=(L.frz bs).heap) (kQ bs h0) (fun _ _ h=>by cases h) (.call h) ?_,k⟩
 cases dst<;>rfl
theorem aDs {f:FuncId} {xs:Array Operand} {as:Array TypeId} {args:List LV} {r:LV} (bs:List Nat) (hg:bS ops L ⟨dst,.call ⟨.value (.func f),xs,as⟩,ty,pos,af,g⟩ true) (h0:bs.contains 0=false)
  (ha:ImmL (L.frz bs).heap (xs.toList.map L.ev) args) (hk:gM P f args r []) (hr:r.ren (bK (dst.getD 0))=r)
  (k:opsL P dr ops rest ((L.frz bs).put dst r) K):opsL P dr ops (⟨dst,.call ⟨.value (.func f),xs,as⟩,ty,pos,af,g⟩ :: rest) L K :=
 gE bs hg h0 (.func ha hk (by simp) (by simp)) hr k
theorem qR:L.frz []=L:=by
 cases L
 simp only [St.frz,St.mk.injEq,true_and]
 funext c
 rename_i s h
 cases h c<;>simp
theorem aGW {f:FuncId} {xs:Array Operand} {as:Array TypeId} {args:List LV} {r:LV} (hg:bS ops L ⟨dst,.call ⟨.value (.func f),xs,as⟩,ty,pos,af,g⟩ true)
  (ha:ImmL L.heap (xs.toList.map L.ev) args) (hk:gM P f args r []) (hr:r.ren (bK (dst.getD 0))=r)
  (k:opsL P dr ops rest (L.put dst r) K):opsL P dr ops (⟨dst,.call ⟨.value (.func f),xs,as⟩,ty,pos,af,g⟩ :: rest) L K :=
 aDs [] hg rfl (by rw [qR];exact ha) hk hr (by rw [qR];exact k)
theorem lJ {f:FuncId} {xs:Array Operand} {as:Array TypeId} {args:List LV} {r:LV} {blk:Blk} {d:Nat} (bs:List Nat) (hg:bS ops L ⟨some d,.call ⟨.value (.func f),xs,as⟩,ty,pos,af,g⟩ true) (h0:bs.contains 0=false)
  (ha:ImmL (L.frz bs).heap (xs.toList.map L.ev) args) (hk:gM P f args r [blk]) (hp:aV blk.vals=true) (hd:L.heap (bK d 1)=none)
  (k:opsL P dr ops rest (((L.frz bs).setB (bK d 1) (some blk)).put (some d) (r.ren (bK d))) K):opsL P dr ops (⟨some d,.call ⟨.value (.func f),xs,as⟩,ty,pos,af,g⟩ :: rest) L K:=by
 have hd':(L.frz bs).heap (bK d 1)=none:=by simp [St.frz,hd]
 refine⟨_,.val hg (r:=r.ren (bK d)) (fr:=[blk].mapIdx fun i blk=>(bK d (i+1),blk)) (H1:=((L.frz bs).setB (bK d 1) (some blk)).heap) (cM.le_trans (kQ bs h0) ?_) ?_
  (.call (.func (ImmL.le ?_ ha) hk (by simp) (by simpa using hp))) ?_,k⟩
 ·exact aAj hd'
 ·intro b bk hb
  simp only [List.mapIdx_cons,List.mapIdx_nil,List.mem_singleton,Prod.mk.injEq] at hb
  obtain⟨rfl,rfl⟩:=hb
  exact⟨hd,bk.mt,by simp [St.setB],fun h=>h⟩
 ·exact aAj hd'
 ·rfl
theorem bC {op:Op} {L':St} (hg:bS ops L ⟨dst,op,ty,pos,af,g⟩ true) (h:OpT P L dst op L') (k:opsL P dr ops rest L' K):opsL P dr ops (⟨dst,op,ty,pos,af,g⟩ :: rest) L K :=
 ⟨_,.st hg h,k⟩
theorem iO {f:FuncId} {xs:Array Operand} {as:Array TypeId} {args:List LV} {r:LV} {ops:Array Oper} (b:Nat) {blk blk':Blk} (hg:bS ops L ⟨dst,.call ⟨.value (.func f),xs,as⟩,ty,pos,af,g⟩ true)
  (hb:L.heap b=some blk) (hm:blk.mt=true) (hp:aV blk.vals=true) (ha:ArgML L.heap b (xs.toList.map L.ev) args) (hn:Names b (xs.toList.map L.ev)) (hk:fZ P f blk args r blk')
  (hm':blk'.mt=true) (hp':aV blk'.vals=true) (k:opsL P false ops rest ((L.setB b (some blk')).put dst (r.ren fun _=>b)) K) :
  opsL P false ops (⟨dst,.call ⟨.value (.func f),xs,as⟩,ty,pos,af,g⟩ :: rest) L K :=
 ⟨_,.stM rfl hg (.call hb hm hp ha hn hk hm' hp'),k⟩
theorem aE (k:K L):opsL P dr ops [] L K:=k
end
structure EncOK {α:Type} (e:α→LV) (sz:Nat) (ag:Bool):Prop where
 csize:∀ a,(e a).csize=sz
 isAgg:∀ a,(e a).isAgg=ag
 pure:∀ a,(e a).pure=true
theorem aF {α:Type} {e:α→LV} {sz:Nat} {ag:Bool} (h:EncOK e sz ag) (l:List α):aV (l.map e)=true:=by
 rw [gV];intro x hx
 obtain⟨a,_,rfl⟩:=List.mem_map.1 hx
 exact h.pure a
theorem yP (x:LV) (h:x.pure=true):x.at 0 x.csize x.isAgg=some x:=by
 cases x<;>simp_all [LV.at,LV.csize,LV.isAgg,LV.pure]
theorem sL (x y:LV) (h1:x.csize=y.csize) (h2:x.isAgg=y.isAgg):x.put 0 y=some y:=by
 cases x<;>simp_all [LV.put,LV.csize,LV.isAgg]
section
variable {P:Program} {H:cM} {ρ:Operand→LV} {α:Type} {e:α→LV}
theorem OpP.idxLm [Inhabited α] {T E:TypeId} {x i:Operand} {sz:Nat} {l:List α} {k:IntKind} {n:Int} {ag:Bool} (he:EncOK e sz ag) (hx:ρ x=.list sz (l.map e)) (hT:P.underlying T=some (.slice E)) (hE:bT P E sz ag)
  (hi:ρ i=.v (.int k n)) (h0:0≤n) (hn:n<l.length):OpP P H ρ (.indexAddr T x i) (.boxp (e (l.getD n.toNat default))):=by
 have hlt:n.toNat<l.length:=by omega
 refine .idxL hx hT hE hi h0 ?_ (he.csize _)
 rw [List.getElem?_map,List.getElem?_eq_getElem hlt,List.getD_eq_getElem?_getD,List.getElem?_eq_getElem hlt];rfl
theorem OpP.loadBm {T:TypeId} {p:Operand} {sz:Nat} {ag:Bool} {a:α} (he:EncOK e sz ag) (hp:ρ p=.boxp (e a)) (hT:bT P T sz ag):OpP P H ρ (.load T p) (e a) :=
 .loadB hp (by rw [he.csize,he.isAgg];exact hT) (he.pure a)
theorem OpP.loadEm [Inhabited α] {T:TypeId} {p:Operand} {b sz i:Nat} {l:List α} {m:Bool} {ag:Bool} (he:EncOK e sz ag) (hp:ρ p=.eptr b sz i 0) (hb:H b=some ⟨sz,l.map e,m⟩) (hT:bT P T sz ag)
  (hi:i<l.length):OpP P H ρ (.load T p) (e (l.getD i default)):=by
 have hv:(l.map e)[i]?=some (e (l.getD i default)):=by
  rw [List.getElem?_map,List.getElem?_eq_getElem hi,List.getD_eq_getElem?_getD,List.getElem?_eq_getElem hi];rfl
 refine .loadE (blk:=⟨sz,l.map e,m⟩) (n:=sz) (ag:=ag) hp hb rfl hv (he.csize _) ?_ hT
 have:=yP (e (l.getD i default)) (he.pure _)
 rwa [he.csize,he.isAgg] at this
theorem OpT.storeM [Inhabited α] {L:St} {dst:Option Tmp} {T:TypeId} {p x:Operand} {b sz i:Nat} {l:List α} {ag:Bool} {a:α} (he:EncOK e sz ag) (hp:L.ev p=.eptr b sz i 0) (hb:L.heap b=some ⟨sz,l.map e,true⟩)
  (hx:L.ev x=e a) (hT:bT P T sz ag) (hi:i<l.length):OpT P L dst (.store T p x) ((L.setB b (some ⟨sz,(l.set i a).map e,true⟩)).put dst .any):=by
 have hv:(l.map e)[i]?=some (e l[i]):=by rw [List.getElem?_map,List.getElem?_eq_getElem hi];rfl
 have:=OpT.store (P:=P) (L:=L) (dst:=dst) (T:=T) (p:=p) (x:=x) (y':=e a) hp hb rfl rfl hv (he.csize _) (by rw [hx];exact sL _ _ (by rw [he.csize,he.csize]) (by rw [he.isAgg,he.isAgg]))
  (by rw [hx,he.csize,he.isAgg];exact hT) (by rw [hx];exact⟨LV.pure_ne_any (he.pure _),LV.pure_ne_tup (he.pure _)⟩)
 rwa [←List.map_set] at this
theorem OpA.makeM {T E:TypeId} {x c:Operand} {kl kc:IntKind} {d sz by_ n m:Nat} {ag:Bool} {z:α} (he:EncOK e sz ag) (hT:P.underlying T=some (.slice E)) (hz:bA P E (e z)) (hE:bT P E sz ag) (hb:bJ P E by_)
  (hl:ρ x=.v (.int kl (n:Nat))) (hc:ρ c=.v (.int kc (m:Nat))) (hnm:n≤m) (hm:by_*m≤281474976710656) (hm2:m≤9223372036854775807) :
  OpA P ρ d (.makeSlice T x c) (.ref d sz 0 n) ⟨sz,(List.replicate n z).map e,true⟩:=by
 rw [List.map_replicate]
 exact .make hT hz (by rw [he.isAgg];exact hE) (he.csize z) hb hl hc hnm hm hm2
theorem OpA.lit1 {T E:TypeId} {x:Operand} {d sz:Nat} {ag:Bool} {z a:α} (he:EncOK e sz ag) (hT:P.underlying T=some (.slice E)) (hz:bA P E (e z)) (hE:bT P E sz ag) (hx:ρ x=e a) (hs0:0<sz) (hs1:sz≤1000) :
  OpA P ρ d (.buildSlice T 1 #[(0,x)]) (.ref d sz 0 1) ⟨sz,[a].map e,true⟩:=by
 have:=OpA.lit (P:=P) (ρ:=ρ) (d:=d) (T:=T) (n:=1) (ps:=#[(0,x)]) hT hz (by rw [he.isAgg];exact hE) (he.csize z) (by omega) (by omega) hs0 (by
  intro p hp
  simp only [List.mem_singleton] at hp
  subst hp
  refine⟨by simp,?_,by rw [hx];exact LV.pure_ne_any (he.pure _),by rw [hx];exact LV.pure_ne_tup (he.pure _)⟩
  simp [lay,hx,he.csize,he.isAgg])
 simpa [eN,hx,List.replicate] using this
end
section
variable {a b:Int}
theorem oE (h1:-9223372036854775808≤a+b) (h2:a+b≤9223372036854775807):dU .add .i64 a b=some (.int .i64 (a+b)):=by
 simp only [dU];rw [IntWalk.i64_in _ ⟨h1,h2⟩]
theorem lI (h1:-9223372036854775808≤a-b) (h2:a-b≤9223372036854775807):dU .sub .i64 a b=some (.int .i64 (a-b)):=by
 simp only [dU];rw [IntWalk.i64_in _ ⟨h1,h2⟩]
theorem xF (h1:-9223372036854775808≤a*b) (h2:a*b≤9223372036854775807):dU .mul .i64 a b=some (.int .i64 (a*b)):=by
 simp only [dU];rw [IntWalk.i64_in _ ⟨h1,h2⟩]
end
section
variable {P:Program} {L L0:St} {Q:LEx→St→Prop} {K:St→Prop}
theorem aJ1 {l:List Oper} {id:Nat} (h:opsL P false l.toArray l L (Q .normal)):wpL P (.region id l.toArray false) Q L:=⟨L,a7.refl L,.inl ⟨fun e=>absurd e (by decide),h⟩⟩
theorem aP {l:List Oper} {id:Nat} (m:Nat) (hm:qF l.toArray m []=true) (h:opsL P true l.toArray l L (Q .normal)):wpL P (.region id l.toArray true) Q L:=⟨L,a7.refl L,.inl ⟨fun _=>⟨m,[],hm⟩,h⟩⟩
theorem dH {l:List Oper} {id:Nat} (m:Nat) (fr:List Nat) (hm:qF l.toArray m fr=true) (h:opsL P true l.toArray l L (Q .normal)):wpL P (.region id l.toArray true) Q L:=⟨L,a7.refl L,.inl ⟨fun _=>⟨m,fr,hm⟩,h⟩⟩
theorem bG {l:List Oper} {id:Nat} (hw:a7 L L0) (h:opsL P false l.toArray l L0 (Q .normal)):wpL P (.region id l.toArray false) Q L:=⟨L0,hw,.inl ⟨fun e=>absurd e (by decide),h⟩⟩
theorem zM {ops:Array Oper} {id:Nat} (h:mC P ops ops.size (Array.replicate ops.size false) L (Q .normal)):wpL P (.region id ops true) Q L:=⟨L,a7.refl L,.inr (.inl ⟨rfl,h⟩)⟩
theorem zV {ops:Array Oper} {id:Nat} {d:Bool} (h:∀ n W X Z0 a w,kZ n W X Z0 L a w→fC n (.region 0 ops d)=true→∀ id,(Code.region id ops d).wp P (wG n W X Z0 Q) a w):wpL P (.region id ops d) Q L:=⟨L,a7.refl L,.inr (.inr h)⟩
def aE7 (P:Program) (l:List Oper) (m b:Nat) (fr:List Nat) (x0:Blk) (K:St→Prop) (Lm:St):Prop :=
 Lm.heap b=none∧(fr.all fun j=>match (l.toArray.getD j default).dst with | some d=>(Lm.heap (bK d 1)).isNone | none=>true)=true ∧
  (∀ om,l.toArray[m]?=some om→∃ T p v i o,om.op=.store T p v∧Lm.ev p=.eptr b x0.sz i o)∧opsL P true l.toArray (l.drop m) (Lm.setB b (some x0)) K
theorem aIb {l:List Oper} {id:Nat} (hfol:P.follows .mixedOrders=true) (m b:Nat) (fr:List Nat) {x0:Blk} (hm:yY l.toArray m fr=true) (hb:L.heap b=some x0)
  (h:opsL P true l.toArray (l.take m) (L.setB b none) (aE7 P l m b fr x0 (Q .normal))):wpL P (.region id l.toArray true) Q L:=by
 refine zV fun n W X Z0 a w hs hd id=>?_
 have hd':∀ o∈l.toArray.toList,∀ t,o.dst=some t→t<n:=fun o ho t ht=>by
  simp only [fC,List.all_eq_true] at hd
  have:=hd o ho
  rw [ht] at this
  simpa using this
 exact aAr hfol hm hs hb h hd' (fun L' a' w' hk hs'=>⟨L',hk,hs'⟩)
theorem aDC {l:List Oper} {m b:Nat} {fr:List Nat} {x0:Blk} {K:St→Prop} {ops:Array Oper} (h1:L.heap b=none) (h2:(fr.all fun j=>match (l.toArray.getD j default).dst with | some d=>(L.heap (bK d 1)).isNone | none=>true)=true)
  (h3:∀ om,l.toArray[m]?=some om→∃ T p v i o,om.op=.store T p v∧L.ev p=.eptr b x0.sz i o) (h4:opsL P true l.toArray (l.drop m) (L.setB b (some x0)) K):opsL P true ops [] L (aE7 P l m b fr x0 K):=⟨h1,h2,h3,h4⟩
theorem aKh {x y:Code} (h:wpL P x (thenL (wpL P y Q) Q) L):wpL P (.seq x y) Q L:=h
theorem yW {c:Operand} {x y:Code} {t:Bool} (hc:L.ev c=.v (.bool t)) (h1:t=true→wpL P x Q L) (h2:t=false→wpL P y Q L):wpL P (.cond c x y) Q L:=⟨t,hc,h1,h2⟩
theorem aFg {c:Code} {id:Nat} (h:wpL P c (blockL id Q) L):wpL P (.block id c) Q L:=h
theorem aIr (h:Q .normal L):wpL P .skip Q L:=h
theorem aKF (h:Q .ret L):wpL P .ret Q L:=h
theorem aIA {id:Nat} (h:Q (.exit id) L):wpL P (.exit id) Q L:=h
theorem aJm (h:K L):thenL K Q .normal L:=h
theorem aKl {i:Nat} (h:Q (.exit i) L):thenL K Q (.exit i) L:=h
theorem aKT (h:Q .ret L):thenL K Q .ret L:=h
theorem aL8 {id:Nat} (h:Q .normal L):blockL id Q .normal L:=h
theorem aL6 {id:Nat} (h:Q .ret L):blockL id Q .ret L:=h
theorem aL2 {id:Nat} (h:Q .normal L):blockL id Q (.exit id) L:=by simp only [blockL,if_pos];exact h
theorem aLL {id i:Nat} (hne:i≠id) (h:Q (.exit i) L):blockL id Q (.exit i) L:=by simp only [blockL,if_neg hne];exact h
theorem lK:∀ {c:Code} {Q Q':LEx→St→Prop} {L:St},(∀ e L,Q e L→Q' e L)→wpL P c Q L→wpL P c Q' L:=by
 intro c
 induction c with
 | skip=>exact fun hq h=>hq _ _ h
 | region id ops d=>exact fun hq ⟨L0,a,h⟩=>⟨L0,a,h.imp (fun⟨b,h⟩=>⟨b,xY (hq _) _ _ h⟩) (fun h=>h.imp (fun⟨b,h⟩=>⟨b,x8 (hq _) _ _ _ h⟩) (fun h n W X Z0 a w hs hd id=>wp_mono (h n W X Z0 a w hs hd id) fun e a w p=>by
  cases e with
  | normal=>obtain⟨L,q1,q2⟩:=p;exact⟨L,hq _ _ q1,q2⟩
  | exit i=>obtain⟨L,q1,q2⟩:=p;exact⟨L,hq _ _ q1,q2⟩
  | ret=>obtain⟨L,q1,q2⟩:=p;exact⟨L,hq _ _ q1,q2⟩
  | _=>exact p.elim))⟩
 | seq x y ihx ihy =>
  intro Q Q' L hq h
  refine ihx (fun e L h=>?_) h
  cases e with
  | normal=>exact ihy hq h
  | exit i=>exact hq _ _ h
  | ret=>exact hq _ _ h
 | cond c x y ihx ihy=>exact fun hq ⟨t,a,b,c⟩=>⟨t,a,fun e=>ihx hq (b e),fun e=>ihy hq (c e)⟩
 | block id c ih =>
  intro Q Q' L hq h
  refine ih (fun e L h=>?_) h
  cases e with
  | normal=>exact hq _ _ h
  | exit i =>
   simp only [blockL] at h ⊢
   split
   ·rename_i e;rw [if_pos e] at h;exact hq _ _ h
   ·rename_i e;rw [if_neg e] at h;exact hq _ _ h
  | ret=>exact hq _ _ h
 | loop c ih =>
  intro Q Q' L hq h I hI
  refine h I fun L hL=>hI L (ih (fun e L h=>?_) hL)
  cases e with
  | normal=>exact h
  | exit i=>exact hq _ _ h
  | ret=>exact hq _ _ h
 | exit id=>exact fun hq h=>hq _ _ h
 | ret=>exact fun hq h=>hq _ _ h
 | rangeFunc=>exact fun _ h=>h.elim
 | scope=>exact fun _ h=>h.elim
 | label=>exact fun _ h=>h.elim
 | goto=>exact fun _ h=>h.elim
 | refuse=>exact fun _ h=>h.elim
theorem t7 {c:Code} {α:Type} (S:α→St→St) (C:α→Prop) (μ:α→Nat) (a0:α) (hC:C a0) (h0:∃ L1,a7 L (S a0 L1))
  (hr:∀ a L1,C a→wpL P c (thenL (fun L'=>∃ a' L2,C a'∧μ a'<μ a∧a7 L' (S a' L2)) Q) (S a L1)):wpL P (.loop c) Q L:=by
 obtain⟨L1,h1⟩:=h0
 intro I hI
 have key:∀ n a L1,μ a=n→C a→I (S a L1):=by
  intro n
  induction n using Nat.strongRecOn with
  | _ n ih =>
   intro a L1 hn hCa
   refine hI _ (lK (fun e L h=>?_) (hr a L1 hCa))
   cases e with
   | normal =>
    obtain⟨a',L2,g1,g2,g3⟩:=h
    exact⟨_,g3,ih _ (hn ▸ g2) a' L2 rfl g1⟩
   | exit i=>exact h
   | ret=>exact h
 exact⟨_,h1,key _ a0 L1 rfl hC⟩
theorem aK {c:Code} (h:wpL P c (thenL (wpL P (.loop c) Q) Q) L):wpL P (.loop c) Q L:=by
 intro I hI
 refine⟨L,a7.refl L,hI L (lK (fun e L' h=>?_) h)⟩
 cases e with
 | normal=>exact h I hI
 | exit i=>exact h
 | ret=>exact h
theorem eH {c:Code} (K:St→Prop) (h:wpL P c (thenL K Q) L) (hk:∀ L,K L→Q .normal L):wpL P c Q L :=
 lK (fun e L h=>by cases e with | normal=>exact hk L h | exit i=>exact h | ret=>exact h) h
end
theorem aJF {L:St} {t:Nat} {r:LV} (h:L.slot t=r):L.put (some t) r=L:=by
 cases L with
 | mk s hp =>
  simp only [St.put,St.mk.injEq,and_true]
  funext k
  have:=bU ⟨s,hp⟩ t r k
  simp only [St.put] at this
  rw [this]
  split
  ·rename_i hk;subst hk;exact h.symm
  ·rfl
theorem aA {L L':St} {t:Nat} {r:LV} (h0:L'=L) (h:L.slot t=r):L'.put (some t) r=L:=by rw [h0];exact aJF h
theorem a7.of_eq {L L':St} (h:L'=L):a7 L L':=by subst h;exact a7.refl _
theorem aCk (L:St) (t:Nat) (r:LV) (s:Nat) (h:(s==t)=false):(L.put (some t) r).slot s=L.slot s:=by
 rw [bU,if_neg (by simpa using h)]
theorem aFl (L:St) (t:Nat) (r:LV):(L.put (some t) r).slot t=r:=by rw [bU,if_pos rfl]
section
variable {P:Program} {dr:Bool} {ops:Array Oper} {rest:List Oper} {L:St} {K:St→Prop} {dst:Option Tmp} {op:Op} {ty:TypeId} {pos:String} {af:Array Edge}
theorem aO {j d:Nat} {b v want res:Bool} (h1:(ops[j]?).bind (·.dst)=some d) (h2:L.slot d=.v (.bool b)) (h3:b=v) (h4:(v==want)=res) :
  bS ops L ⟨dst,op,ty,pos,af,some (j,want)⟩ res:=⟨d,h1,.inl ⟨b,h2,by rw [h3,h4]⟩⟩
theorem aKi {j d:Nat} {want:Bool} (h1:(ops[j]?).bind (·.dst)=some d) (h2:L.slot d=.tup []):bS ops L ⟨dst,op,ty,pos,af,some (j,want)⟩ false:=⟨d,h1,.inr ⟨h2,rfl⟩⟩
theorem jB {L':St} (h:L=L') (k:K L'):opsL P dr ops [] L K:=by subst h;exact k
end
section
variable {P:Program} {L:St}
theorem b8 {t:Nat} {x y:LV} (h:L.slot t=x) (hi:Imm L.heap x y):n9 P [.tmp t] L y [] :=
 ⟨[x],[y],L.heap,[],.cons h .nil,cM.le_refl _,.cons (.imm hi) .nil,List.nodup_nil,rfl,fun k b h=>by simp at h,rfl⟩
theorem jV {t:Nat} {x y:LV} (bs:List Nat) (h0:bs.contains 0=false) (h:L.slot t=x) (hi:Imm (L.frz bs).heap x y):n9 P [.tmp t] L y [] :=
 ⟨[x],[y],(L.frz bs).heap,[],.cons h .nil,kQ bs h0,.cons (.imm hi) .nil,List.nodup_nil,rfl,fun k b h=>by simp at h,rfl⟩
theorem pM {t u:Nat} {x y x' y':LV} (h:L.slot t=x) (hi:Imm L.heap x y) (h':L.slot u=x') (hi':Imm L.heap x' y'):n9 P [.tmp t,.tmp u] L (.tup [y,y']) [] :=
 ⟨[x,x'],[y,y'],L.heap,[],.cons h (.cons h' .nil),cM.le_refl _,.cons (.imm hi) (.cons (.imm hi') .nil),List.nodup_nil,rfl,fun k b h=>by simp at h,rfl⟩
theorem aFG {t u:Nat} {x y x' y':LV} (bs:List Nat) (h0:bs.contains 0=false) (h:L.slot t=x) (hi:Imm (L.frz bs).heap x y) (h':L.slot u=x') (hi':Imm (L.frz bs).heap x' y'):n9 P [.tmp t,.tmp u] L (.tup [y,y']) [] :=
 ⟨[x,x'],[y,y'],(L.frz bs).heap,[],.cons h (.cons h' .nil),kQ bs h0,.cons (.imm hi) (.cons (.imm hi') .nil),List.nodup_nil,rfl,fun k b h=>by simp at h,rfl⟩
theorem pQ {t u s:Nat} {x y x' y' x'' y'':LV} (bs:List Nat) (h0:bs.contains 0=false) (h:L.slot t=x) (hi:Imm (L.frz bs).heap x y) (h':L.slot u=x') (hi':Imm (L.frz bs).heap x' y')
  (h'':L.slot s=x'') (hi'':Imm (L.frz bs).heap x'' y''):n9 P [.tmp t,.tmp u,.tmp s] L (.tup [y,y',y'']) [] :=
 ⟨[x,x',x''],[y,y',y''],(L.frz bs).heap,[],.cons h (.cons h' (.cons h'' .nil)),kQ bs h0,.cons (.imm hi) (.cons (.imm hi') (.cons (.imm hi'') .nil)),List.nodup_nil,rfl,fun k b h=>by simp at h,rfl⟩
theorem rV {t b sz len:Nat} {blk:Blk} (h:L.slot t=.ref b sz 0 len) (hb:L.heap b=some blk) (hp:aV blk.vals=true):n9 P [.tmp t] L (.ref 1 sz 0 len) [blk] :=
 ⟨[.ref b sz 0 len],[.ref 1 sz 0 len],L.heap,[b],.cons h .nil,cM.le_refl _,.cons (.ref (k:=0) rfl) .nil,by simp,rfl,fun k c hk=>by
  cases k with
  | zero=>simp at hk;subst hk;exact⟨blk,hb,rfl,hp⟩
  | succ k=>simp at hk,rfl⟩
theorem dE {a:Nat} {T:TypeId} {b sz:Nat} {x y:LV} {m:Bool} {n:Nat} {ag:Bool} (bs:List Nat) (h0:bs.contains 0=false) (h:L.slot a=.eptr b sz 0 0) (hb:L.heap b=some ⟨sz,[x],m⟩)
  (hx:x.csize=sz) (hat:x.at 0 n ag=some x) (hT:bT P T n ag) (hi:Imm (L.frz bs).heap x y):n9 P [.cell a T] L y [] :=
 ⟨[x],[y],(L.frz bs).heap,[],.cons ⟨b,sz,0,0,_,x,n,ag,h,hb,rfl,rfl,hx,hat,hT⟩ .nil,kQ bs h0,.cons (.imm hi) .nil,List.nodup_nil,rfl,fun k b h=>by simp at h,rfl⟩
theorem o5 {bs:List Nat} {b sz off len:Nat} {vals:List LV} {m:Bool} (hb:L.heap b=some ⟨sz,vals,m⟩) (hbs:bs.contains b=true) (hp:aV vals=true) (hl:off+len≤vals.length) :
  Imm (L.frz bs).heap (.ref b sz off len) (.list sz ((vals.drop off).take len)) :=
 Imm.ref (blk:=⟨sz,vals,m && !bs.contains b⟩) (by simp [St.frz,hb]) rfl hp hl (by rw [hbs];simp)
theorem cC {α:Type} {e:α→LV} {ag:Bool} {bs:List Nat} {b sz len:Nat} {l:List α} {m:Bool} (he:EncOK e sz ag) (hb:L.heap b=some ⟨sz,l.map e,m⟩) (hbs:bs.contains b=true) (hl:len=l.length) :
  Imm (L.frz bs).heap (.ref b sz 0 len) (.list sz (l.map e)):=by
 have:=o5 (L:=L) (bs:=bs) (off:=0) (len:=len) hb hbs (aF he l) (by simp [hl])
 rwa [List.drop_zero,List.take_of_length_le (by simp [hl])] at this
end
section
variable {P:Program} {H:cM} {ρ:Operand→LV}
theorem OpP.pickT {c x y:Operand} {t:Bool} (h:ρ c=.v (.bool t)) (ht:t=true):OpP P H ρ (.pick c x y) (ρ x):=by
 have:=OpP.pick (P:=P) (H:=H) (x:=x) (y:=y) h
 rwa [if_pos ht] at this
theorem OpP.pickF {c x y:Operand} {t:Bool} (h:ρ c=.v (.bool t)) (ht:t=false):OpP P H ρ (.pick c x y) (ρ y):=by
 have:=OpP.pick (P:=P) (H:=H) (x:=x) (y:=y) h
 rwa [if_neg (by simp [ht])] at this
end
section
variable {P:Program} {dr:Bool} {ops:Array Oper} {rest:List Oper} {L:St} {K:St→Prop} {dst:Option Tmp} {ty:TypeId} {pos:String} {af:Array Edge} {x:Operand}
theorem mv (k:opsL P dr ops rest (L.put dst (L.ev x)) K):opsL P dr ops (⟨dst,.move x,ty,pos,af,none⟩ :: rest) L K:=aB rfl (.move _) k
theorem asg (k:opsL P dr ops rest (L.put dst (L.ev x)) K):opsL P dr ops (⟨dst,.assign x,ty,pos,af,none⟩ :: rest) L K:=aB rfl (.assign _) k
end
section
variable {P:Program} {H:cM} {ρ:Operand→LV} {α:Type} {e:α→LV} {sz:Nat} {ag:Bool} {T E:TypeId} {x y z:Operand} {l:List α} {a h:Nat} {k k':IntKind}
theorem OpP.sliceLb (_he:EncOK e sz ag) (hx:ρ x=.list sz (l.map e)) (hT:P.underlying T=some (.slice E)) (hE:bT P E sz ag) (hlo:ρ y=.v (.int k (a:Nat))) (hhi:ρ z=.v (.int k' (h:Nat))) (h1:a≤h) (h2:h≤l.length) :
  OpP P H ρ (.slice T x (some y) (some z) none) (.list sz (((l.take h).drop a).map e)):=by
 have:=OpP.sliceL (P:=P) (H:=H) (ρ:=ρ) (la:=some y) (ha:=some z) (a:=a) (h:=h) hx hT hE (fun w hw=>by cases hw;exact⟨_,hlo⟩) (fun h=>by cases h) (fun w hw=>by cases hw;exact⟨_,hhi⟩) (fun h=>by cases h) h1 (by simpa using h2)
 rwa [←List.map_take,←List.map_drop] at this
theorem OpP.sliceLl (_he:EncOK e sz ag) (hx:ρ x=.list sz (l.map e)) (hT:P.underlying T=some (.slice E)) (hE:bT P E sz ag) (hlo:ρ y=.v (.int k (a:Nat))) (h1:a≤l.length) :
  OpP P H ρ (.slice T x (some y) none none) (.list sz ((l.drop a).map e)):=by
 have:=OpP.sliceL (P:=P) (H:=H) (ρ:=ρ) (la:=some y) (ha:=none) (a:=a) (h:=(l.map e).length) hx hT hE (fun w hw=>by cases hw;exact⟨_,hlo⟩) (fun h=>by cases h) (fun w hw=>by cases hw) (fun _=>rfl) (by simpa using h1) (Nat.le_refl _)
 rwa [List.take_length,←List.map_drop] at this
theorem OpP.sliceLh (_he:EncOK e sz ag) (hx:ρ x=.list sz (l.map e)) (hT:P.underlying T=some (.slice E)) (hE:bT P E sz ag) (hhi:ρ z=.v (.int k' (h:Nat))) (h2:h≤l.length) :
  OpP P H ρ (.slice T x none (some z) none) (.list sz ((l.take h).map e)):=by
 have:=OpP.sliceL (P:=P) (H:=H) (ρ:=ρ) (la:=none) (ha:=some z) (a:=0) (h:=h) hx hT hE (fun w hw=>by cases hw) (fun _=>rfl) (fun w hw=>by cases hw;exact⟨_,hhi⟩) (fun h=>by cases h) (by omega) (by simpa using h2)
 rwa [List.drop_zero,←List.map_take] at this
theorem aJ (he:EncOK e sz ag) (n:Nat) (l:List α):(LV.list n (l.map e)).pure=true:=by simp only [LV.pure];exact aF he l
end
theorem e1 (L:St) (t:Nat):L.ev (.tmp t)=L.slot t:=rfl
theorem e2 (L:St) (k:IntKind) (n:Int):L.ev (.const (.int k n))=.v (.int k n):=rfl
theorem e3 (L:St) (b:Bool):L.ev (.const (.bool b))=.v (.bool b):=rfl
theorem e4 (L:St):L.ev (.const (.slice none 0 0))=.v (.slice none 0 0):=rfl
theorem p1 (L:St) (t:Nat) (r:LV):(L.put (some t) r).slot t=r:=aFl L t r
theorem p2 (L:St) (t:Nat) (r:LV) (s:Nat) (h:(s==t)=false):(L.put (some t) r).slot s=L.slot s:=aCk L t r s h
theorem p3 (L:St) (r:LV):L.put none r=L:=rfl
theorem q1 (L:St) (b:Nat) (x:Option Blk) (s:Nat):(L.setB b x).slot s=L.slot s:=rfl
theorem q2 (L:St) (bs:List Nat) (s:Nat):(L.frz bs).slot s=L.slot s:=rfl
theorem q3 (L:St) (b:Nat) (s:Nat):(L.kill b).slot s=(L.slot s).kill b:=rfl
theorem l1 {α β:Type} (f:α→β) (l:List α):(l.map f).length=l.length:=List.length_map f
theorem lG {P:Program} {dst:Option Tmp} {ty:TypeId} {pos:String} {af:Array Edge} {g:Option (Nat × Bool)} {rest:List Oper} {L:St} {K:St→Prop} {f:FuncId} {xs:Array Operand} {ats:Array TypeId} {args:List LV} {r:LV} {ops:Array Oper} (b:Nat) {blk blk':Blk} (hg:bS ops L ⟨dst,.call ⟨.value (.func f),xs,ats⟩,ty,pos,af,g⟩ true)
  (hb:L.heap b=some blk) (hm:blk.mt=true) (hp:aV blk.vals=true) (ha:ArgML L.heap b (xs.toList.map L.ev) args) (hn:Names b (xs.toList.map L.ev)) (hk:fZ P f blk args r blk')
  (hm':blk'.mt=true) (hp':aV blk'.vals=true) (hr:r.pure=true) (k:opsL P false ops rest ((L.setB b (some blk')).put dst r) K) :
  opsL P false ops (⟨dst,.call ⟨.value (.func f),xs,ats⟩,ty,pos,af,g⟩ :: rest) L K :=
 iO b hg hb hm hp ha hn hk hm' hp' (by rw [LV.ren_pure _ _ hr];exact k)
end Go.Lg
end
