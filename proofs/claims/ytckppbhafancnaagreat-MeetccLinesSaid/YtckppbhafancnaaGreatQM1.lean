/- Texts LgE of this proof, joined. -/
import Derived.Orders
import Derived.Below
import Derived.Deep.MidRow
import Derived.Deep.AppendSrc
import Derived.Laws.MakeOwn
import Derived.WalkKit
import Derived.Laws.Externs
import Derived.Laws.BytesString
import Derived.Laws.Cells
set_option linter.unusedVariables false
set_option linter.unusedSimpArgs false
section
set_option linter.unusedVariables false
set_option linter.unusedSimpArgs false
namespace Go.Lg
inductive LV where
 | any
 | v (x:Value)
 | list (sz:Nat) (l:List LV)
 | agg (l:List LV)
 | ref (b sz off len:Nat)
 | eptr (b sz i o:Nat)
 | boxp (c:LV)
 | clo (f:FuncId) (cap:List LV)
 | tup (l:List LV)
instance:Inhabited LV:=⟨.any⟩
mutual
def LV.csize:LV→Nat
 | .agg l=>aL l
 | _=>1
def aL:List LV→Nat
 | []=>0
 | x :: xs=>x.csize+aL xs
end
def LV.isAgg:LV→Bool
 | .agg _=>true
 | _=>false
mutual
def LV.pure:LV→Bool
 | .ref ..=>false
 | .eptr ..=>false
 | .tup _=>false
 | .any=>false
 | .v _=>true
 | .list _ l=>aV l
 | .agg l=>aV l
 | .boxp c=>c.pure
 | .clo _ l=>aV l
def aV:List LV→Bool
 | []=>true
 | x :: xs=>x.pure && aV xs
end
theorem gV (l:List LV):aV l=true↔∀ x∈l,x.pure=true:=by
 induction l with
 | nil=>simp [aV]
 | cons x xs ih=>simp [aV,ih]
mutual
def bZ (Z:Nat→Prop) (μ:Nat→Option Nat) (w:World):LV→List Value→Prop
 | .any,cs=>∀ u∈cs,u.oneCell'=true
 | .v x,cs=>cs=[x]∧x.oneCell'=true
 | .list sz l,cs=>∃ a len cap,cs=[.slice a len cap]∧len=l.length∧len≤cap ∧
   (l=[]∨∃ blk off c T fz part rest,a=some ⟨blk,off,none⟩∧Z blk∧w.heap[blk]?=some (.cells c T fz) ∧
    c.toList.drop off=part++rest∧aM Z μ w sz l part)∧aV l=true
 | .agg l,cs=>bV Z μ w l cs
 | .ref b sz off len,cs=>(cs=[.slice none 0 0]∧len=0)∨∃ id cap c T fz,cs=[.slice (some ⟨id,off*sz,none⟩) len cap]∧μ b=some id∧len≤cap ∧
   w.heap[id]?=some (.cells c T fz)∧(off+cap)*sz≤c.size
 | .eptr b sz i o,cs=>∃ id,cs=[.pointer (some ⟨id,i*sz+o,none⟩)]∧μ b=some id
 | .boxp c,cs=>∃ blk off cc T fz part rest,cs=[.pointer (some ⟨blk,off,none⟩)]∧Z blk∧w.heap[blk]?=some (.cells cc T fz) ∧
   cc.toList.drop off=part++rest∧part.length=c.csize∧bZ Z μ w c part∧c.pure=true
 | .clo f cap,cs=>∃ vs,cs=[.func (.func f) #[] vs]∧aM Z μ w 1 cap vs.toList∧aV cap=true
 | .tup _,_=>False
def aM (Z:Nat→Prop) (μ:Nat→Option Nat) (w:World) (sz:Nat):List LV→List Value→Prop
 | [],cs=>cs=[]
 | x :: xs,cs=>∃ c1 c2,cs=c1++c2∧c1.length=sz∧bZ Z μ w x c1∧aM Z μ w sz xs c2
def bV (Z:Nat→Prop) (μ:Nat→Option Nat) (w:World):List LV→List Value→Prop
 | [],cs=>cs=[]
 | x :: xs,cs=>∃ c1 c2,cs=c1++c2∧c1.length=x.csize∧bZ Z μ w x c1∧bV Z μ w xs c2
end
def dW (Z:Nat→Prop) (μ:Nat→Option Nat) (w:World) (lv:LV) (v:Value):Prop :=
 (lv.isAgg=true→∃ cs,v=.agg cs∧bZ Z μ w lv cs.toList)∧(lv.isAgg=false→bZ Z μ w lv [v])
def dY (Z:Nat→Prop) (μ:Nat→Option Nat) (w:World):List LV→List Value→Prop
 | [],vs=>vs=[]
 | x :: xs,vs=>∃ v vs',vs=v :: vs'∧dW Z μ w x v∧dY Z μ w xs vs'
def bP (Z:Nat→Prop) (μ:Nat→Option Nat) (w:World):LV→Value→Prop
 | .tup l,v=>∃ vs,v=.tuple vs∧dY Z μ w l vs.toList
 | .any,_=>True
 | lv,v=>dW Z μ w lv v
structure Frame (Z:Nat→Prop) (μ:Nat→Option Nat) (w w':World):Prop where
 z:∀ id,Z id→w'.heap[id]?=w.heap[id]?
 m:∀ b id,μ b=some id→∀ c T fz,w.heap[id]?=some (.cells c T fz)→∃ c',w'.heap[id]?=some (.cells c' T fz)∧c'.size=c.size
theorem Frame.refl (Z:Nat→Prop) (μ:Nat→Option Nat) (w:World):Frame Z μ w w:=⟨fun _ _=>rfl,fun _ _ _ c _ _ h=>⟨c,h,rfl⟩⟩
section
variable {Z Z':Nat→Prop} {μ μ':Nat→Option Nat} {w w':World}
mutual
theorem bZ.mono (hz:∀ id,Z id→Z' id) (hm:∀ b id,μ b=some id→μ' b=some id) (hf:Frame Z μ w w') :
  ∀ (lv:LV) (cs:List Value),bZ Z μ w lv cs→bZ Z' μ' w' lv cs
 | .any,_,h=>by simpa [bZ] using h
 | .v x,cs,h=>by simpa [bZ] using h
 | .list sz l,cs,h=>by
   simp only [bZ] at h ⊢
   obtain⟨a,len,cap,h1,h2,h3,h4,h9⟩:=h
   refine⟨a,len,cap,h1,h2,h3,?_,h9⟩
   rcases h4 with h4 | ⟨blk,off,c,T,fz,part,rest,e1,e2,e3,e4,e5⟩
   ·exact .inl h4
   ·exact .inr ⟨blk,off,c,T,fz,part,rest,e1,hz _ e2,(hf.z _ e2).trans e3,e4,aM.mono hz hm hf sz l part e5⟩
 | .agg l,cs,h=>by
   simp only [bZ] at h ⊢
   exact bV.mono hz hm hf l cs h
 | .ref b sz off len,cs,h=>by
   simp only [bZ] at h ⊢
   rcases h with h | ⟨id,cap,c,T,fz,h1,h2,h3,h4,h5⟩
   ·exact .inl h
   obtain⟨c',h6,h7⟩:=hf.m b id h2 c T fz h4
   exact .inr ⟨id,cap,c',T,fz,h1,hm _ _ h2,h3,h6,by omega⟩
 | .eptr b sz i o,cs,h=>by
   simp only [bZ] at h ⊢
   obtain⟨id,h1,h2⟩:=h
   exact⟨id,h1,hm _ _ h2⟩
 | .boxp c,cs,h=>by
   simp only [bZ] at h ⊢
   obtain⟨blk,off,cc,T,fz,part,rest,h1,h2,h3,h4,h5,h6,h7⟩:=h
   exact⟨blk,off,cc,T,fz,part,rest,h1,hz _ h2,(hf.z _ h2).trans h3,h4,h5,bZ.mono hz hm hf c part h6,h7⟩
 | .clo f cap,cs,h=>by
   simp only [bZ] at h ⊢
   obtain⟨vs,h1,h2,h3⟩:=h
   exact⟨vs,h1,aM.mono hz hm hf 1 cap vs.toList h2,h3⟩
 | .tup _,_,h=>by simp [bZ] at h
theorem aM.mono (hz:∀ id,Z id→Z' id) (hm:∀ b id,μ b=some id→μ' b=some id) (hf:Frame Z μ w w') (sz:Nat) :
  ∀ (l:List LV) (cs:List Value),aM Z μ w sz l cs→aM Z' μ' w' sz l cs
 | [],cs,h=>by simpa [aM] using h
 | x :: xs,cs,h=>by
   simp only [aM] at h ⊢
   obtain⟨c1,c2,h1,h2,h3,h4⟩:=h
   exact⟨c1,c2,h1,h2,bZ.mono hz hm hf x c1 h3,aM.mono hz hm hf sz xs c2 h4⟩
theorem bV.mono (hz:∀ id,Z id→Z' id) (hm:∀ b id,μ b=some id→μ' b=some id) (hf:Frame Z μ w w') :
  ∀ (l:List LV) (cs:List Value),bV Z μ w l cs→bV Z' μ' w' l cs
 | [],cs,h=>by simpa [bV] using h
 | x :: xs,cs,h=>by
   simp only [bV] at h ⊢
   obtain⟨c1,c2,h1,h2,h3,h4⟩:=h
   exact⟨c1,c2,h1,h2,bZ.mono hz hm hf x c1 h3,bV.mono hz hm hf xs c2 h4⟩
end
theorem fX {x:LV} {xs:List LV} (h:aV (x :: xs)=true):x.pure=true∧aV xs=true:=by simpa [aV] using h
mutual
theorem bZ.repure (hz:∀ id,Z id→Z' id) (hf:∀ id,Z id→w'.heap[id]?=w.heap[id]?) :
  ∀ (lv:LV) (cs:List Value),lv.pure=true→bZ Z μ w lv cs→bZ Z' μ' w' lv cs
 | .any,_,_,h=>by simpa [bZ] using h
 | .v x,cs,_,h=>by simpa [bZ] using h
 | .list sz l,cs,hp,h=>by
   simp only [bZ] at h ⊢
   obtain⟨a,len,cap,h1,h2,h3,h4,h9⟩:=h
   refine⟨a,len,cap,h1,h2,h3,?_,h9⟩
   rcases h4 with h4 | ⟨blk,off,c,T,fz,part,rest,e1,e2,e3,e4,e5⟩
   ·exact .inl h4
   ·exact .inr ⟨blk,off,c,T,fz,part,rest,e1,hz _ e2,(hf _ e2).trans e3,e4,aM.repure hz hf sz l part (by simpa [LV.pure] using hp) e5⟩
 | .agg l,cs,hp,h=>by
   simp only [bZ] at h ⊢
   exact bV.repure hz hf l cs (by simpa [LV.pure] using hp) h
 | .ref b sz off len,cs,hp,_=>by simp [LV.pure] at hp
 | .eptr b sz i o,cs,hp,_=>by simp [LV.pure] at hp
 | .boxp c,cs,hp,h=>by
   simp only [bZ] at h ⊢
   obtain⟨blk,off,cc,T,fz,part,rest,h1,h2,h3,h4,h5,h6,h7⟩:=h
   exact⟨blk,off,cc,T,fz,part,rest,h1,hz _ h2,(hf _ h2).trans h3,h4,h5,bZ.repure hz hf c part (by simpa [LV.pure] using hp) h6,h7⟩
 | .clo f cap,cs,hp,h=>by
   simp only [bZ] at h ⊢
   obtain⟨vs,h1,h2,h3⟩:=h
   exact⟨vs,h1,aM.repure hz hf 1 cap vs.toList (by simpa [LV.pure] using hp) h2,h3⟩
 | .tup _,_,_,h=>by simp [bZ] at h
theorem aM.repure (hz:∀ id,Z id→Z' id) (hf:∀ id,Z id→w'.heap[id]?=w.heap[id]?) (sz:Nat) :
  ∀ (l:List LV) (cs:List Value),aV l=true→aM Z μ w sz l cs→aM Z' μ' w' sz l cs
 | [],cs,_,h=>by simpa [aM] using h
 | x :: xs,cs,hp,h=>by
   simp only [aM] at h ⊢
   obtain⟨c1,c2,h1,h2,h3,h4⟩:=h
   exact⟨c1,c2,h1,h2,bZ.repure hz hf x c1 (fX hp).1 h3,aM.repure hz hf sz xs c2 (fX hp).2 h4⟩
theorem bV.repure (hz:∀ id,Z id→Z' id) (hf:∀ id,Z id→w'.heap[id]?=w.heap[id]?) :
  ∀ (l:List LV) (cs:List Value),aV l=true→bV Z μ w l cs→bV Z' μ' w' l cs
 | [],cs,_,h=>by simpa [bV] using h
 | x :: xs,cs,hp,h=>by
   simp only [bV] at h ⊢
   obtain⟨c1,c2,h1,h2,h3,h4⟩:=h
   exact⟨c1,c2,h1,h2,bZ.repure hz hf x c1 (fX hp).1 h3,bV.repure hz hf xs c2 (fX hp).2 h4⟩
end
theorem dW.mono (hz:∀ id,Z id→Z' id) (hm:∀ b id,μ b=some id→μ' b=some id) (hf:Frame Z μ w w') {lv:LV} {v:Value}
  (h:dW Z μ w lv v):dW Z' μ' w' lv v :=
 ⟨fun e=>let ⟨cs,h1,h2⟩:=h.1 e;⟨cs,h1,bZ.mono hz hm hf _ _ h2⟩,fun e=>bZ.mono hz hm hf _ _ (h.2 e)⟩
theorem dY.mono (hz:∀ id,Z id→Z' id) (hm:∀ b id,μ b=some id→μ' b=some id) (hf:Frame Z μ w w') :
  ∀ (l:List LV) (vs:List Value),dY Z μ w l vs→dY Z' μ' w' l vs
 | [],_,h=>h
 | _ :: xs,_,⟨v,vs',h1,h2,h3⟩=>⟨v,vs',h1,h2.mono hz hm hf,dY.mono hz hm hf xs vs' h3⟩
theorem bP.mono (hz:∀ id,Z id→Z' id) (hm:∀ b id,μ b=some id→μ' b=some id) (hf:Frame Z μ w w') {lv:LV} {v:Value}
  (h:bP Z μ w lv v):bP Z' μ' w' lv v:=by
 cases lv with
 | tup l=>obtain⟨vs,h1,h2⟩:=h;exact⟨vs,h1,h2.mono hz hm hf⟩
 | any=>trivial
 | _=>exact dW.mono hz hm hf h
theorem dW.repure (hz:∀ id,Z id→Z' id) (hf:∀ id,Z id→w'.heap[id]?=w.heap[id]?) {lv:LV} {v:Value} (hp:lv.pure=true)
  (h:dW Z μ w lv v):dW Z' μ' w' lv v :=
 ⟨fun e=>let ⟨cs,h1,h2⟩:=h.1 e;⟨cs,h1,bZ.repure hz hf _ _ hp h2⟩,fun e=>bZ.repure hz hf _ _ hp (h.2 e)⟩
theorem bP.of1 {lv:LV} {v:Value} (hn:∀ l,lv≠.tup l) (h:dW Z μ w lv v):bP Z μ w lv v:=by
 cases lv with
 | tup l=>exact absurd rfl (hn l)
 | any=>trivial
 | _=>exact h
theorem bP.to1 {lv:LV} {v:Value} (hn:∀ l,lv≠.tup l) (ha:lv≠.any) (h:bP Z μ w lv v):dW Z μ w lv v:=by
 cases lv with
 | tup l=>exact absurd rfl (hn l)
 | any=>exact absurd rfl ha
 | _=>exact h
theorem LV.pure_ne_any {lv:LV} (hp:lv.pure=true):lv≠.any:=by
 rintro rfl;simp [LV.pure] at hp
theorem LV.pure_ne_tup {lv:LV} (hp:lv.pure=true):∀ l,lv≠.tup l:=by
 rintro l rfl;simp [LV.pure] at hp
theorem aM.length {sz:Nat}:∀ (l:List LV) (cs:List Value),aM Z μ w sz l cs→cs.length=l.length*sz
 | [],cs,h=>by simp only [aM] at h;simp [h]
 | x :: xs,cs,h=>by
   simp only [aM] at h
   obtain⟨c1,c2,rfl,h2,_,h4⟩:=h
   have:=aM.length xs c2 h4
   simp only [List.length_append,List.length_cons,Nat.add_mul,Nat.one_mul];omega
theorem bV.length:∀ (l:List LV) (cs:List Value),bV Z μ w l cs→cs.length=aL l
 | [],cs,h=>by simp only [bV] at h;simp [h,aL]
 | x :: xs,cs,h=>by
   simp only [bV] at h
   obtain⟨c1,c2,rfl,h2,_,h4⟩:=h
   have:=bV.length xs c2 h4
   simp only [List.length_append,aL];omega
theorem aM.get {sz:Nat}:∀ (l:List LV) (cs:List Value) (i:Nat) (x:LV),aM Z μ w sz l cs→l[i]?=some x →
  ∃ pre ch post,cs=pre++(ch++post)∧pre.length=i*sz∧ch.length=sz∧bZ Z μ w x ch ∧
   ∀ y ch',bZ Z μ w y ch'→ch'.length=sz→aM Z μ w sz (l.set i y) (pre++(ch'++post))
 | [],_,_,_,_,h=>by simp at h
 | a :: xs,cs,0,x,h,hi=>by
   simp only [aM] at h
   obtain⟨c1,c2,rfl,h2,h3,h4⟩:=h
   simp only [List.getElem?_cons_zero,Option.some.injEq] at hi
   subst hi
   exact⟨[],c1,c2,by simp,by simp,h2,h3,fun y ch' hy hl=>by simpa [aM] using ⟨ch',c2,rfl,hl,hy,h4⟩⟩
 | a :: xs,cs,i+1,x,h,hi=>by
   simp only [aM] at h
   obtain⟨c1,c2,rfl,h2,h3,h4⟩:=h
   obtain⟨pre,ch,post,rfl,e2,e3,e4,e5⟩:=aM.get xs c2 i x h4 (by simpa using hi)
   refine⟨c1++pre,ch,post,by simp,by simp [h2,e2,Nat.add_mul];omega,e3,e4,fun y ch' hy hl=>?_⟩
   have:=e5 y ch' hy hl
   simp only [List.set_cons_succ,aM]
   exact⟨c1,pre++(ch'++post),by simp,h2,h3,this⟩
theorem bV.get:∀ (l:List LV) (cs:List Value) (i:Nat) (x:LV),bV Z μ w l cs→l[i]?=some x →
  ∃ pre ch post,cs=pre++(ch++post)∧pre.length=aL (l.take i)∧ch.length=x.csize∧bZ Z μ w x ch ∧
   ∀ y ch',bZ Z μ w y ch'→ch'.length=y.csize→bV Z μ w (l.set i y) (pre++(ch'++post))
 | [],_,_,_,_,h=>by simp at h
 | a :: xs,cs,0,x,h,hi=>by
   simp only [bV] at h
   obtain⟨c1,c2,rfl,h2,h3,h4⟩:=h
   simp only [List.getElem?_cons_zero,Option.some.injEq] at hi
   subst hi
   exact⟨[],c1,c2,by simp,by simp [aL],h2,h3,fun y ch' hy hl=>by simpa [bV] using ⟨ch',c2,rfl,hl,hy,h4⟩⟩
 | a :: xs,cs,i+1,x,h,hi=>by
   simp only [bV] at h
   obtain⟨c1,c2,rfl,h2,h3,h4⟩:=h
   obtain⟨pre,ch,post,rfl,e2,e3,e4,e5⟩:=bV.get xs c2 i x h4 (by simpa using hi)
   refine⟨c1++pre,ch,post,by simp,by simp [h2,e2,aL],e3,e4,fun y ch' hy hl=>?_⟩
   have:=e5 y ch' hy hl
   simp only [List.set_cons_succ,bV]
   exact⟨c1,pre++(ch'++post),by simp,h2,h3,this⟩
theorem aM.append {sz:Nat}:∀ (l m:List LV) (cs ds:List Value),aM Z μ w sz l cs→aM Z μ w sz m ds→aM Z μ w sz (l++m) (cs++ds)
 | [],m,cs,ds,h,h'=>by simp only [aM] at h;simpa [h] using h'
 | x :: xs,m,cs,ds,h,h'=>by
   simp only [aM] at h
   obtain⟨c1,c2,rfl,h2,h3,h4⟩:=h
   have:=aM.append xs m c2 ds h4 h'
   simp only [List.cons_append,aM]
   exact⟨c1,c2++ds,by simp,h2,h3,this⟩
theorem aM.split {sz:Nat}:∀ (l m:List LV) (cs:List Value),aM Z μ w sz (l++m) cs→∃ c1 c2,cs=c1++c2∧aM Z μ w sz l c1∧aM Z μ w sz m c2
 | [],m,cs,h=>⟨[],cs,rfl,by simp [aM],h⟩
 | x :: xs,m,cs,h=>by
   simp only [List.cons_append,aM] at h
   obtain⟨c1,c2,rfl,h2,h3,h4⟩:=h
   obtain⟨d1,d2,rfl,e1,e2⟩:=aM.split xs m c2 h4
   exact⟨c1++d1,d2,by simp,by simpa [aM] using ⟨c1,d1,rfl,h2,h3,e1⟩,e2⟩
theorem aM.replicate {sz:Nat} {x:LV} {ch:List Value} (h:bZ Z μ w x ch) (hl:ch.length=sz):∀ n,aM Z μ w sz (List.replicate n x) (List.replicate n ch).flatten
 | 0=>by simp [aM]
 | n+1=>by
   simp only [List.replicate_succ,aM,List.flatten_cons]
   exact⟨ch,_,rfl,hl,h,aM.replicate h hl n⟩
end
mutual
def LV.at:LV→Nat→Nat→Bool→Option LV
 | .agg l,o,n,ag=>if o=0∧aL l=n∧ag=true then some (.agg l) else sJ l o n ag
 | .any,_,_,_=>none
 | x,o,n,ag=>if o=0∧n=1∧ag=false then some x else none
def sJ:List LV→Nat→Nat→Bool→Option LV
 | [],_,_,_=>none
 | x :: xs,o,n,ag=>if o<x.csize then x.at o n ag else sJ xs (o-x.csize) n ag
end
mutual
def LV.put:LV→Nat→LV→Option LV
 | .agg l,o,y=>if o=0∧aL l=y.csize∧y.isAgg=true then some y else(pO l o y).map .agg
 | _,o,y=>if o=0∧y.csize=1∧y.isAgg=false then some y else none
def pO:List LV→Nat→LV→Option (List LV)
 | [],_,_=>none
 | x :: xs,o,y=>if o<x.csize then(x.put o y).map (· :: xs) else(pO xs (o-x.csize) y).map (x :: ·)
end
section
variable {Z:Nat→Prop} {μ:Nat→Option Nat} {w:World}
mutual
theorem LV.at_spec:∀ (x:LV) (o n:Nat) (ag:Bool) (y:LV) (cs:List Value),x.at o n ag=some y→bZ Z μ w x cs→cs.length=x.csize →
  ∃ pre ch post,cs=pre++(ch++post)∧pre.length=o∧ch.length=n∧bZ Z μ w y ch∧y.isAgg=ag∧y.csize=n∧y≠.any∧∀ l,y≠.tup l
 | .agg l,o,n,ag,y,cs,h,hr,hl=>by
   simp only [LV.at] at h
   split at h
   ·rename_i hc
    obtain⟨rfl,h2,rfl⟩:=hc
    simp only [Option.some.injEq] at h;subst h
    exact⟨[],cs,[],by simp,rfl,by simpa [LV.csize,h2] using hl,hr,rfl,by simp [LV.csize,h2],by simp,by simp⟩
   ·exact xT l o n ag y cs h (by simpa [bZ] using hr)
 | .any,_,_,_,_,_,h,_,_=>by simp [LV.at] at h
 | .v x,o,n,ag,y,cs,h,hr,hl=>by
   simp only [LV.at] at h;split at h
   ·rename_i hc;obtain⟨rfl,rfl,rfl⟩:=hc;simp only [Option.some.injEq] at h;subst h
    exact⟨[],cs,[],by simp,rfl,by simpa [LV.csize] using hl,hr,rfl,rfl,by simp,by simp⟩
   ·simp at h
 | .list sz l,o,n,ag,y,cs,h,hr,hl=>by
   simp only [LV.at] at h;split at h
   ·rename_i hc;obtain⟨rfl,rfl,rfl⟩:=hc;simp only [Option.some.injEq] at h;subst h
    exact⟨[],cs,[],by simp,rfl,by simpa [LV.csize] using hl,hr,rfl,rfl,by simp,by simp⟩
   ·simp at h
 | .ref b sz off len,o,n,ag,y,cs,h,hr,hl=>by
   simp only [LV.at] at h;split at h
   ·rename_i hc;obtain⟨rfl,rfl,rfl⟩:=hc;simp only [Option.some.injEq] at h;subst h
    exact⟨[],cs,[],by simp,rfl,by simpa [LV.csize] using hl,hr,rfl,rfl,by simp,by simp⟩
   ·simp at h
 | .eptr b sz i o',o,n,ag,y,cs,h,hr,hl=>by
   simp only [LV.at] at h;split at h
   ·rename_i hc;obtain⟨rfl,rfl,rfl⟩:=hc;simp only [Option.some.injEq] at h;subst h
    exact⟨[],cs,[],by simp,rfl,by simpa [LV.csize] using hl,hr,rfl,rfl,by simp,by simp⟩
   ·simp at h
 | .boxp c,o,n,ag,y,cs,h,hr,hl=>by
   simp only [LV.at] at h;split at h
   ·rename_i hc;obtain⟨rfl,rfl,rfl⟩:=hc;simp only [Option.some.injEq] at h;subst h
    exact⟨[],cs,[],by simp,rfl,by simpa [LV.csize] using hl,hr,rfl,rfl,by simp,by simp⟩
   ·simp at h
 | .clo f cap,o,n,ag,y,cs,h,hr,hl=>by
   simp only [LV.at] at h;split at h
   ·rename_i hc;obtain⟨rfl,rfl,rfl⟩:=hc;simp only [Option.some.injEq] at h;subst h
    exact⟨[],cs,[],by simp,rfl,by simpa [LV.csize] using hl,hr,rfl,rfl,by simp,by simp⟩
   ·simp at h
 | .tup _,_,_,_,_,_,_,hr,_=>by simp [bZ] at hr
theorem xT:∀ (l:List LV) (o n:Nat) (ag:Bool) (y:LV) (cs:List Value),sJ l o n ag=some y→bV Z μ w l cs →
  ∃ pre ch post,cs=pre++(ch++post)∧pre.length=o∧ch.length=n∧bZ Z μ w y ch∧y.isAgg=ag∧y.csize=n∧y≠.any∧∀ l,y≠.tup l
 | [],_,_,_,_,_,h,_=>by simp [sJ] at h
 | x :: xs,o,n,ag,y,cs,h,hr=>by
   simp only [bV] at hr
   obtain⟨c1,c2,rfl,h2,h3,h4⟩:=hr
   simp only [sJ] at h
   split at h
   ·obtain⟨pre,ch,post,rfl,e2,e3,e4⟩:=LV.at_spec x o n ag y c1 h h3 h2
    exact⟨pre,ch,post++c2,by simp,e2,e3,e4⟩
   ·obtain⟨pre,ch,post,rfl,e2,e3,e4⟩:=xT xs (o-x.csize) n ag y c2 h h4
    exact⟨c1++pre,ch,post,by simp,by simp;omega,e3,e4⟩
end
mutual
theorem LV.put_spec (y:LV) (dh:List Value) (hy:bZ Z μ w y dh) (hd:dh.length=y.csize):∀ (x:LV) (o:Nat) (x':LV) (cs:List Value),x.put o y=some x' →
  bZ Z μ w x cs→cs.length=x.csize→∃ pre ch post,cs=pre++(ch++post)∧pre.length=o∧ch.length=dh.length∧bZ Z μ w x' (pre++(dh++post))∧x'.csize=x.csize
 | .agg l,o,x',cs,h,hr,hl=>by
   simp only [LV.put] at h
   split at h
   ·rename_i hc
    obtain⟨rfl,h2,_⟩:=hc
    simp only [Option.some.injEq] at h;subst h
    exact⟨[],cs,[],by simp,rfl,by rw [hl,hd];simp [LV.csize,h2],by simpa using hy,by simp [LV.csize,h2]⟩
   ·simp only [Option.map_eq_some_iff] at h
    obtain⟨l',h1,rfl⟩:=h
    obtain⟨pre,ch,post,e1,e2,e3,e4,e5⟩:=u3 y dh hy hd l o l' cs h1 (by simpa [bZ] using hr)
    exact⟨pre,ch,post,e1,e2,e3,by simpa [bZ] using e4,by simpa [LV.csize] using e5⟩
 | .any,o,x',cs,h,hr,hl=>by
   simp only [LV.put] at h;split at h
   ·rename_i hc;obtain⟨rfl,h2,_⟩:=hc;simp only [Option.some.injEq] at h;subst h
    exact⟨[],cs,[],by simp,rfl,by rw [hl,hd,h2];rfl,by simpa using hy,by rw [h2];rfl⟩
   ·simp at h
 | .v x,o,x',cs,h,hr,hl=>by
   simp only [LV.put] at h;split at h
   ·rename_i hc;obtain⟨rfl,h2,_⟩:=hc;simp only [Option.some.injEq] at h;subst h
    exact⟨[],cs,[],by simp,rfl,by rw [hl,hd,h2];rfl,by simpa using hy,by rw [h2];rfl⟩
   ·simp at h
 | .list sz l,o,x',cs,h,hr,hl=>by
   simp only [LV.put] at h;split at h
   ·rename_i hc;obtain⟨rfl,h2,_⟩:=hc;simp only [Option.some.injEq] at h;subst h
    exact⟨[],cs,[],by simp,rfl,by rw [hl,hd,h2];rfl,by simpa using hy,by rw [h2];rfl⟩
   ·simp at h
 | .ref b sz off len,o,x',cs,h,hr,hl=>by
   simp only [LV.put] at h;split at h
   ·rename_i hc;obtain⟨rfl,h2,_⟩:=hc;simp only [Option.some.injEq] at h;subst h
    exact⟨[],cs,[],by simp,rfl,by rw [hl,hd,h2];rfl,by simpa using hy,by rw [h2];rfl⟩
   ·simp at h
 | .eptr b sz i o',o,x',cs,h,hr,hl=>by
   simp only [LV.put] at h;split at h
   ·rename_i hc;obtain⟨rfl,h2,_⟩:=hc;simp only [Option.some.injEq] at h;subst h
    exact⟨[],cs,[],by simp,rfl,by rw [hl,hd,h2];rfl,by simpa using hy,by rw [h2];rfl⟩
   ·simp at h
 | .boxp c,o,x',cs,h,hr,hl=>by
   simp only [LV.put] at h;split at h
   ·rename_i hc;obtain⟨rfl,h2,_⟩:=hc;simp only [Option.some.injEq] at h;subst h
    exact⟨[],cs,[],by simp,rfl,by rw [hl,hd,h2];rfl,by simpa using hy,by rw [h2];rfl⟩
   ·simp at h
 | .clo f cap,o,x',cs,h,hr,hl=>by
   simp only [LV.put] at h;split at h
   ·rename_i hc;obtain⟨rfl,h2,_⟩:=hc;simp only [Option.some.injEq] at h;subst h
    exact⟨[],cs,[],by simp,rfl,by rw [hl,hd,h2];rfl,by simpa using hy,by rw [h2];rfl⟩
   ·simp at h
 | .tup _,_,_,_,_,hr,_=>by simp [bZ] at hr
theorem u3 (y:LV) (dh:List Value) (hy:bZ Z μ w y dh) (hd:dh.length=y.csize):∀ (l:List LV) (o:Nat) (l':List LV) (cs:List Value),pO l o y=some l' →
  bV Z μ w l cs→∃ pre ch post,cs=pre++(ch++post)∧pre.length=o∧ch.length=dh.length∧bV Z μ w l' (pre++(dh++post))∧aL l'=aL l
 | [],_,_,_,h,_=>by simp [pO] at h
 | x :: xs,o,l',cs,h,hr=>by
   simp only [bV] at hr
   obtain⟨c1,c2,rfl,h2,h3,h4⟩:=hr
   simp only [pO] at h
   split at h
   ·simp only [Option.map_eq_some_iff] at h
    obtain⟨x',h1,rfl⟩:=h
    obtain⟨pre,ch,post,rfl,e2,e3,e4,e5⟩:=LV.put_spec y dh hy hd x o x' c1 h1 h3 h2
    refine⟨pre,ch,post++c2,by simp,e2,e3,?_,by simp [aL,e5]⟩
    simp only [bV]
    exact⟨pre++(dh++post),c2,by simp,by simp at h2 ⊢;omega,e4,h4⟩
   ·simp only [Option.map_eq_some_iff] at h
    obtain⟨xs',h1,rfl⟩:=h
    obtain⟨pre,ch,post,rfl,e2,e3,e4,e5⟩:=u3 y dh hy hd xs (o-x.csize) xs' c2 h1 h4
    refine⟨c1++pre,ch,post,by simp,by simp;omega,e3,?_,by simp [aL,e5]⟩
    simp only [bV]
    exact⟨c1,pre++(dh++post),by simp,h2,h3,e4⟩
end
theorem LV.csize_one {x:LV} (h:x.isAgg=false):x.csize=1:=by cases x<;>simp_all [LV.isAgg,LV.csize]
mutual
theorem bZ.one:∀ (lv:LV) (cs:List Value),bZ Z μ w lv cs→∀ u∈cs,u.oneCell'=true
 | .any,_,h=>by simpa [bZ] using h
 | .v x,cs,h=>by simp only [bZ] at h;obtain⟨rfl,h⟩:=h;simpa using h
 | .list sz l,cs,h=>by simp only [bZ] at h;obtain⟨a,len,cap,rfl,_⟩:=h;simp [Value.oneCell']
 | .agg l,cs,h=>by simp only [bZ] at h;exact bV.one l cs h
 | .ref b sz off len,cs,h=>by simp only [bZ] at h;rcases h with⟨rfl,_⟩ | ⟨id,cap,c,T,fz,rfl,_⟩<;>simp [Value.oneCell']
 | .eptr b sz i o,cs,h=>by simp only [bZ] at h;obtain⟨id,rfl,_⟩:=h;simp [Value.oneCell']
 | .boxp c,cs,h=>by simp only [bZ] at h;obtain⟨blk,off,cc,T,fz,part,rest,rfl,_⟩:=h;simp [Value.oneCell']
 | .clo f cap,cs,h=>by simp only [bZ] at h;obtain⟨vs,rfl,_⟩:=h;simp [Value.oneCell']
 | .tup _,_,h=>by simp [bZ] at h
theorem bV.one:∀ (l:List LV) (cs:List Value),bV Z μ w l cs→∀ u∈cs,u.oneCell'=true
 | [],cs,h=>by simp only [bV] at h;simp [h]
 | x :: xs,cs,h=>by
   simp only [bV] at h
   obtain⟨c1,c2,rfl,h2,h3,h4⟩:=h
   intro u hu
   rcases List.mem_append.1 hu with hu | hu
   ·exact bZ.one x c1 h3 u hu
   ·exact bV.one xs c2 h4 u hu
end
theorem bZ.len {lv:LV} {cs:List Value} (h:bZ Z μ w lv cs) (hne:lv≠.any):cs.length=lv.csize:=by
 cases lv with
 | any=>exact absurd rfl hne
 | agg l=>simp only [bZ] at h;exact bV.length l cs h
 | v x=>simp only [bZ] at h;simp [h.1,LV.csize]
 | list sz l=>simp only [bZ] at h;obtain⟨a,len,cap,rfl,_⟩:=h;rfl
 | ref b sz off len=>simp only [bZ] at h;rcases h with⟨rfl,_⟩ | ⟨id,cap,c,T,fz,rfl,_⟩<;>rfl
 | eptr b sz i o=>simp only [bZ] at h;obtain⟨id,rfl,_⟩:=h;rfl
 | boxp c=>simp only [bZ] at h;obtain⟨blk,off,cc,T,fz,part,rest,rfl,_⟩:=h;rfl
 | clo f cap=>simp only [bZ] at h;obtain⟨vs,rfl,_⟩:=h;rfl
 | tup l=>simp [bZ] at h
theorem dW.cells {lv:LV} {v:Value} (h:dW Z μ w lv v) (hne:lv≠.any):bZ Z μ w lv v.cells.toList∧v.cells.size=lv.csize ∧
  (∀ u∈v.cells.toList,u.oneCell'=true)∧((lv.isAgg=true∧v=.agg v.cells)∨(lv.isAgg=false∧v.cells=#[v]∧v.oneCell'=true)):=by
 cases ha:lv.isAgg with
 | true =>
  obtain⟨cs,rfl,h2⟩:=h.1 ha
  refine⟨h2,?_,bZ.one _ _ h2,.inl ⟨rfl,rfl⟩⟩
  have:=bZ.len h2 hne
  simpa [Value.cells] using this
 | false =>
  have h2:=h.2 ha
  have h3:=bZ.one _ _ h2 v (by simp)
  have hc:v.cells=#[v]:=by cases v<;>simp_all [Value.cells,Value.oneCell']
  rw [hc]
  exact⟨h2,by simp [LV.csize_one ha],by simpa using h3,.inr ⟨rfl,rfl,h3⟩⟩
theorem dW.mk_cells {lv:LV} {cs:List Value} (h:bZ Z μ w lv cs) (hne:lv≠.any):dW Z μ w lv (if lv.isAgg then .agg cs.toArray else cs.headD default):=by
 refine⟨fun e=>⟨cs.toArray,by simp [e],h⟩,fun e=>?_⟩
 have hl:=bZ.len h hne
 rw [LV.csize_one e] at hl
 match cs,hl with
 | [x],_=>simpa [e] using h
end
end Go.Lg
namespace Go.Lg
structure Blk where
 sz:Nat
 vals:List LV
 mt:Bool
abbrev cM:=Nat→Option Blk
structure XS where
 x:Nat→Prop
 y:Nat→Prop
def XS.any (X:XS) (id:Nat):Prop:=X.x id∨X.y id
instance:CoeFun XS (fun _=>Nat→Prop):=⟨XS.any⟩
def XS.no:XS:=⟨fun _=>False,fun _=>False⟩
def XS.one (i0:Nat):XS:=⟨fun k=>k=i0,fun _=>False⟩
theorem XS.no_any {id:Nat}:¬ XS.no.any id:=fun h=>h.elim (fun e=>e) (fun e=>e)
theorem XS.one_any {i0 id:Nat} (h:(XS.one i0).any id):id=i0:=h.elim (fun e=>e) False.elim
structure Kept (X:XS) (W w:World):Prop where
 os:w.os=W.os
 tape:w.tape=W.tape
 output:w.output=W.output
 size:W.heap.size≤w.heap.size
 block:∀ k,k<W.heap.size→¬ X k→w.heap[k]?=W.heap[k]?
 xsz:∀ k,X k→∀ c T fz,W.heap[k]?=some (.cells c T fz)→∃ c',w.heap[k]?=some (.cells c' T fz)∧c'.size=c.size
theorem Kept.refl (X:XS) (W:World):Kept X W W:=⟨rfl,rfl,rfl,Nat.le_refl _,fun _ _ _=>rfl,fun _ _ c _ _ h=>⟨c,h,rfl⟩⟩
theorem Kept.below {W w:World} (h:Kept XS.no W w):RowKit.Below W.heap.size W w :=
 ⟨h.os,h.tape,h.output,h.size,fun k hk=>h.block k hk XS.no_any⟩
def kB (Z:Nat→Prop) (μ:Nat→Option Nat) (w:World) (blk:Blk) (id:Nat):Prop :=
 ∃ c T part rest,w.heap[id]?=some (.cells c T (0,0))∧c.toList=part++rest∧aM Z μ w blk.sz blk.vals part
structure Core (W:World) (X:XS) (Z0:Nat→Prop) (μ:Nat→Option Nat) (Z:Nat→Prop) (H:cM) (w:World):Prop where
 keep:Kept X W w
 zone:∀ id,Z id→id<w.heap.size
 zsup:∀ id,Z0 id→Z id
 zsub:∀ id,Z id→Z0 id∨W.heap.size≤id∨X.y id
 inj:∀ b b' id,μ b=some id→μ b'=some id→b=b'
 own:∀ b id,μ b=some id→W.heap.size≤id∨X id
 x0:∀ b id,μ b=some id→X.x id→b=0
 xlt:∀ id,X id→id<W.heap.size
 x1:∀ id,X.x id→μ 0=some id
 mutz:∀ b id blk,μ b=some id→H b=some blk→blk.mt=true→¬ Z id
 frz:∀ b id blk,μ b=some id→H b=some blk→blk.mt=false→Z id
 heap:∀ b id,μ b=some id→∃ blk,H b=some blk∧kB Z μ w blk id
def bT (P:Program) (T:TypeId) (n:Nat) (ag:Bool):Prop :=
 (P.info? T).map (·.size)=some n∧∃ d,P.underlying T=some d∧d.isRow=ag
def kR (P:Program):Nat→List Field→List (Nat × Bool)→Prop
 | _,[],[]=>True
 | off,f :: fs,(n,ag) :: r=>f.offset=off∧bT P f.type n ag∧kR P (off+n) fs r
 | _,_,_=>False
def cT (P:Program) (T:TypeId) (lay:List (Nat × Bool)):Prop :=
 ∃ fields,P.underlying T=some (.struct fields)∧kR P 0 fields.toList lay∧∀ n∈lay,0<n.1
def lay (x:LV):Nat × Bool:=(x.csize,x.isAgg)
section
variable {P:Program} {Z:Nat→Prop} {μ:Nat→Option Nat} {w:World}
theorem rL {blk off:Nat} {c:Array Value} {T:TypeId} {fz:Nat × Nat} {part rest:List Value}
  (h:w.heap[blk]?=some (.cells c T fz)) (hd:c.toList.drop off=part++rest):w.rangeAt blk off part:=by
 intro j v hj
 rw [cell_of_row w blk (off+j) c T fz h]
 have h1:(c.toList.drop off)[j]?=some v:=by
  rw [hd,List.getElem?_append_left (List.getElem?_eq_some_iff.1 hj).1];exact hj
 rw [List.getElem?_drop] at h1
 simpa using h1
theorem v9 {T:TypeId} {y:LV} {blk off:Nat} {c:Array Value} {U:TypeId} {fz:Nat × Nat} {part rest:List Value}
  (ht:bT P T y.csize y.isAgg) (h:w.heap[blk]?=some (.cells c U fz)) (hd:c.toList.drop off=part++rest)
  (hy:bZ Z μ w y part) (hne:y≠.any) :
  ∃ v,(Instr.loadAt T (.pointer (some ⟨blk,off,none⟩))).run P w=.ok v w∧dW Z μ w y v:=by
 have hr:=rL h hd
 have hl:=bZ.len hy hne
 obtain⟨hi,d,hu,hdr⟩:=ht
 refine⟨_,?_,dW.mk_cells hy hne⟩
 cases ha:y.isAgg with
 | true =>
  have:=run_loadAt_mid (P:=P) w blk off T part d hr hu (by rw [hdr,ha]) (by rw [hi,hl])
  simpa using this
 | false =>
  rw [LV.csize_one ha] at hl
  match part,hl,hr with
  | [x],_,hr =>
   have hx:=hr 0 x rfl
   have hag:(isAgg T).run P w=.ok false w:=by
    unfold isAgg
    rw [Sem.run_bind,run_underlying hu w]
    rw [ha] at hdr
    cases d<;>simp_all [TypeDesc.isRow]
   simp [Instr.loadAt,Instr.sureAddr,loadVar,Sem.run_bind,hag,Nat.add_zero] at hx ⊢
   simp [hx]
theorem xQ:∀ (fs:List Field) (ls:List LV) (off k:Nat) (f:Field) (x:LV),kR P off fs (ls.map lay)→fs[k]?=some f→ls[k]?=some x →
  f.offset=off+aL (ls.take k)∧bT P f.type x.csize x.isAgg
 | [],_,_,_,_,_,_,h,_=>by simp at h
 | _ :: _,[],_,_,_,_,_,_,h=>by simp at h
 | f :: fs,y :: ys,off,0,g,x,h,h1,h2=>by
   simp only [List.map_cons,lay,kR] at h
   simp only [List.getElem?_cons_zero,Option.some.injEq] at h1 h2
   subst h1 h2
   exact⟨by simp [aL,h.1],h.2.1⟩
 | f :: fs,y :: ys,off,k+1,g,x,h,h1,h2=>by
   simp only [List.map_cons,lay,kR] at h
   have:=xQ fs ys (off+y.csize) k g x h.2.2 (by simpa using h1) (by simpa using h2)
   refine⟨?_,this.2⟩
   rw [this.1];simp [aL];omega
theorem nD:∀ (fs:List Field) (ls:List (Nat × Bool)) (off:Nat),kR P off fs ls→fs.length=ls.length
 | [],[],_,_=>rfl
 | [],_ :: _,_,h=>by simp [kR] at h
 | _ :: _,[],_,h=>by simp [kR] at h
 | f :: fs,(n,ag) :: r,off,h=>by
   simp only [kR] at h
   simp [nD fs r _ h.2.2]
theorem aDM {T:TypeId} {n:Nat} {ag:Bool} (ht:bT P T n ag):(isAgg T).run P w=.ok ag w:=by
 obtain⟨hi,d,hd,rfl⟩:=ht
 unfold isAgg
 rw [Sem.run_bind,run_underlying hd w]
 cases d<;>simp [TypeDesc.isRow]
theorem dV {T:TypeId} {n:Nat} {ag:Bool} (ht:bT P T n ag):(sizeOf T).run P w=.ok n w:=by
 obtain⟨hi,_⟩:=ht
 cases hq:P.info? T with
 | none=>simp [hq] at hi
 | some i =>
  simp only [hq,Option.map_some,Option.some.injEq] at hi
  subst hi
  simp [sizeOf,typeInfo,hq]
theorem vI {T:TypeId} {x:LV} (ht:bT P T x.csize x.isAgg) {cs:Array Value} {pre ch post:List Value} (e1:cs.toList=pre++(ch++post))
  (h:bZ Z μ w x ch) (hne:x≠.any):∃ u,(part T cs pre.length).run P w=.ok u w∧dW Z μ w x u:=by
 have e3:=bZ.len h hne
 have hcs:cs=(pre++(ch++post)).toArray:=by apply Array.ext';simp [e1]
 refine⟨_,?_,dW.mk_cells h hne⟩
 unfold part
 rw [Sem.run_bind,aDM ht]
 cases ha:x.isAgg with
 | true =>
  simp only [Result.andThen_ok,if_true,Sem.run_bind,dV ht,Sem.run_pure]
  congr 2
  apply Array.ext'
  rw [hcs,←e3]
  simp
 | false =>
  rw [LV.csize_one ha] at e3
  match ch,e3 with
  | [y],_ =>
   have:cs[pre.length]?=some y:=by rw [hcs];simp
   simp [this]
theorem aAt {T:TypeId} {fs:List LV} {k:Nat} {x:LV} {v:Value} (ht:cT P T (fs.map lay)) (hx:fs[k]?=some x) (hne:x≠.any)
  (h:dW Z μ w (.agg fs) v):∃ u,(Instr.field T v k).run P w=.ok u w∧dW Z μ w x u:=by
 obtain⟨fields,hu,hl,_⟩:=ht
 obtain⟨cs,rfl,hc⟩:=h.1 rfl
 simp only [bZ] at hc
 obtain⟨pre,ch,post,e1,e2,e3,e4,_⟩:=bV.get fs cs.toList k x hc hx
 have hk:k<fields.toList.length:=by
  rw [nD _ _ _ hl,List.length_map];exact(List.getElem?_eq_some_iff.1 hx).1
 obtain⟨f,hfk⟩:∃ f,fields.toList[k]?=some f:=⟨_,List.getElem?_eq_getElem hk⟩
 obtain⟨g1,hty⟩:=xQ fields.toList fs 0 k f x hl hfk hx
 have hfk':fields[k]?=some f:=by rw [←Array.getElem?_toList];exact hfk
 obtain⟨u,hu2,hu3⟩:=vI (T:=f.type) hty e1 e4 hne
 refine⟨u,?_,hu3⟩
 have:f.offset=pre.length:=by omega
 simp only [Instr.field,Sem.run_bind,run_underlying hu,Result.andThen_ok,hfk',asAgg,Sem.run_pure,this,hu2]
def mB:List (Nat × Bool)→Nat
 | []=>0
 | x :: xs=>x.1+mB xs
theorem rK:∀ (fs:List LV) (k:Nat),mB ((fs.map lay).take k)=aL (fs.take k)
 | [],k=>by simp [mB,aL]
 | x :: xs,0=>by simp [mB,aL]
 | x :: xs,k+1=>by simp [mB,aL,lay,←rK xs k]
theorem uY:∀ (fs:List Field) (ls:List (Nat × Bool)) (off k:Nat) (f:Field) (x:Nat × Bool),kR P off fs ls→fs[k]?=some f→ls[k]?=some x →
  f.offset=off+mB (ls.take k)∧bT P f.type x.1 x.2
 | [],_,_,_,_,_,_,h,_=>by simp at h
 | _ :: _,[],_,_,_,_,_,_,h=>by simp at h
 | f :: fs,(n,ag) :: ys,off,0,g,x,h,h1,h2=>by
   simp only [kR] at h
   simp only [List.getElem?_cons_zero,Option.some.injEq] at h1 h2
   subst h1 h2
   exact⟨by simp [mB,h.1],h.2.1⟩
 | f :: fs,(n,ag) :: ys,off,k+1,g,x,h,h1,h2=>by
   simp only [kR] at h
   have:=uY fs ys (off+n) k g x h.2.2 (by simpa using h1) (by simpa using h2)
   refine⟨?_,this.2⟩
   rw [this.1];simp [mB];omega
theorem tC {T:TypeId} {ls:List (Nat × Bool)} {k:Nat} (ht:cT P T ls) (hk':k<ls.length) (b o:Nat) :
  (Instr.fieldAt T (.pointer (some ⟨b,o,none⟩)) k).run P w=.ok (.pointer (some ⟨b,o+mB (ls.take k),none⟩)) w:=by
 obtain⟨fields,hu,hl,hpos⟩:=ht
 have hk:k<fields.toList.length:=by rw [nD _ _ _ hl];exact hk'
 obtain⟨f,hfk⟩:∃ f,fields.toList[k]?=some f:=⟨_,List.getElem?_eq_getElem hk⟩
 have hx:ls[k]?=some ls[k]:=List.getElem?_eq_getElem hk'
 obtain⟨g1,hty⟩:=uY fields.toList ls 0 k f _ hl hfk hx
 have hfk':fields[k]?=some f:=by rw [←Array.getElem?_toList];exact hfk
 have hp:0<ls[k].1:=hpos _ (List.mem_of_getElem? hx)
 have hne:¬ ls[k].1=0:=by omega
 simp only [Instr.fieldAt,Sem.run_bind,run_underlying hu,Result.andThen_ok,hfk',Instr.sureAddr,Sem.run_pure,fieldPlace,dV hty,Sem.run_ite,if_neg hne,g1,Nat.zero_add,Addr.add_mid]
end
end Go.Lg
namespace Go.Lg
def dU (op:BinOp) (k:IntKind) (a b:Int):Option Value :=
 match op with
 | .add=>some (.int k (k.wrap (a+b)))
 | .sub=>some (.int k (k.wrap (a-b)))
 | .mul=>some (.int k (k.wrap (a*b)))
 | .quo=>if b=0 then none else some (.int k (k.wrap (a.tdiv b)))
 | .rem=>if b=0 then none else some (.int k (a.tmod b))
 | .and=>some (.int k (k.wrap (BitVec.ofInt k.bits a &&& BitVec.ofInt k.bits b).toNat))
 | .or=>some (.int k (k.wrap (BitVec.ofInt k.bits a ||| BitVec.ofInt k.bits b).toNat))
 | .eql=>some (.bool (a==b))
 | .neq=>some (.bool (a != b))
 | .lss=>some (.bool (a<b))
 | .leq=>some (.bool (a≤b))
 | .gtr=>some (.bool (a > b))
 | .geq=>some (.bool (a≥b))
 | _=>none
def shI (op:BinOp) (k:IntKind) (a b:Int):Option Value :=
 if b<0 then none else
 match op with
 | .shl=>some (.int k (k.wrap (a*2 ^ min b.toNat k.bits)))
 | .shr=>some (.int k (a.fdiv (2 ^ min b.toNat k.bits)))
 | _=>none
def bA (P:Program) (T:TypeId) (z:LV):Prop :=
 ∃ i zv,P.info? T=some i∧i.zero=some zv∧z.pure=true∧∀ (Z:Nat→Prop) (μ:Nat→Option Nat) (w:World),bZ Z μ w z zv.cells.toList
def eN (zs:List LV) (ps:List (Nat × LV)):List LV:=ps.foldl (fun acc p=>acc.set p.1 p.2) zs
inductive OpP (P:Program) (H:cM) (ρ:Operand→LV):Op→LV→Prop
 | move (x):OpP P H ρ (.move x) (ρ x)
 | assign (x):OpP P H ρ (.assign x) (ρ x)
 | pick {c x y t} (h:ρ c=.v (.bool t)):OpP P H ρ (.pick c x y) (if t then ρ x else ρ y)
 | bin {op T x y U k a b r} (hx:ρ x=.v (.int k a)) (hy:ρ y=.v (.int k b)) (h:dU op k a b=some r):OpP P H ρ (.binOp op T x y U) (.v r)
 | sh {op T x y U k k' a b r} (hx:ρ x=.v (.int k a)) (hy:ρ y=.v (.int k' b)) (h:shI op k a b=some r):OpP P H ρ (.binOp op T x y U) (.v r)
 | beq {T x y U a b} (hx:ρ x=.v (.bool a)) (hy:ρ y=.v (.bool b)) (hT:P.underlying T=some .bool):OpP P H ρ (.binOp .eql T x y U) (.v (.bool (a==b)))
 | bne {T x y U a b} (hx:ρ x=.v (.bool a)) (hy:ρ y=.v (.bool b)) (hT:P.underlying T=some .bool):OpP P H ρ (.binOp .neq T x y U) (.v (.bool (!(a==b))))
 | not {T x a} (hx:ρ x=.v (.bool a)):OpP P H ρ (.unOp .not T x) (.v (.bool !a))
 | neg {T x k a} (hx:ρ x=.v (.int k a)):OpP P H ρ (.unOp .neg T x) (.v (.int k (k.wrap (0-a))))
 | conv {S D x k k' n d} (hS:P.underlying S=some d) (hD:P.underlying D=some (.int k)) (hx:ρ x=.v (.int k' n)):OpP P H ρ (.convert S D x) (.v (.int k (k.wrap n)))
 | extract {t i l r} (ht:ρ t=.tup l) (hr:l[i]?=some r) (hne:∀ m,r≠.tup m):OpP P H ρ (.extract t i) r
 | field {T x k fs r} (hx:ρ x=.agg fs) (hT:cT P T (fs.map lay)) (hr:fs[k]?=some r) (hne:r.pure=true):OpP P H ρ (.field T x k) r
 | fieldAddrB {T p k fs r} (hp:ρ p=.boxp (.agg fs)) (hT:cT P T (fs.map lay)) (hr:fs[k]?=some r):OpP P H ρ (.fieldAddr T p k) (.boxp r)
 | fieldAddrE {T p k b sz i o ls} (hp:ρ p=.eptr b sz i o) (hT:cT P T ls) (hk:k<ls.length):OpP P H ρ (.fieldAddr T p k) (.eptr b sz i (o+mB (ls.take k)))
 | loadB {T p c} (hp:ρ p=.boxp c) (hT:bT P T c.csize c.isAgg) (hc:c.pure=true):OpP P H ρ (.load T p) c
 | loadE {T p b sz i o blk x r n ag} (hp:ρ p=.eptr b sz i o) (hb:H b=some blk) (hs:blk.sz=sz) (hi:blk.vals[i]?=some x) (hx:x.csize=sz) (hr:x.at o n ag=some r)
   (hT:bT P T n ag):OpP P H ρ (.load T p) r
 | nilChkE {x b sz i o} (hx:ρ x=.eptr b sz i o):OpP P H ρ (.nilCheck x) (.eptr b sz i o)
 | idxA {T E x i n fs k m r sz ag} (hx:ρ x=.agg fs) (hT:P.underlying T=some (.array n E)) (hE:bT P E sz ag) (hf:fs.map lay=List.replicate n (sz,ag)) (hi:ρ i=.v (.int k m)) (h0:0≤m)
   (hr:fs[m.toNat]?=some r) (hp:r.pure=true):OpP P H ρ (.index T x i) r
 | idxAE {T E x j n b sz i o k m es ag} (hx:ρ x=.eptr b sz i o) (hT:P.underlying T=some (.array n E)) (hE:bT P E es ag) (hi:ρ j=.v (.int k m)) (h0:0≤m) (hm:m<n) :
   OpP P H ρ (.indexAddr T x j) (.eptr b sz i (o+m.toNat*es))
 | idxAB {T E x i n fs k m r sz ag} (hx:ρ x=.boxp (.agg fs)) (hT:P.underlying T=some (.array n E)) (hE:bT P E sz ag) (hf:fs.map lay=List.replicate n (sz,ag)) (hi:ρ i=.v (.int k m)) (h0:0≤m)
   (hr:fs[m.toNat]?=some r):OpP P H ρ (.indexAddr T x i) (.boxp r)
 | buildA {T E zs ps n sz ag} (hT:P.underlying T=some (.array n E)) (hE:bT P E sz ag) (hf:∀ z∈zs,lay z=(sz,ag)) (hz:bA P T (.agg zs))
   (hp:∀ p∈ps.toList,∃ z,zs[p.1]?=some z∧lay (ρ p.2)=lay z∧ρ p.2≠.any∧∀ m,ρ p.2≠.tup m) :
   OpP P H ρ (.build T ps) (.agg (eN zs (ps.toList.map fun p=>(p.1,ρ p.2))))
 | nilChkB {x c} (hx:ρ x=.boxp c):OpP P H ρ (.nilCheck x) (.boxp c)
 | idxL {T E x i sz l k n r ag} (hx:ρ x=.list sz l) (hT:P.underlying T=some (.slice E)) (hE:bT P E sz ag) (hi:ρ i=.v (.int k n)) (h0:0≤n)
   (hr:l[n.toNat]?=some r) (hc:r.csize=sz):OpP P H ρ (.indexAddr T x i) (.boxp r)
 | idxR {T E x i b sz off len k n ag} (hx:ρ x=.ref b sz off len) (hT:P.underlying T=some (.slice E)) (hE:bT P E sz ag) (hi:ρ i=.v (.int k n)) (h0:0≤n)
   (hn:n<len):OpP P H ρ (.indexAddr T x i) (.eptr b sz (off+n.toNat) 0)
 | sliceL {T E x sz ag l a h la ha} (hx:ρ x=.list sz l) (hT:P.underlying T=some (.slice E)) (hE:bT P E sz ag) (hlo:∀ y,la=some y→∃ k,ρ y=.v (.int k (a:Nat)))
   (hlo0:la=none→a=0) (hhi:∀ y,ha=some y→∃ k,ρ y=.v (.int k (h:Nat))) (hhi0:ha=none→h=l.length) (h1:a≤h) (h2:h≤l.length) :
   OpP P H ρ (.slice T x la ha none) (.list sz ((l.take h).drop a))
 | sliceR {T E x b sz off len ag a h la ha} (hx:ρ x=.ref b sz off len) (hT:P.underlying T=some (.slice E)) (hE:bT P E sz ag) (hlo:∀ y,la=some y→∃ k,ρ y=.v (.int k (a:Nat)))
   (hlo0:la=none→a=0) (hhi:∀ y,ha=some y→∃ k,ρ y=.v (.int k (h:Nat))) (hhi0:ha=none→h=len) (h1:a≤h) (h2:h≤len) (hpos:a<len) :
   OpP P H ρ (.slice T x la ha none) (.ref b sz (off+a) (h-a))
 | sliceR3 {T E x b sz off len ag a h mx la z zm k k'} (hx:ρ x=.ref b sz off len) (hT:P.underlying T=some (.slice E)) (hE:bT P E sz ag) (hlo:∀ y,la=some y→∃ k,ρ y=.v (.int k (a:Nat)))
   (hlo0:la=none→a=0) (hhi:ρ z=.v (.int k (h:Nat))) (hmx:ρ zm=.v (.int k' (mx:Nat))) (h1:a≤h) (h2:h≤mx) (h3:mx≤len) (hpos:a<mx) :
   OpP P H ρ (.slice T x la (some z) (some zm)) (.ref b sz (off+a) (h-a))
 | lenL {T x sz l d as} (hx:ρ x=.list sz l) (has:as=#[T]) (hT:P.underlying T=some (.slice d)):OpP P H ρ (.call ⟨.builtin .len,#[x],as⟩) (.v (.int .i64 (l.length:Nat)))
 | lenR {T x b sz off len d as} (hx:ρ x=.ref b sz off len) (has:as=#[T]) (hT:P.underlying T=some (.slice d)):OpP P H ρ (.call ⟨.builtin .len,#[x],as⟩) (.v (.int .i64 (len:Nat)))
 | lenN {T x d as} (hx:ρ x=.v (.slice none 0 0)) (has:as=#[T]) (hT:P.underlying T=some (.slice d)):OpP P H ρ (.call ⟨.builtin .len,#[x],as⟩) (.v (.int .i64 (0:Nat)))
 | capN {T x d as} (hx:ρ x=.v (.slice none 0 0)) (has:as=#[T]) (hT:P.underlying T=some (.slice d)):OpP P H ρ (.call ⟨.builtin .cap,#[x],as⟩) (.v (.int .i64 (0:Nat)))
 | sliceN {T E x ha k sz ag} (hx:ρ x=.v (.slice none 0 0)) (hT:P.underlying T=some (.slice E)) (hE:bT P E sz ag) (hh:ρ ha=.v (.int k (0:Nat))):OpP P H ρ (.slice T x none (some ha) none) (.v (.slice none 0 0))
 | min2 {x y k a b as} (hx:ρ x=.v (.int k a)) (hy:ρ y=.v (.int k b)):OpP P H ρ (.call ⟨.builtin .min,#[x,y],as⟩) (.v (.int k (if b<a then b else a)))
 | max2 {x y k a b as} (hx:ρ x=.v (.int k a)) (hy:ρ y=.v (.int k b)):OpP P H ρ (.call ⟨.builtin .max,#[x,y],as⟩) (.v (.int k (if b > a then b else a)))
 | indexS {T x i s k n b} (hx:ρ x=.v (.string s)) (hT:P.underlying T=some .string) (hi:ρ i=.v (.int k n)) (h0:0≤n) (hb:s[n.toNat]?=some b):OpP P H ρ (.index T x i) (.v (.int .u8 b.toNat))
 | ext2 {f xs as fn e} {vs:List Value} {r1 r2} (hf:P.funcs[f]?=some fn) (hname:(fn.name== "runtime.NumGoroutine")=false) (hb:fn.body.isNone=true) (hn:Extern.findNext fn=none) (he:Extern.find fn=some e)
   (hx:xs.toList.map ρ=vs.map LV.v) (hr:∀ w:World,(e vs.toArray).run P w=.ok (.tuple #[r1,r2]) w) (h1:r1.oneCell'=true) (h2:r2.oneCell'=true) :
   OpP P H ρ (.call ⟨.value (.func f),xs,as⟩) (.tup [.v r1,.v r2])
 | addS {T x y U s t} (hx:ρ x=.v (.string s)) (hy:ρ y=.v (.string t)) (h:s.size+t.size≤9223372036854775807):OpP P H ρ (.binOp .add T x y U) (.v (.string (s++t)))
 | eqS {T x y U s t} (hx:ρ x=.v (.string s)) (hy:ρ y=.v (.string t)):OpP P H ρ (.binOp .eql T x y U) (.v (.bool (s.toList==t.toList)))
 | eqN {T x y U d} (hx:ρ x=.v (.slice none 0 0)) (hy:ρ y=.v (.slice none 0 0)) (hT:P.underlying T=some (.slice d)):OpP P H ρ (.binOp .eql T x y U) (.v (.bool true))
 | eqA4 {T x y U E a0 a1 a2 a3 b0 b1 b2 b3} (hx:ρ x=.agg [.v (.bool a0),.v (.bool a1),.v (.bool a2),.v (.bool a3)]) (hy:ρ y=.agg [.v (.bool b0),.v (.bool b1),.v (.bool b2),.v (.bool b3)]) (hT:P.underlying T=some (.array 4 E))
   (hE:P.underlying E=some .bool) (hs:bT P E 1 false) (hd:2≤P.depth):OpP P H ρ (.binOp .eql T x y U) (.v (.bool (a0==b0 && (a1==b1 && (a2==b2 && a3==b3)))))
 | eqNL {T x y U sz v l d} (hx:ρ x=.list sz (v :: l)) (hy:ρ y=.v (.slice none 0 0)) (hT:P.underlying T=some (.slice d)):OpP P H ρ (.binOp .eql T x y U) (.v (.bool false))
 | strR {S D E x b off len blk} {ns:List Nat} (hS:P.underlying S=some (.slice E)) (hE:P.underlying E=some (.int .u8)) (hD:P.underlying D=some .string) (hx:ρ x=.ref b 1 off len) (hb:H b=some blk) (hs:blk.sz=1)
   (hv:(blk.vals.drop off).take len=ns.map (fun n=>LV.v (.int .u8 (n:Nat)))) (hl:off+len≤blk.vals.length) :
   OpP P H ρ (.convert S D x) (.v (.string ((ns.map Int.ofNat).foldl (fun r n=>r.push (UInt8.ofNat n.toNat)) ByteArray.empty)))
 | build {T zs ps} (hT:cT P T (zs.map lay)) (hz:bA P T (.agg zs)) (hp:∀ p∈ps.toList,∃ z,zs[p.1]?=some z∧lay (ρ p.2)=lay z∧ρ p.2≠.any∧∀ m,ρ p.2≠.tup m) :
   OpP P H ρ (.build T ps) (.agg (eN zs (ps.toList.map fun p=>(p.1,ρ p.2))))
section
variable {P:Program} {Z:Nat→Prop} {μ:Nat→Option Nat} {w:World}
theorem bP.int {k:IntKind} {n:Int}:bP Z μ w (.v (.int k n)) (.int k n):=⟨by simp [LV.isAgg],fun _=>by simp [bZ,Value.oneCell']⟩
theorem bP.bool {b:Bool}:bP Z μ w (.v (.bool b)) (.bool b):=⟨by simp [LV.isAgg],fun _=>by simp [bZ,Value.oneCell']⟩
theorem bP.v_eq {x v:Value} (h:bP Z μ w (.v x) v):v=x:=by
 have:=h.2 rfl
 simp only [bZ] at this
 simpa using this.1
theorem bP.v {x:Value} (h:x.oneCell'=true):bP Z μ w (.v x) x:=⟨by simp [LV.isAgg],fun _=>by simp [bZ,h]⟩
theorem aFt {op:BinOp} {k:IntKind} {a b:Int} {r:Value} (h:dU op k a b=some r):r.oneCell'=true:=by
 cases op<;>simp [dU] at h<;>first | (subst h;rfl) | (obtain⟨_,rfl⟩:=h;rfl)
theorem aHD {op:BinOp} {k:IntKind} {a b:Int} {r:Value} (h:shI op k a b=some r):r.oneCell'=true:=by
 unfold shI at h
 split at h
 ·simp at h
 ·cases op<;>simp at h<;>(subst h;rfl)
theorem aET {op:BinOp} {T:TypeId} {x y:Operand} {k:IntKind} {a b:Int} {r:Value} (h:dU op k a b=some r) :
  (do eqGuard op T x y (.int k a) (.int k b);binOp op T (.int k a) (.int k b):Sem Value).run P w=.ok r w:=by
 cases op<;>simp [dU] at h<;>simp [eqGuard,binOp,Op.intArith,Op.intDiv,Op.intBits,Op.intCmp] <;>
  first
   | (subst h;rfl)
   | (obtain⟨h1,rfl⟩:=h;simp [h1])
   | skip
theorem aHL {op:BinOp} {T:TypeId} {x y:Operand} {k k':IntKind} {a b:Int} {r:Value} (h:shI op k a b=some r) :
  (do eqGuard op T x y (.int k a) (.int k' b);binOp op T (.int k a) (.int k' b):Sem Value).run P w=.ok r w:=by
 unfold shI at h
 split at h
 ·simp at h
 ·rename_i hb
  cases op<;>simp at h<;>subst h<;>simp [eqGuard,binOp,Op.shift,hb]
theorem aA3 (off:Nat):∀ (vs:List Value) (i:Nat) (cells:Array Value),off+i+vs.length≤cells.size →
  ((vs.zipIdx i).foldl (fun cs p=>cs.setIfInBounds (off+p.2) p.1) cells).toList=cells.toList.take (off+i)++(vs++cells.toList.drop (off+i+vs.length))
 | [],i,cells,h=>by simp
 | v :: vs,i,cells,h=>by
   simp only [List.length_cons] at h
   simp only [List.zipIdx_cons,List.foldl_cons]
   rw [aA3 off vs (i+1) _ (by rw [Array.size_setIfInBounds];omega)]
   have e:off+(i+1)=(off+i)+1:=by omega
   rw [e,Array.toList_setIfInBounds,List.take_succ_eq_append_getElem (by simp;omega),List.getElem_set_self,List.take_set_of_le (by omega),List.drop_set_of_lt (by omega)]
   have e2:off+i+1+vs.length=off+i+(vs.length+1):=by omega
   rw [e2]
   simp
theorem mY {ls:List (Nat × Bool)} (place:Nat→Option (Nat × Nat)) (hpl:∀ k n,ls[k]?=some n→place k=some (mB (ls.take k),n.1)) :
  ∀ (ps:List (Nat × Value)) (qs:List (Nat × LV)) (zs:List LV) (cells:Array Value),zs.map lay=ls→bV Z μ w zs cells.toList →
   ps.map (·.1)=qs.map (·.1)→(∀ (j:Nat) (p:Nat × Value) (q:Nat × LV),ps[j]?=some p→qs[j]?=some q→dW Z μ w q.2 p.2∧q.2≠LV.any) →
   (∀ q∈qs,∃ n,ls[q.1]?=some n∧lay q.2=n) →
   ∃ cs,Instr.fill place cells ps=some cs∧bV Z μ w (eN zs qs) cs.toList
 | [],[],zs,cells,_,hr,_,_,_=>⟨cells,rfl,hr⟩
 | [],_ :: _,_,_,_,_,h,_,_=>by simp at h
 | _ :: _,[],_,_,_,_,h,_,_=>by simp at h
 | (k,v) :: ps,(k',x) :: qs,zs,cells,hz,hr,hk,hv,hq=>by
   simp only [List.map_cons,List.cons.injEq] at hk
   obtain⟨rfl,hk⟩:=hk
   obtain⟨n,hn,hxn⟩:=hq (k,x) (by simp)
   obtain⟨hxv,hxa⟩:=hv 0 (k,v) (k,x) rfl rfl
   obtain⟨c1,c2,c3,_⟩:=hxv.cells hxa
   have hn':=hn
   simp only at hn hxn
   rw [←hz,List.getElem?_map] at hn
   obtain⟨z,hzk,hzn⟩:∃ z,zs[k]?=some z∧lay z=n:=by
    cases h:zs[k]? with
    | none=>simp [h] at hn
    | some z=>exact⟨z,rfl,by simpa [h] using hn⟩
   obtain⟨pre,ch,post,e1,e2,e3,e4,e5⟩:=bV.get zs cells.toList k z hr hzk
   have hsz:v.cells.size=n.1:=by rw [c2,←hxn];rfl
   have hchn:ch.length=n.1:=by rw [e3,←hzn];rfl
   have hpre:mB (ls.take k)=pre.length:=by rw [←hz,rK,e2]
   have hcs:cells.size=pre.length+(ch.length+post.length):=by
    rw [←Array.length_toList,e1];simp
   simp only [Instr.fill,hpl k n hn',hpre]
   have hcond:¬ ((decide (v.cells.size≠n.1) || decide (pre.length+v.cells.size > cells.size))=true):=by
    simp only [Bool.or_eq_true,decide_eq_true_eq,not_or,Decidable.not_not]
    omega
   rw [if_neg hcond]
   have hf:=aA3 pre.length v.cells.toList 0 cells (by simp;omega)
   have hnew:(v.cells.zipIdx.foldl (fun cs p=>cs.setIfInBounds (pre.length+p.2) p.1) cells).toList=pre++(v.cells.toList++post):=by
    rw [←Array.foldl_toList,Array.toList_zipIdx]
    rw [hf,e1]
    simp only [Nat.add_zero,Array.length_toList,List.take_left]
    rw [List.drop_append,List.drop_of_length_le (by omega),List.nil_append]
    congr 2
    rw [List.drop_append,List.drop_of_length_le (by omega),List.nil_append]
    have:pre.length+v.cells.size-pre.length-ch.length=0:=by omega
    rw [this];rfl
   have hstep:=e5 x v.cells.toList c1 (by simp [c2])
   rw [←hnew] at hstep
   refine mY place hpl ps qs (zs.set k x) _ ?_ hstep hk (fun j p q hp hq=>hv (j+1) p q (by simpa using hp) (by simpa using hq)) (fun q h=>hq q (by simp [h]))
   rw [List.map_set,hz,hxn]
   refine List.ext_getElem? fun j=>?_
   by_cases hj:k=j
   ·subst hj;rw [List.getElem?_set_self (List.getElem?_eq_some_iff.1 hn').1,hn']
   ·rw [List.getElem?_set_ne hj]
end
end Go.Lg
namespace Go.Lg
section
variable {P:Program} {Z:Nat→Prop} {μ:Nat→Option Nat} {w:World} {H:cM} {ρ:Operand→LV} {a:Act}
theorem dY.get:∀ (l:List LV) (vs:List Value) (i:Nat) (x:LV),dY Z μ w l vs→l[i]?=some x→∃ v,vs[i]?=some v∧dW Z μ w x v
 | [],_,_,_,_,h=>by simp at h
 | y :: ys,_,0,x,⟨v,vs',e,h1,h2⟩,hi=>by
   simp only [List.getElem?_cons_zero,Option.some.injEq] at hi
   subst hi e
   exact⟨v,by simp,h1⟩
 | y :: ys,_,i+1,x,⟨v,vs',e,h1,h2⟩,hi=>by
   subst e
   have:=dY.get ys vs' i x h2 (by simpa using hi)
   simpa using this
theorem sQ {sz:Nat} {l:List LV} {i:Nat} {r:LV} {off:Nat} {c:Array Value} {part rest:List Value}
  (hd:c.toList.drop off=part++rest) (hr:aM Z μ w sz l part) (hi:l[i]?=some r) :
  ∃ ch post,c.toList.drop (off+i*sz)=ch++post∧ch.length=sz∧bZ Z μ w r ch:=by
 obtain⟨pre,ch,post,e1,e2,e3,e4,_⟩:=aM.get l part i r hr hi
 refine⟨ch,post++rest,?_,e3,e4⟩
 rw [←List.drop_drop,hd,e1,←e2]
 simp
theorem l6 {T E:TypeId} {sz:Nat} {ag:Bool} (hT:P.underlying T=some (.slice E)) (hE:bT P E sz ag) (k:IntKind) (n:Int) (len cap b off:Nat) (h0:0≤n) (h1:n<len) :
  (Instr.indexAt T (.slice (some ⟨b,off,none⟩) len cap) (.int k n)).run P w=.ok (.pointer (some ⟨b,off+n.toNat*sz,none⟩)) w:=by
 have h2:(0≤n∧n<(len:Int)):=⟨h0,h1⟩
 simp [Instr.indexAt,asIntOf,run_underlying hT,dV hE,h2,Addr.add_mid]
theorem oJ {T:TypeId} (hT:P.underlying T=some .bool) (i j:Bool):(Op.equal T (.bool i) (.bool j)).run P w=.ok (i==j) w:=by
 have h:∀ d,(Op.equalIn (d+1) T (.bool i) (.bool j)).run P w=.ok (i==j) w:=fun d=>by
  simp only [Op.equalIn,Sem.run_bind,run_underlying hT,Result.andThen_ok,Sem.run_pure]
 exact h 9999
theorem aA0 {T:TypeId} (hT:P.underlying T=some .bool) {x y:Operand} (i j:Bool) :
  (do eqGuard .eql T x y (.bool i) (.bool j);binOp .eql T (.bool i) (.bool j):Sem Value).run P w=.ok (.bool (i==j)) w:=by
 have h1:(eqGuard .eql T x y (.bool i) (.bool j)).run P w=.ok () w:=by simp [eqGuard]
 have h2:(binOp .eql T (.bool i) (.bool j)).run P w=.ok (.bool (i==j)) w:=by
  simp only [binOp]
  rw [Sem.run_bind,oJ hT];rfl
 rw [Sem.run_bind,h1];exact h2
theorem aA7 {T:TypeId} (hT:P.underlying T=some .bool) {x y:Operand} (i j:Bool) :
  (do eqGuard .neq T x y (.bool i) (.bool j);binOp .neq T (.bool i) (.bool j):Sem Value).run P w=.ok (.bool (!(i==j))) w:=by
 have h1:(eqGuard .neq T x y (.bool i) (.bool j)).run P w=.ok () w:=by simp [eqGuard]
 have h2:(binOp .neq T (.bool i) (.bool j)).run P w=.ok (.bool (!(i==j))) w:=by
  simp only [binOp]
  rw [Sem.run_bind,oJ hT];rfl
 rw [Sem.run_bind,h1];exact h2
theorem xE {T d:TypeId} (hT:P.underlying T=some (.slice d)) (a:Option Addr) (n c:Nat):(Op.equal T (.slice a n c) (.slice none 0 0)).run P w=.ok (a.isNone) w:=by
 have h:∀ k,(Op.equalIn (k+1) T (.slice a n c) (.slice none 0 0)).run P w=.ok (a.isNone) w:=fun k=>by
  cases a<;>simp only [Op.equalIn,Sem.run_bind,run_underlying hT,Result.andThen_ok,Sem.run_pure]<;>rfl
 exact h 9999
theorem vK {T d:TypeId} (hT:P.underlying T=some (.slice d)) {x y:Operand} (a:Option Addr) (n c:Nat) :
  (do eqGuard .eql T x y (.slice a n c) (.slice none 0 0);binOp .eql T (.slice a n c) (.slice none 0 0):Sem Value).run P w=.ok (.bool a.isNone) w:=by
 have h1:(eqGuard .eql T x y (.slice a n c) (.slice none 0 0)).run P w=.ok () w:=by simp [eqGuard]
 have h2:(binOp .eql T (.slice a n c) (.slice none 0 0)).run P w=.ok (.bool a.isNone) w:=by
  simp only [binOp]
  rw [Sem.run_bind,xE hT];rfl
 rw [Sem.run_bind,h1];exact h2
theorem aEd {E:TypeId} {d:TypeDesc} (h1:P.underlying E=some d) (h2:d.isRow=false) (cs:Array Value) (i:Nat) (v:Value) (h:cs[i]?=some v):(part E cs i).run P w=.ok v w:=by
 cases d<;>first | (exfalso;simp [TypeDesc.isRow] at h2;done) | (simp [part,isAgg,run_underlying h1,h])
theorem uS {T E:TypeId} (d:Nat) (hT:P.underlying T=some (.array 4 E)) (hE:P.underlying E=some .bool) (hs:(sizeOf E).run P w=.ok 1 w) (a b:Fin 4→Bool) :
  (Op.equalIn (d+2) T (.agg #[.bool (a 0),.bool (a 1),.bool (a 2),.bool (a 3)]) (.agg #[.bool (b 0),.bool (b 1),.bool (b 2),.bool (b 3)])).run P w=.ok (a 0==b 0 && (a 1==b 1 && (a 2==b 2 && a 3==b 3))) w:=by
 have hb:∀ x y:Bool,(Op.equalIn (d+1) E (.bool x) (.bool y)).run P w=.ok (x==y) w:=fun x y=>by
  simp only [Op.equalIn,Sem.run_bind,run_underlying hE,Result.andThen_ok,Sem.run_pure]
 have hp:=fun(cs:Array Value) (i:Nat) (v:Value) (h:cs[i]?=some v)=>aEd (w:=w) hE (by rfl) cs i v h
 have hstep:∀ (i:Nat) (x y:Bool) (hx:(#[Value.bool (a 0),Value.bool (a 1),Value.bool (a 2),Value.bool (a 3)])[i]?=some (.bool x)) (hy:(#[Value.bool (b 0),Value.bool (b 1),Value.bool (b 2),Value.bool (b 3)])[i]?=some (.bool y)),
   (do
    let doA ←part E #[Value.bool (a 0),Value.bool (a 1),Value.bool (a 2),Value.bool (a 3)] i
    let doB ←part E #[Value.bool (b 0),Value.bool (b 1),Value.bool (b 2),Value.bool (b 3)] i
    let doA ←Op.equalIn (d+1) E doA doB
    if (!doA)=true then pure (ForInStep.done (some false,())) else pure (ForInStep.yield (none,())):Sem (ForInStep (Option Bool × Unit))).run P w=.ok (if x==y then ForInStep.yield (none,()) else ForInStep.done (some false,())) w:=fun i x y hx hy=>by
  rw [Sem.run_bind,hp _ _ _ hx]
  simp only [Result.andThen_ok]
  rw [Sem.run_bind,hp _ _ _ hy]
  simp only [Result.andThen_ok]
  rw [Sem.run_bind,hb]
  simp only [Result.andThen_ok]
  cases x==y<;>simp
 rw [Op.equalIn,Sem.run_bind,run_underlying hT]
 simp only [Result.andThen_ok]
 rw [Sem.run_bind,hs]
 simp only [Result.andThen_ok]
 rw [Sem.run_bind]
 simp only [Std.Legacy.Range.forIn_eq_forIn_range',Std.Legacy.Range.size,Nat.sub_zero,Nat.div_one,List.range',List.forIn_cons,List.forIn_nil,Nat.reduceAdd,Nat.mul_one,Nat.zero_add]
 rw [Sem.run_bind,hstep 0 (a 0) (b 0) rfl rfl]
 cases a 0==b 0
 ·simp
 simp only [Result.andThen_ok,if_true,Bool.true_and]
 rw [Sem.run_bind,hstep 1 (a 1) (b 1) rfl rfl]
 cases a 1==b 1
 ·simp
 simp only [Result.andThen_ok,if_true,Bool.true_and]
 rw [Sem.run_bind,hstep 2 (a 2) (b 2) rfl rfl]
 cases a 2==b 2
 ·simp
 simp only [Result.andThen_ok,if_true,Bool.true_and]
 rw [Sem.run_bind,hstep 3 (a 3) (b 3) rfl rfl]
 cases a 3==b 3
 ·simp
 simp
theorem aEo {T E:TypeId} (hT:P.underlying T=some (.array 4 E)) (hE:P.underlying E=some .bool) (hs:bT P E 1 false) (hd:2≤P.depth) {x y:Operand} (a b:Fin 4→Bool) :
  (do eqGuard .eql T x y (.agg #[.bool (a 0),.bool (a 1),.bool (a 2),.bool (a 3)]) (.agg #[.bool (b 0),.bool (b 1),.bool (b 2),.bool (b 3)]);binOp .eql T (.agg #[.bool (a 0),.bool (a 1),.bool (a 2),.bool (a 3)]) (.agg #[.bool (b 0),.bool (b 1),.bool (b 2),.bool (b 3)]):Sem Value).run P w=.ok (.bool (a 0==b 0 && (a 1==b 1 && (a 2==b 2 && a 3==b 3)))) w:=by
 obtain⟨n,hn⟩:∃ n,P.depth=n+2:=⟨P.depth-2,by omega⟩
 have hg:P.eqGuardType P.depth T=false:=by rw [hn];simp [Program.eqGuardType,hT,hE]
 have h1:(eqGuard .eql T x y (.agg #[.bool (a 0),.bool (a 1),.bool (a 2),.bool (a 3)]) (.agg #[.bool (b 0),.bool (b 1),.bool (b 2),.bool (b 3)])).run P w=.ok () w:=by simp [eqGuard,hg]
 have h2:(binOp .eql T (.agg #[.bool (a 0),.bool (a 1),.bool (a 2),.bool (a 3)]) (.agg #[.bool (b 0),.bool (b 1),.bool (b 2),.bool (b 3)])).run P w=.ok (.bool (a 0==b 0 && (a 1==b 1 && (a 2==b 2 && a 3==b 3)))) w:=by
  simp only [binOp]
  have e:=uS 9998 hT hE (dV (w:=w) hs) a b
  simp only [Nat.reduceAdd] at e
  rw [Sem.run_bind,Op.equal,Op.maxDepth,e];rfl
 rw [Sem.run_bind,h1];exact h2
theorem aIW {Z:Nat→Prop} {μ:Nat→Option Nat} {a0 a1 a2 a3:Bool} {v:Value} (h:bP Z μ w (.agg [.v (.bool a0),.v (.bool a1),.v (.bool a2),.v (.bool a3)]) v):v=.agg #[.bool a0,.bool a1,.bool a2,.bool a3]:=by
 obtain⟨cs,rfl,hr⟩:=h.1 rfl
 simp only [bZ,bV] at hr
 obtain⟨c1,d1,e1,_,⟨r1,_⟩,c2,d2,e2,_,⟨r2,_⟩,c3,d3,e3,_,⟨r3,_⟩,c4,d4,e4,_,⟨r4,_⟩,r5⟩:=hr
 subst r1 r2 r3 r4 r5 e4 e3 e2
 congr 1
 exact Array.ext' e1
theorem aEb {T E:TypeId} (hT:P.underlying T=some (.array 4 E)) (hE:P.underlying E=some .bool) (hs:bT P E 1 false) (hd:2≤P.depth) {x y:Operand} (a0 a1 a2 a3 b0 b1 b2 b3:Bool) :
  (do eqGuard .eql T x y (.agg #[.bool a0,.bool a1,.bool a2,.bool a3]) (.agg #[.bool b0,.bool b1,.bool b2,.bool b3]);binOp .eql T (.agg #[.bool a0,.bool a1,.bool a2,.bool a3]) (.agg #[.bool b0,.bool b1,.bool b2,.bool b3]):Sem Value).run P w=.ok (.bool (a0==b0 && (a1==b1 && (a2==b2 && a3==b3)))) w :=
 aEo hT hE hs hd (fun i=>[a0,a1,a2,a3][i]) (fun i=>[b0,b1,b2,b3][i])
theorem mZ (isS:Bool) (len cap:Nat) (la ha:Option Value) (a h:Nat) (hlo:∀ y,la=some y→∃ k,y=.int k (a:Nat)) (hlo0:la=none→a=0)
  (hhi:∀ y,ha=some y→∃ k,y=.int k (h:Nat)) (hhi0:ha=none→h=len) (h1:a≤h) (h2:h≤cap) :
  (Instr.sliceBounds isS len cap la ha none).run P w=.ok (a,h,cap) w:=by
 have e1:∀ (k:IntKind) (c:BoundsCode),(Instr.sliceBound (.int k (h:Nat)) cap c).run P w=.ok h w:=fun k c=>by
  have:=run_sliceBound (P:=P) w k (h:Int) cap c (by omega) (by omega)
  simpa using this
 have e2:∀ (k:IntKind) (c:BoundsCode),(Instr.sliceBound (.int k (a:Nat)) h c).run P w=.ok a w:=fun k c=>by
  have:=run_sliceBound (P:=P) w k (a:Int) h c (by omega) (by omega)
  simpa using this
 cases la with
 | none =>
  have:=hlo0 rfl
  subst this
  cases ha with
  | none=>have:=hhi0 rfl;subst this;simp [Instr.sliceBounds]
  | some y=>obtain⟨k,rfl⟩:=hhi y rfl;simp [Instr.sliceBounds,e1]
 | some x =>
  obtain⟨k',rfl⟩:=hlo x rfl
  cases ha with
  | none=>have:=hhi0 rfl;subst this;simp [Instr.sliceBounds,e2]
  | some y=>obtain⟨k,rfl⟩:=hhi y rfl;simp [Instr.sliceBounds,e1,e2]
theorem w9 (len cap:Nat) (la:Option Value) (a h m:Nat) (k k':IntKind) (hlo:∀ y,la=some y→∃ k,y=.int k (a:Nat)) (hlo0:la=none→a=0) (h1:a≤h) (h2:h≤m) (h3:m≤cap) :
  (Instr.sliceBounds true len cap la (some (.int k (h:Nat))) (some (.int k' (m:Nat)))).run P w=.ok (a,h,m) w:=by
 have e0:∀ (c:BoundsCode),(Instr.sliceBound (.int k' (m:Nat)) cap c).run P w=.ok m w:=fun c=>by
  have:=run_sliceBound (P:=P) w k' (m:Int) cap c (by omega) (by omega)
  simpa using this
 have e1:∀ (c:BoundsCode),(Instr.sliceBound (.int k (h:Nat)) m c).run P w=.ok h w:=fun c=>by
  have:=run_sliceBound (P:=P) w k (h:Int) m c (by omega) (by omega)
  simpa using this
 have e2:∀ (k:IntKind) (c:BoundsCode),(Instr.sliceBound (.int k (a:Nat)) h c).run P w=.ok a w:=fun k c=>by
  have:=run_sliceBound (P:=P) w k (a:Int) h c (by omega) (by omega)
  simpa using this
 cases la with
 | none =>
  have:=hlo0 rfl
  subst this
  simp [Instr.sliceBounds,e0,e1]
 | some x =>
  obtain⟨k',rfl⟩:=hlo x rfl
  simp [Instr.sliceBounds,e0,e1,e2]
theorem s9:∀ (fs:List Field) (ls:List (Nat × Bool)) (off:Nat),kR P off fs ls →
  ∃ pl:List (Nat × Nat),(fs.mapM fun f=>do pure (f.offset,←sizeOf f.type):Sem (List (Nat × Nat))).run P w=.ok pl w∧∀ k n,ls[k]?=some n→pl[k]?=some (off+mB (ls.take k),n.1)
 | [],[],_,_=>⟨[],rfl,fun k n h=>by simp at h⟩
 | [],_ :: _,_,h=>by simp [kR] at h
 | _ :: _,[],_,h=>by simp [kR] at h
 | f :: fs,(n,ag) :: r,off,h=>by
   simp only [kR] at h
   obtain⟨h1,h2,h3⟩:=h
   obtain⟨pl,e1,e2⟩:=s9 fs r (off+n) h3
   refine⟨(off,n) :: pl,?_,?_⟩
   ·simp only [List.mapM_cons,Sem.run_bind,dV h2,Result.andThen_ok,Sem.run_pure,e1,h1]
   ·intro k m hk
    cases k with
    | zero=>simp at hk;subst hk;simp [mB]
    | succ k =>
     have:=e2 k m (by simpa using hk)
     simp only [List.getElem?_cons_succ,this,List.take_succ_cons,mB]
     congr 2;omega
theorem nB {n sz:Nat} {ag:Bool}:∀ (fs:List LV) (k:Nat),(∀ z∈fs,lay z=(sz,ag))→k≤fs.length→aL (fs.take k)=k*sz
 | _,0,_,_=>by simp [aL]
 | [],k+1,_,h=>by simp at h
 | x :: xs,k+1,h,hk=>by
  have h1:x.csize=sz:=by have:=h x (by simp);simp only [lay,Prod.mk.injEq] at this;exact this.1
  rw [List.take_succ_cons,aL,h1,nB (n:=n) xs k (fun z hz=>h z (by simp [hz])) (by simpa using hk),Nat.succ_mul,Nat.add_comm]
theorem aDe {fs:List LV} {n sz:Nat} {ag:Bool} (h:fs.map lay=List.replicate n (sz,ag)):fs.length=n∧∀ z∈fs,lay z=(sz,ag):=by
 refine⟨by have:=congrArg List.length h;simpa using this,fun z hz=>?_⟩
 have:lay z∈fs.map lay:=List.mem_map_of_mem hz
 rw [h] at this
 exact(List.mem_replicate.1 this).2
theorem mA {T E:TypeId} {n sz:Nat} {ag:Bool} (hT:P.underlying T=some (.array n E)) (hE:bT P E sz ag) (k:IntKind) (m:Int) (b off:Nat) (h0:0≤m) (h1:m<n) :
  (Instr.indexAt T (.pointer (some ⟨b,off,none⟩)) (.int k m)).run P w=.ok (.pointer (some ⟨b,off+m.toNat*sz,none⟩)) w:=by
 have h2:(0≤m∧m<(n:Int)):=⟨h0,h1⟩
 simp [Instr.indexAt,Instr.sureAddr,asIntOf,run_underlying hT,dV hE,h2,Addr.add_mid]
theorem aBy {T E:TypeId} {n sz:Nat} {ag:Bool} {fs:List LV} {x:LV} {v:Value} {k:IntKind} {m:Int} (hT:P.underlying T=some (.array n E)) (hE:bT P E sz ag) (hf:fs.map lay=List.replicate n (sz,ag)) (h0:0≤m)
  (hx:fs[m.toNat]?=some x) (hne:x≠.any) (h:dW Z μ w (.agg fs) v):∃ u,(Instr.index T v (.int k m)).run P w=.ok u w∧dW Z μ w x u:=by
 obtain⟨hl,hly⟩:=aDe hf
 obtain⟨cs,rfl,hc⟩:=h.1 rfl
 simp only [bZ] at hc
 obtain⟨pre,ch,post,e1,e2,e3,e4,_⟩:=bV.get fs cs.toList m.toNat x hc hx
 have hk:=(List.getElem?_eq_some_iff.1 hx).1
 have hxl:=hly x (List.mem_of_getElem? hx)
 simp only [lay,Prod.mk.injEq] at hxl
 obtain⟨u,hu2,hu3⟩:=vI (T:=E) (by rw [hxl.1,hxl.2];exact hE) e1 e4 hne
 refine⟨u,?_,hu3⟩
 have hpre:m.toNat*sz=pre.length:=by rw [e2,nB (n:=n) fs m.toNat hly (by omega)]
 have h2:(0≤m∧m<(n:Int)):=⟨h0,by omega⟩
 simp only [Instr.index,asIntOf,Sem.run_bind,Sem.run_pure,Result.andThen_ok,run_underlying hT,if_pos h2,dV hE,hpre]
 simpa using hu2
theorem y7 {T E:TypeId} {zs:List LV} {ps:Array (Nat × Operand)} {n sz:Nat} {ag:Bool} (hT:P.underlying T=some (.array n E)) (hE:bT P E sz ag) (hf:∀ z∈zs,lay z=(sz,ag)) (hz:bA P T (.agg zs))
  (hp:∀ p∈ps.toList,∃ z,zs[p.1]?=some z∧lay (ρ p.2)=lay z∧ρ p.2≠.any∧∀ m,ρ p.2≠.tup m) (hρ:∀ p∈ps.toList,bP Z μ w (ρ p.2) (a.eval p.2)) :
  ∃ v,(Instr.build T (ps.map fun(i,x)=>(i,a.eval x))).run P w=.ok v w∧bP Z μ w (.agg (eN zs (ps.toList.map fun p=>(p.1,ρ p.2)))) v:=by
 obtain⟨i,zv,z1,z2,_,z3⟩:=hz
 have hrep:=z3 Z μ w
 simp only [bZ] at hrep
 obtain⟨cs,f1,f2⟩:=mY (Z:=Z) (μ:=μ) (w:=w) (ls:=zs.map lay) (fun k=>some (k*sz,sz)) (fun k n hk=>by
   rw [List.getElem?_map,Option.map_eq_some_iff] at hk
   obtain⟨z,hz,rfl⟩:=hk
   have hk:=(List.getElem?_eq_some_iff.1 hz).1
   have hzl:=hf z (List.mem_of_getElem? hz)
   rw [hzl,rK,nB (n:=0) zs k hf (by omega)])
  (ps.toList.map fun p=>(p.1,a.eval p.2)) (ps.toList.map fun p=>(p.1,ρ p.2)) zs zv.cells rfl hrep (by simp)
  (fun j p q hp1 hq1=>by
   simp only [List.getElem?_map,Option.map_eq_some_iff] at hp1 hq1
   obtain⟨x,hx,rfl⟩:=hp1
   obtain⟨y,hy,rfl⟩:=hq1
   rw [hx] at hy;cases hy
   have hm:=List.mem_of_getElem? hx
   obtain⟨z,_,_,h3,h4⟩:=hp x hm
   exact⟨bP.to1 h4 h3 (hρ x hm),h3⟩)
  (fun q hq=>by
   simp only [List.mem_map] at hq
   obtain⟨x,hx,rfl⟩:=hq
   obtain⟨z,h1,h2,_⟩:=hp x hx
   exact⟨lay z,by simp [List.getElem?_map,h1],h2⟩)
 refine⟨.agg cs,?_,⟨fun _=>⟨cs,rfl,by simpa [bZ] using f2⟩,by simp [LV.isAgg]⟩⟩
 have hzv:(zeroValue T).run P w=.ok zv w:=by simp [zeroValue,typeInfo,z1,z2]
 simp only [Instr.build,Sem.run_bind,hzv,Result.andThen_ok,run_underlying hT,dV hE]
 have:(Array.map (fun x=>match x with | (i,x)=>(i,a.eval x)) ps).toList=ps.toList.map fun p=>(p.1,a.eval p.2):=by simp
 rw [this,f1];rfl
theorem aA5 {T:TypeId} {zs:List LV} {ps:Array (Nat × Operand)} (hT:cT P T (zs.map lay)) (hz:bA P T (.agg zs))
  (hp:∀ p∈ps.toList,∃ z,zs[p.1]?=some z∧lay (ρ p.2)=lay z∧ρ p.2≠.any∧∀ m,ρ p.2≠.tup m) (hρ:∀ p∈ps.toList,bP Z μ w (ρ p.2) (a.eval p.2)) :
  ∃ v,(Instr.build T (ps.map fun(i,x)=>(i,a.eval x))).run P w=.ok v w∧bP Z μ w (.agg (eN zs (ps.toList.map fun p=>(p.1,ρ p.2)))) v:=by
 obtain⟨i,zv,z1,z2,_,z3⟩:=hz
 obtain⟨fields,hu,hl,hpos⟩:=hT
 have hrep:=z3 Z μ w
 simp only [bZ] at hrep
 obtain⟨pl,e1,e2⟩:=s9 (P:=P) (w:=w) fields.toList _ 0 hl
 obtain⟨cs,f1,f2⟩:=mY (Z:=Z) (μ:=μ) (w:=w) (ls:=zs.map lay) (fun k=>pl.toArray[k]?) (fun k n hk=>by simpa using e2 k n hk)
  (ps.toList.map fun p=>(p.1,a.eval p.2)) (ps.toList.map fun p=>(p.1,ρ p.2)) zs zv.cells rfl hrep (by simp)
  (fun j p q hp1 hq1=>by
   simp only [List.getElem?_map,Option.map_eq_some_iff] at hp1 hq1
   obtain⟨x,hx,rfl⟩:=hp1
   obtain⟨y,hy,rfl⟩:=hq1
   rw [hx] at hy;cases hy
   have hm:=List.mem_of_getElem? hx
   obtain⟨z,_,_,h3,h4⟩:=hp x hm
   exact⟨bP.to1 h4 h3 (hρ x hm),h3⟩)
  (fun q hq=>by
   simp only [List.mem_map] at hq
   obtain⟨x,hx,rfl⟩:=hq
   obtain⟨z,h1,h2,_⟩:=hp x hx
   exact⟨lay z,by simp [List.getElem?_map,h1],h2⟩)
 refine⟨.agg cs,?_,⟨fun _=>⟨cs,rfl,by simpa [bZ] using f2⟩,by simp [LV.isAgg]⟩⟩
 have hpl:(fields.mapM fun f=>do pure (f.offset,←sizeOf f.type):Sem (Array (Nat × Nat))).run P w=.ok pl.toArray w:=by
  rw [Array.mapM_eq_mapM_toList,Sem.run_map,e1];rfl
 have hzv:(zeroValue T).run P w=.ok zv w:=by simp [zeroValue,typeInfo,z1,z2]
 simp only [Instr.build,Sem.run_bind,hzv,Result.andThen_ok,run_underlying hu,hpl]
 have:(Array.map (fun x=>match x with | (i,x)=>(i,a.eval x)) ps).toList=ps.toList.map fun p=>(p.1,a.eval p.2):=by simp
 rw [this,f1];rfl
set_option maxHeartbeats 2000000 in
theorem OpP.sound {op:Op} {r:LV} (ho:OpP P H ρ op r) (hρ:∀ x∈op.operands,bP Z μ w (ρ x) (a.eval x))
  (hh:∀ b id,μ b=some id→∃ blk,H b=some blk∧kB Z μ w blk id) (dst:Option Tmp) (ty:TypeId) (pos:String) (after:Array Edge) (g:Option (Nat × Bool)) :
  ∃ v,(execOp a.eval ⟨dst,op,ty,pos,after,g⟩).run P w=.ok (.value v) w∧bP Z μ w r v:=by
 cases ho with
 | move x=>exact⟨a.eval x,rfl,hρ x (by simp [Op.operands])⟩
 | assign x=>exact⟨a.eval x,rfl,hρ x (by simp [Op.operands])⟩
 | @pick c x y t h =>
  have hc:=hρ c (by simp [Op.operands]);rw [h] at hc
  have hc:=hc.v_eq
  refine⟨if t then a.eval x else a.eval y,by cases t<;>simp [execOp,hc,asBool],?_⟩
  cases t
  ·simpa using hρ y (by simp [Op.operands])
  ·simpa using hρ x (by simp [Op.operands])
 | @bin op T x y U k i j r hx hy h =>
  have e1:=hρ x (by simp [Op.operands]);rw [hx] at e1;have e1:=e1.v_eq
  have e2:=hρ y (by simp [Op.operands]);rw [hy] at e2;have e2:=e2.v_eq
  refine⟨r,?_,bP.v (aFt h)⟩
  have:=aET (P:=P) (w:=w) (T:=T) (x:=x) (y:=y) h
  simp only [execOp,e1,e2]
  rw [Sem.run_bind,this];rfl
 | @sh op T x y U k k' i j r hx hy h =>
  have e1:=hρ x (by simp [Op.operands]);rw [hx] at e1;have e1:=e1.v_eq
  have e2:=hρ y (by simp [Op.operands]);rw [hy] at e2;have e2:=e2.v_eq
  refine⟨r,?_,bP.v (aHD h)⟩
  have:=aHL (P:=P) (w:=w) (T:=T) (x:=x) (y:=y) (k':=k') h
  simp only [execOp,e1,e2]
  rw [Sem.run_bind,this];rfl
 | @beq T x y U i j hx hy hT =>
  have e1:=hρ x (by simp [Op.operands]);rw [hx] at e1;have e1:=e1.v_eq
  have e2:=hρ y (by simp [Op.operands]);rw [hy] at e2;have e2:=e2.v_eq
  exact⟨.bool (i==j),by simp only [execOp,e1,e2];rw [Sem.run_bind,aA0 hT];rfl,bP.bool⟩
 | @eqN T x y U d hx hy hT =>
  have e1:=hρ x (by simp [Op.operands]);rw [hx] at e1;have e1:=e1.v_eq
  have e2:=hρ y (by simp [Op.operands]);rw [hy] at e2;have e2:=e2.v_eq
  exact⟨.bool true,by simp only [execOp,e1,e2];rw [Sem.run_bind,vK hT];rfl,bP.bool⟩
 | @eqA4 T x y U E a0 a1 a2 a3 b0 b1 b2 b3 hx hy hT hE hs hd =>
  have e1:=hρ x (by simp [Op.operands]);rw [hx] at e1;have e1:=aIW e1
  have e2:=hρ y (by simp [Op.operands]);rw [hy] at e2;have e2:=aIW e2
  exact⟨.bool _,by simp only [execOp,e1,e2];rw [Sem.run_bind,aEb hT hE hs hd];rfl,bP.bool⟩
 | @eqNL T x y U sz v l d hx hy hT =>
  have e1:=hρ x (by simp [Op.operands]);rw [hx] at e1
  have e2:=hρ y (by simp [Op.operands]);rw [hy] at e2;have e2:=e2.v_eq
  have e3:=e1.2 rfl
  simp only [bZ] at e3
  obtain⟨ad,len,cap,q1,q2,q3,q4,_⟩:=e3
  simp only [List.cons.injEq,and_true] at q1
  rcases q4 with q4 | ⟨blk,off,c,T',fz,part,rest,q5,_⟩
  ·cases q4
  ·subst q5
   exact⟨.bool false,by simp only [execOp,q1,e2];rw [Sem.run_bind,vK hT];rfl,bP.bool⟩
 | @bne T x y U i j hx hy hT =>
  have e1:=hρ x (by simp [Op.operands]);rw [hx] at e1;have e1:=e1.v_eq
  have e2:=hρ y (by simp [Op.operands]);rw [hy] at e2;have e2:=e2.v_eq
  exact⟨.bool (!(i==j)),by simp only [execOp,e1,e2];rw [Sem.run_bind,aA7 hT];rfl,bP.bool⟩
 | @not T x i hx =>
  have e1:=hρ x (by simp [Op.operands]);rw [hx] at e1;have e1:=e1.v_eq
  exact⟨.bool (!i),by simp [execOp,e1,Op.unary],bP.bool⟩
 | @neg T x k i hx =>
  have e1:=hρ x (by simp [Op.operands]);rw [hx] at e1;have e1:=e1.v_eq
  exact⟨.int k (k.wrap (0-i)),by simp [execOp,e1,Op.unary,Op.intArith],bP.int⟩
 | @conv S D x k k' n d hS hD hx =>
  have e1:=hρ x (by simp [Op.operands]);rw [hx] at e1;have e1:=e1.v_eq
  exact⟨.int k (k.wrap n),by simp [execOp,e1,convert,run_underlying hS,run_underlying hD,Conv.intToInt],bP.int⟩
 | @extract t i l r ht hr hne =>
  have e1:=hρ t (by simp [Op.operands]);rw [ht] at e1
  obtain⟨vs,e2,e3⟩:=e1
  obtain⟨v,h1,h2⟩:=dY.get _ _ _ _ e3 hr
  refine⟨v,?_,bP.of1 hne h2⟩
  have:vs[i]?=some v:=by rw [←Array.getElem?_toList];exact h1
  simp [execOp,e2,Instr.extract,this]
 | @field T x k fs r hx hT hr hne =>
  have e1:=hρ x (by simp [Op.operands]);rw [hx] at e1
  obtain⟨u,h1,h2⟩:=aAt (P:=P) (w:=w) hT hr (LV.pure_ne_any hne) (bP.to1 (by simp) (by simp) e1)
  exact⟨u,by simp [execOp,h1],bP.of1 (LV.pure_ne_tup hne) h2⟩
 | @fieldAddrB T p k fs r hp hT hr =>
  have e1:=hρ p (by simp [Op.operands]);rw [hp] at e1
  have e2:=e1.2 rfl
  simp only [bZ] at e2
  obtain⟨blk,off,cc,U,fz,part,rest,h1,h2,h3,h4,h5,h6,h7⟩:=e2
  obtain⟨pre,ch,post,g1,g2,g3,g4,_⟩:=bV.get fs part k r h6 hr
  have hk:k<(fs.map lay).length:=by rw [List.length_map];exact(List.getElem?_eq_some_iff.1 hr).1
  have hf:=tC (P:=P) (w:=w) hT hk blk off
  rw [rK] at hf
  refine⟨.pointer (some ⟨blk,off+aL (fs.take k),none⟩),?_,⟨by simp [LV.isAgg],fun _=>?_⟩⟩
  ·simp only [List.cons.injEq,and_true] at h1
   simp [execOp,h1,hf]
  ·simp only [bZ]
   refine⟨blk,_,cc,U,fz,ch,post++rest,rfl,h2,h3,?_,g3,g4,(gV _).1 (by simpa [LV.pure] using h7) _ (List.mem_of_getElem? hr)⟩
   rw [←List.drop_drop,h4,g1,←g2]
   simp
 | @fieldAddrE T p k b sz i o ls hp hT hk =>
  have e1:=hρ p (by simp [Op.operands]);rw [hp] at e1
  have e2:=e1.2 rfl
  simp only [bZ] at e2
  obtain⟨id,h1,h2⟩:=e2
  simp only [List.cons.injEq,and_true] at h1
  have hf:=tC (P:=P) (w:=w) hT hk id (i*sz+o)
  refine⟨.pointer (some ⟨id,i*sz+o+mB (ls.take k),none⟩),by simp [execOp,h1,hf],⟨by simp [LV.isAgg],fun _=>?_⟩⟩
  simp only [bZ]
  exact⟨id,by rw [Nat.add_assoc],h2⟩
 | @idxA T E x i n fs k m r sz ag hx hT hE hf hi h0 hr hp =>
  have e1:=hρ x (by simp [Op.operands]);rw [hx] at e1
  have e2:=hρ i (by simp [Op.operands]);rw [hi] at e2;have e2:=e2.v_eq
  obtain⟨u,h1,h2⟩:=aBy (P:=P) (w:=w) (k:=k) hT hE hf h0 hr (LV.pure_ne_any hp) (bP.to1 (by simp) (by simp) e1)
  exact⟨u,by simp [execOp,e2,h1],bP.of1 (LV.pure_ne_tup hp) h2⟩
 | @idxAE T E x j n b sz i o k m es ag hx hT hE hi h0 hm =>
  have e1:=hρ x (by simp [Op.operands]);rw [hx] at e1
  have e3:=hρ j (by simp [Op.operands]);rw [hi] at e3;have e3:=e3.v_eq
  have e2:=e1.2 rfl
  simp only [bZ] at e2
  obtain⟨id,h1,h2⟩:=e2
  simp only [List.cons.injEq,and_true] at h1
  have hf:=mA (P:=P) (w:=w) hT hE k m id (i*sz+o) h0 hm
  refine⟨.pointer (some ⟨id,i*sz+o+m.toNat*es,none⟩),by simp [execOp,h1,e3,hf],⟨by simp [LV.isAgg],fun _=>?_⟩⟩
  simp only [bZ]
  exact⟨id,by rw [Nat.add_assoc],h2⟩
 | @idxAB T E x i n fs k m r sz ag hx hT hE hf hi h0 hr =>
  have e1:=hρ x (by simp [Op.operands]);rw [hx] at e1
  have e3:=hρ i (by simp [Op.operands]);rw [hi] at e3;have e3:=e3.v_eq
  have e2:=e1.2 rfl
  simp only [bZ] at e2
  obtain⟨blk,off,cc,U,fz,part,rest,h1,h2,h3,h4,h5,h6,h7⟩:=e2
  obtain⟨hl,hly⟩:=aDe hf
  have hk:=(List.getElem?_eq_some_iff.1 hr).1
  obtain⟨pre,ch,post,g1,g2,g3,g4,_⟩:=bV.get fs part m.toNat r h6 hr
  have hf2:=mA (P:=P) (w:=w) hT hE k m blk off h0 (by omega)
  rw [←nB (n:=n) fs m.toNat hly (by omega)] at hf2
  refine⟨.pointer (some ⟨blk,off+aL (fs.take m.toNat),none⟩),?_,⟨by simp [LV.isAgg],fun _=>?_⟩⟩
  ·simp only [List.cons.injEq,and_true] at h1
   simp [execOp,h1,e3,hf2]
  ·simp only [bZ]
   refine⟨blk,_,cc,U,fz,ch,post++rest,rfl,h2,h3,?_,g3,g4,(gV _).1 (by simpa [LV.pure] using h7) _ (List.mem_of_getElem? hr)⟩
   rw [←List.drop_drop,h4,g1,←g2]
   simp
 | @loadB T p c hp hT hc =>
  have e1:=hρ p (by simp [Op.operands]);rw [hp] at e1
  have e2:=e1.2 rfl
  simp only [bZ] at e2
  obtain⟨blk,off,cc,U,fz,part,rest,h1,h2,h3,h4,h5,h6,h7⟩:=e2
  simp only [List.cons.injEq,and_true] at h1
  obtain⟨v,g1,g2⟩:=v9 (P:=P) hT h3 h4 h6 (LV.pure_ne_any hc)
  exact⟨v,by simp [execOp,h1,g1],bP.of1 (LV.pure_ne_tup hc) g2⟩
 | @loadE T p b sz i o blk x r n ag hp hb hs hi hx hr hT =>
  have e1:=hρ p (by simp [Op.operands]);rw [hp] at e1
  have e2:=e1.2 rfl
  simp only [bZ] at e2
  obtain⟨id,h1,h2⟩:=e2
  simp only [List.cons.injEq,and_true] at h1
  obtain⟨blk',hb',c,U,part,rest,q1,q2,q3⟩:=hh b id h2
  rw [hb] at hb';cases hb'
  obtain⟨ch,post,k1,k2,k3⟩:=sQ (off:=0) (by simpa using q2) q3 hi
  obtain⟨pre,ch2,post2,j1,j2,j3,j4,j5,j6,j7,j8⟩:=LV.at_spec x o n ag r ch hr k3 (by rw [k2,hs,hx])
  have hd:c.toList.drop (i*sz+o)=ch2++(post2++post):=by
   rw [Nat.zero_add,hs] at k1
   rw [←List.drop_drop,k1,j1,←j2];simp
  obtain⟨v,g1,g2⟩:=v9 (P:=P) (y:=r) (by rw [j5,j6];exact hT) q1 hd j4 j7
  exact⟨v,by simp [execOp,h1,g1],bP.of1 j8 g2⟩
 | @nilChkE x b sz i o hx =>
  have e1:=hρ x (by simp [Op.operands]);rw [hx] at e1
  have e2:=e1.2 rfl
  simp only [bZ] at e2
  obtain⟨id,h1,h2⟩:=e2
  simp only [List.cons.injEq,and_true] at h1
  exact⟨a.eval x,by simp [execOp,h1],e1⟩
 | @nilChkB x c hx =>
  have e1:=hρ x (by simp [Op.operands]);rw [hx] at e1
  have e2:=e1.2 rfl
  simp only [bZ] at e2
  obtain⟨blk,off,cc,U,fz,part,rest,h1,h2⟩:=e2
  simp only [List.cons.injEq,and_true] at h1
  exact⟨a.eval x,by simp [execOp,h1],e1⟩
 | @idxL T E x i sz l k n r ag hx hT hE hi h0 hr hc =>
  have e1:=hρ x (by simp [Op.operands]);rw [hx] at e1
  have e2:=hρ i (by simp [Op.operands]);rw [hi] at e2;have e2:=e2.v_eq
  have e3:=e1.2 rfl
  simp only [bZ] at e3
  obtain⟨ad,len,cap,h1,h2,h3,h4,h9⟩:=e3
  simp only [List.cons.injEq,and_true] at h1
  have hlt:=(List.getElem?_eq_some_iff.1 hr).1
  rcases h4 with h4 | ⟨blk,off,c,U,fz,part,rest,g1,g2,g3,g4,g5⟩
  ·subst h4;simp at hlt
  ·subst g1
   have hn:n<(len:Int):=by omega
   have:=l6 (P:=P) (w:=w) hT hE k n len cap blk off h0 hn
   obtain⟨ch,post,k1,k2,k3⟩:=sQ g4 g5 hr
   refine⟨_,by simp only [execOp,h1,e2,Sem.run_bind,this];rfl,⟨by simp [LV.isAgg],fun _=>?_⟩⟩
   simp only [bZ]
   exact⟨blk,_,c,U,fz,ch,post,rfl,g2,g3,k1,by rw [k2,hc],k3,(gV _).1 h9 _ (List.mem_of_getElem? hr)⟩
 | @idxR T E x i b sz off len k n ag hx hT hE hi h0 hn =>
  have e1:=hρ x (by simp [Op.operands]);rw [hx] at e1
  have e2:=hρ i (by simp [Op.operands]);rw [hi] at e2;have e2:=e2.v_eq
  have e3:=e1.2 rfl
  simp only [bZ] at e3
  rcases e3 with⟨_,e3⟩ | ⟨id,cap,c,U,fz,h1,h2,h3,h4,h5⟩
  ·omega
  simp only [List.cons.injEq,and_true] at h1
  have:=l6 (P:=P) (w:=w) hT hE k n len cap id (off*sz) h0 hn
  refine⟨_,by simp only [execOp,h1,e2,Sem.run_bind,this];rfl,⟨by simp [LV.isAgg],fun _=>?_⟩⟩
  simp only [bZ]
  exact⟨id,by rw [Nat.add_mul];rfl,h2⟩
 | @sliceL T E x sz ag l lo hi la ha hx hT hE hlo hlo0 hhi hhi0 h1 h2 =>
  have e1:=hρ x (by simp [Op.operands]);rw [hx] at e1
  have e3:=e1.2 rfl
  simp only [bZ] at e3
  obtain⟨ad,len,cap,q1,q2,q3,q4,q9⟩:=e3
  simp only [List.cons.injEq,and_true] at q1
  have hb:=mZ (P:=P) (w:=w) true len cap (la.map a.eval) (ha.map a.eval) lo hi
   (fun y hy=>by
    cases la with
    | none=>simp at hy
    | some z =>
     simp only [Option.map_some,Option.some.injEq] at hy
     obtain⟨k,hk⟩:=hlo z rfl
     have:=hρ z (by simp [Op.operands]);rw [hk] at this
     exact⟨k,by rw [←hy];exact this.v_eq⟩)
   (fun h=>hlo0 (by simpa using h))
   (fun y hy=>by
    cases ha with
    | none=>simp at hy
    | some z =>
     simp only [Option.map_some,Option.some.injEq] at hy
     obtain⟨k,hk⟩:=hhi z rfl
     have:=hρ z (by simp [Op.operands]);rw [hk] at this
     exact⟨k,by rw [←hy];exact this.v_eq⟩)
   (fun h=>by rw [q2];exact hhi0 (by simpa using h)) h1 (by omega)
  have hrun:(Instr.sliceAt T (.slice ad len cap) (la.map a.eval) (ha.map a.eval) none).run P w=.ok (.slice (if cap=lo then ad else ad.map (·.add (lo*sz))) (hi-lo) (cap-lo)) w:=by
   simp only [Instr.sliceAt,Sem.run_bind,run_underlying hT,Result.andThen_ok,Instr.slice,hb,dV hE,Sem.run_pure]
  refine⟨_,by simp only [execOp,q1,Option.map_none,Sem.run_bind,hrun];rfl,⟨by simp [LV.isAgg],fun _=>?_⟩⟩
  simp only [bZ]
  refine⟨_,_,_,rfl,by simp;omega,by omega,?_,(gV _).2 fun x hx=>(gV _).1 q9 x (List.mem_of_mem_take (List.mem_of_mem_drop hx))⟩
  by_cases hlt:lo<hi
  ·right
   rcases q4 with q4 | ⟨blk,off,c,U,fz,part,rest,g1,g2,g3,g4,g5⟩
   ·subst q4;simp at h2;omega
   ·subst g1
    have hcl:¬ cap=lo:=by omega
    obtain⟨c1,c2,d1,d2,d3⟩:=aM.split (l.take hi) (l.drop hi) part (by rw [List.take_append_drop];exact g5)
    obtain⟨c3,c4,d4,d5,d6⟩:=aM.split ((l.take hi).take lo) ((l.take hi).drop lo) c1 (by rw [List.take_append_drop];exact d2)
    have hl3:=aM.length _ _ d5
    simp only [List.length_take] at hl3
    refine⟨blk,off+lo*sz,c,U,fz,c4,c2++rest,by simp [hcl,Addr.add_mid],g2,g3,?_,d6⟩
    rw [←List.drop_drop,g4,d1,d4]
    have:lo*sz=c3.length:=by rw [hl3];congr 1;omega
    rw [this];simp
  ·left
   have:lo=hi:=by omega
   subst this
   apply List.eq_nil_of_length_eq_zero
   simp
 | @sliceR T E x b sz off len ag lo hi la ha hx hT hE hlo hlo0 hhi hhi0 h1 h2 hpos =>
  have e1:=hρ x (by simp [Op.operands]);rw [hx] at e1
  have e3:=e1.2 rfl
  simp only [bZ] at e3
  rcases e3 with⟨_,e3⟩ | ⟨id,cap,c,U,fz,q1,q2,q3,q4,q5⟩
  ·omega
  simp only [List.cons.injEq,and_true] at q1
  have hb:=mZ (P:=P) (w:=w) true len cap (la.map a.eval) (ha.map a.eval) lo hi
   (fun y hy=>by
    cases la with
    | none=>simp at hy
    | some z =>
     simp only [Option.map_some,Option.some.injEq] at hy
     obtain⟨k,hk⟩:=hlo z rfl
     have:=hρ z (by simp [Op.operands]);rw [hk] at this
     exact⟨k,by rw [←hy];exact this.v_eq⟩)
   (fun h=>hlo0 (by simpa using h))
   (fun y hy=>by
    cases ha with
    | none=>simp at hy
    | some z =>
     simp only [Option.map_some,Option.some.injEq] at hy
     obtain⟨k,hk⟩:=hhi z rfl
     have:=hρ z (by simp [Op.operands]);rw [hk] at this
     exact⟨k,by rw [←hy];exact this.v_eq⟩)
   (fun h=>hhi0 (by simpa using h)) h1 (by omega)
  have hrun:(Instr.sliceAt T (.slice (some ⟨id,off*sz,none⟩) len cap) (la.map a.eval) (ha.map a.eval) none).run P w =
    .ok (.slice (if cap=lo then some ⟨id,off*sz,none⟩ else some ⟨id,off*sz+lo*sz,none⟩) (hi-lo) (cap-lo)) w:=by
   simp only [Instr.sliceAt,Sem.run_bind,run_underlying hT,Result.andThen_ok,Instr.slice,hb,dV hE,Sem.run_pure,Option.map_some,Addr.add_mid]
  refine⟨_,by simp only [execOp,q1,Option.map_none,Sem.run_bind,hrun];rfl,⟨by simp [LV.isAgg],fun _=>?_⟩⟩
  simp only [bZ]
  have hcl:¬ cap=lo:=by omega
  refine .inr ⟨id,cap-lo,c,U,fz,by simp [hcl,Nat.add_mul],q2,by omega,q4,?_⟩
  have:off+lo+(cap-lo)=off+cap:=by omega
  rw [this];exact q5
 | @sliceR3 T E x b sz off len ag lo hi mx la z zm k k' hx hT hE hlo hlo0 hhi hmx h1 h2 h3 hpos =>
  have e1:=hρ x (by simp [Op.operands]);rw [hx] at e1
  have e3:=e1.2 rfl
  simp only [bZ] at e3
  rcases e3 with⟨_,e3⟩ | ⟨id,cap,c,U,fz,q1,q2,q3,q4,q5⟩
  ·omega
  simp only [List.cons.injEq,and_true] at q1
  have g1:=hρ z (by simp [Op.operands]);rw [hhi] at g1
  have g2:=hρ zm (by simp [Op.operands]);rw [hmx] at g2
  have hb:=w9 (P:=P) (w:=w) len cap (la.map a.eval) lo hi mx k k'
   (fun y hy=>by
    cases la with
    | none=>simp at hy
    | some z =>
     simp only [Option.map_some,Option.some.injEq] at hy
     obtain⟨k,hk⟩:=hlo z rfl
     have:=hρ z (by simp [Op.operands]);rw [hk] at this
     exact⟨k,by rw [←hy];exact this.v_eq⟩)
   (fun h=>hlo0 (by simpa using h)) h1 h2 (by omega)
  have hrun:(Instr.sliceAt T (.slice (some ⟨id,off*sz,none⟩) len cap) (la.map a.eval) (some (a.eval z)) (some (a.eval zm))).run P w =
    .ok (.slice (if mx=lo then some ⟨id,off*sz,none⟩ else some ⟨id,off*sz+lo*sz,none⟩) (hi-lo) (mx-lo)) w:=by
   rw [g1.v_eq,g2.v_eq]
   simp only [Instr.sliceAt,Sem.run_bind,run_underlying hT,Result.andThen_ok,Instr.slice,hb,dV hE,Sem.run_pure,Option.map_some,Addr.add_mid]
  refine⟨_,by simp only [execOp,q1,Option.map_some,Sem.run_bind,hrun];rfl,⟨by simp [LV.isAgg],fun _=>?_⟩⟩
  simp only [bZ]
  have hcl:¬ mx=lo:=by omega
  refine .inr ⟨id,mx-lo,c,U,fz,by simp [hcl,Nat.add_mul],q2,by omega,q4,?_⟩
  have:off+lo+(mx-lo)=off+mx:=by omega
  rw [this]
  exact Nat.le_trans (Nat.mul_le_mul_right _ (by omega)) q5
 | @lenL T x sz l d as hx has hT =>
  have e1:=hρ x (by simp [Op.operands,Call.operands]);rw [hx] at e1
  have e3:=e1.2 rfl
  simp only [bZ] at e3
  obtain⟨ad,len,cap,q1,q2,_⟩:=e3
  simp only [List.cons.injEq,and_true] at q1
  subst has
  exact⟨.int .i64 (l.length:Nat),by simp [execOp,resolve,invoke,builtin,q1,Builtin.len_,run_underlying hT,goInt,q2],bP.int⟩
 | @lenR T x b sz off len d as hx has hT =>
  have e1:=hρ x (by simp [Op.operands,Call.operands]);rw [hx] at e1
  have e3:=e1.2 rfl
  simp only [bZ] at e3
  subst has
  rcases e3 with⟨q1,rfl⟩ | ⟨id,cap,c,U,fz,q1,_⟩
  ·simp only [List.cons.injEq,and_true] at q1
   exact⟨.int .i64 (0:Nat),by simp [execOp,resolve,invoke,builtin,q1,Builtin.len_,run_underlying hT,goInt],bP.int⟩
  simp only [List.cons.injEq,and_true] at q1
  exact⟨.int .i64 (len:Nat),by simp [execOp,resolve,invoke,builtin,q1,Builtin.len_,run_underlying hT,goInt],bP.int⟩
 | @lenN T x d as hx has hT =>
  have e1:=hρ x (by simp [Op.operands,Call.operands]);rw [hx] at e1;have e1:=e1.v_eq
  subst has
  exact⟨.int .i64 (0:Nat),by simp [execOp,resolve,invoke,builtin,e1,Builtin.len_,run_underlying hT,goInt],bP.int⟩
 | @capN T x d as hx has hT =>
  have e1:=hρ x (by simp [Op.operands,Call.operands]);rw [hx] at e1;have e1:=e1.v_eq
  subst has
  exact⟨.int .i64 (0:Nat),by simp [execOp,resolve,invoke,builtin,e1,Builtin.cap_,run_underlying hT,goInt],bP.int⟩
 | @sliceN T E x ha k sz ag hx hT hE hh =>
  have e1:=hρ x (by simp [Op.operands]);rw [hx] at e1;have e1:=e1.v_eq
  have e2:=hρ ha (by simp [Op.operands]);rw [hh] at e2;have e2:=e2.v_eq
  have hb:=mZ (P:=P) (w:=w) true 0 0 none (some (a.eval ha)) 0 0 (fun y hy=>by cases hy) (fun _=>rfl) (fun y hy=>by cases hy;exact⟨k,e2⟩) (fun h=>by cases h) (Nat.le_refl _) (Nat.le_refl _)
  have hrun:(Instr.sliceAt T (.slice none 0 0) none (some (a.eval ha)) none).run P w=.ok (.slice none 0 0) w:=by
   simp only [Instr.sliceAt,Sem.run_bind,run_underlying hT,Result.andThen_ok,Instr.slice,hb,dV hE,Sem.run_pure]
   rfl
  refine⟨_,by simp only [execOp,e1,Option.map_none,Option.map_some,Sem.run_bind,hrun];rfl,bP.v rfl⟩
 | @min2 x y k i j as hx hy =>
  have e1:=hρ x (by simp [Op.operands,Call.operands]);rw [hx] at e1;have e1:=e1.v_eq
  have e2:=hρ y (by simp [Op.operands,Call.operands]);rw [hy] at e2;have e2:=e2.v_eq
  exact⟨.int k (if j<i then j else i),by simp [execOp,resolve,invoke,builtin,e1,e2,Builtin.min_,Builtin.min2],bP.int⟩
 | @max2 x y k i j as hx hy =>
  have e1:=hρ x (by simp [Op.operands,Call.operands]);rw [hx] at e1;have e1:=e1.v_eq
  have e2:=hρ y (by simp [Op.operands,Call.operands]);rw [hy] at e2;have e2:=e2.v_eq
  exact⟨.int k (if j > i then j else i),by simp [execOp,resolve,invoke,builtin,e1,e2,Builtin.max_,Builtin.max2],bP.int⟩
 | @indexS T x i s k n b hx hT hi h0 hb =>
  have e1:=hρ x (by simp [Op.operands]);rw [hx] at e1;have e1:=e1.v_eq
  have e2:=hρ i (by simp [Op.operands]);rw [hi] at e2;have e2:=e2.v_eq
  exact⟨.int .u8 b.toNat,by simp [execOp,e1,e2,Instr.index,asIntOf,run_underlying hT,h0,hb],bP.int⟩
 | @ext2 f xs as fn e vs r1 r2 hf hname hb hn he hx hr h1 h2 =>
  have hargs:xs.map a.eval=vs.toArray:=by
   apply Array.ext'
   rw [Array.toList_map]
   have:∀ (l:List Operand) (vs:List Value),l.map ρ=vs.map LV.v→(∀ x∈l,bP Z μ w (ρ x) (a.eval x))→l.map a.eval=vs:=by
    intro l
    induction l with
    | nil =>
         intro vs h _;cases vs with
         | nil=>rfl
         | cons=>simp at h
    | cons y ys ih =>
     intro vs h hr
     cases vs with
     | nil=>simp at h
     | cons v vs =>
      simp only [List.map_cons,List.cons.injEq] at h ⊢
      have h3:=hr y (by simp)
      rw [h.1] at h3
      exact⟨h3.v_eq,ih vs h.2 (fun z hz=>hr z (by simp [hz]))⟩
   exact this xs.toList vs hx (fun x hx=>hρ x (by simp [Op.operands,Call.operands];right;simpa using hx))
  have hc:=run_callFunc_extern (P:=P) (args:=vs.toArray) hf hname hb hn he w
  refine⟨.tuple #[r1,r2],?_,⟨#[r1,r2],rfl,?_⟩⟩
  ·rw [hr w] at hc
   simp only [execOp,resolve,Act.eval,Deferred.ofValue,Sem.run_bind,Sem.run_pure,Result.andThen_ok,invoke]
   rw [hargs]
   simp only [Array.append_empty,Array.empty_append]
   rw [hc];rfl
  ·exact⟨r1,[r2],rfl,⟨by simp [LV.isAgg],fun _=>by simp [bZ,h1]⟩,r2,[],rfl,⟨by simp [LV.isAgg],fun _=>by simp [bZ,h2]⟩,rfl⟩
 | @addS T x y U s t hx hy h =>
  have e1:=hρ x (by simp [Op.operands]);rw [hx] at e1;have e1:=e1.v_eq
  have e2:=hρ y (by simp [Op.operands]);rw [hy] at e2;have e2:=e2.v_eq
  refine⟨.string (s++t),?_,⟨by simp [LV.isAgg],fun _=>by simp [bZ,Value.oneCell']⟩⟩
  have h1:(binOp .add T (.string s) (.string t)).run P w=.ok (.string (s++t)) w:=by
   simp only [binOp,Op.stringOp]
   rw [if_neg (by have:IntKind.i64.max=9223372036854775807:=rfl;rw [this];omega)];rfl
  simp only [execOp,e1,e2,eqGuard]
  simp [h1]
 | @eqS T x y U s t hx hy =>
  have e1:=hρ x (by simp [Op.operands]);rw [hx] at e1;have e1:=e1.v_eq
  have e2:=hρ y (by simp [Op.operands]);rw [hy] at e2;have e2:=e2.v_eq
  refine⟨.bool (s.toList==t.toList),?_,bP.bool⟩
  have h1:(binOp .eql T (.string s) (.string t)).run P w=.ok (.bool (s.toList==t.toList)) w:=by
   simp only [binOp,Op.stringOp];rfl
  simp only [execOp,e1,e2,eqGuard]
  simp [h1]
 | @strR S D E x b off len blk ns hS hE hD hx hb hs hv hl =>
  have e1:=hρ x (by simp [Op.operands]);rw [hx] at e1
  have e3:=e1.2 rfl
  simp only [bZ] at e3
  refine⟨_,?_,⟨by simp [LV.isAgg],fun _=>by simp only [bZ];exact⟨rfl,by simp [Value.oneCell']⟩⟩⟩
  have hlen:len=ns.length:=by
   have:=congrArg List.length hv
   simp only [List.length_take,List.length_drop,List.length_map] at this;omega
  have hcv:∀ v:Value,(∀ k n,v≠.int k n)→(∀ a b,v≠.float a b)→True:=fun _ _ _=>trivial
  rcases e3 with⟨e3,hl0⟩ | ⟨id,cap,c,U,fz,q1,q2,q3,q4,q5⟩
  ·simp only [List.cons.injEq,and_true] at e3
   have:ns=[]:=List.eq_nil_of_length_eq_zero (by omega)
   subst this
   simp [execOp,e3,convert,run_underlying hS,run_underlying hD,run_underlying hE,Conv.bytesToString]
  ·simp only [List.cons.injEq,and_true] at q1
   obtain⟨blk',g1,cc,T',part,rest,g2,g3,g4⟩:=hh b id q2
   rw [hb] at g1;cases g1
   rw [hs] at g4
   have hcell:∀ (l:List LV) (ps:List Value),aM Z μ w 1 l ps→∀ (j n:Nat),l[j]?=some (.v (.int .u8 (n:Nat)))→ps[j]?=some (.int .u8 (n:Nat)):=by
    intro l
    induction l with
    | nil=>intro ps _ j n h;simp at h
    | cons y ys ih =>
     intro ps hr j n h
     simp only [aM] at hr
     obtain⟨ch,ps',rfl,k1,k2,k3⟩:=hr
     match ch,k1 with
     | [u],_ =>
      cases j with
      | zero =>
       simp only [List.getElem?_cons_zero,Option.some.injEq] at h
       subst h
       simp only [bZ] at k2
       obtain⟨k2,_⟩:=k2
       simp only [List.cons.injEq,and_true] at k2
       simp [k2]
      | succ j =>
       have:=ih ps' k3 j n (by simpa using h)
       simpa using this
   have hld:(loadCells ⟨id,off*1,none⟩ len).run P w=.ok ((ns.map Int.ofNat).map (Value.int .u8)).toArray w:=by
    have hL:len=((ns.map Int.ofNat).map (Value.int .u8)).length:=by simp [hlen]
    rw [hL]
    refine run_loadCells_list w _ _ (fun j v hv'=>?_)
    have hj:j<ns.length:=by
     rcases Nat.lt_or_ge j ns.length with h | h
     ·exact h
     ·rw [List.getElem?_eq_none (by simpa using h)] at hv';cases hv'
    have hv2:v=.int .u8 ((ns[j]:Nat):Int):=by
     rw [List.getElem?_eq_getElem (by simpa using hj)] at hv'
     simp at hv';exact hv'.symm
    have hvj:blk.vals[off+j]?=some (.v (.int .u8 ((ns[j]:Nat):Int))):=by
     have:=congrArg (fun l=>l[j]?) hv
     simp only [List.getElem?_take,if_pos (show j<len by omega),List.getElem?_drop,List.getElem?_map,List.getElem?_eq_getElem hj,Option.map_some] at this
     exact this
    have hp:=hcell _ _ g4 (off+j) _ hvj
    have hadd:(⟨id,off*1,none⟩:Addr).add j=⟨id,off+j,none⟩:=by unfold Addr.add;split<;>simp_all
    rw [hadd,cell_of_row w id (off+j) cc T' (0,0) g2,hv2]
    rw [←Array.getElem?_toList,g3,List.getElem?_append_left (by rcases Nat.lt_or_ge (off+j) part.length with h | h;exact h;rw [List.getElem?_eq_none h] at hp;cases hp)]
    exact hp
   have hbs:=run_bytesToString w _ len cap _ hld
   simp only [execOp,q1]
   rw [Sem.run_bind]
   have:(convert S D (.slice (some ⟨id,off*1,none⟩) len cap)).run P w=.ok (.string ((ns.map Int.ofNat).foldl (fun r n=>r.push (UInt8.ofNat n.toNat)) ByteArray.empty)) w:=by
    simp only [convert,Sem.run_bind,run_underlying hS,run_underlying hD,Result.andThen_ok,run_underlying hE]
    exact hbs
   rw [this];rfl
 | @buildA T E zs ps n sz ag hT hE hf hz hp =>
  have hm:∀ p∈ps.toList,bP Z μ w (ρ p.2) (a.eval p.2):=fun p hp=>hρ p.2 (by simp [Op.operands];exact⟨p.1,by simpa using hp⟩)
  obtain⟨v,h1,h2⟩:=y7 (P:=P) (Z:=Z) (μ:=μ) (w:=w) (a:=a) hT hE hf hz hp hm
  exact⟨v,by simp only [execOp];rw [Sem.run_bind,h1];rfl,h2⟩
 | @build T zs ps hT hz hp =>
  have hm:∀ p∈ps.toList,bP Z μ w (ρ p.2) (a.eval p.2):=fun p hp=>hρ p.2 (by simp [Op.operands];exact⟨p.1,by simpa using hp⟩)
  obtain⟨v,h1,h2⟩:=aA5 (P:=P) (Z:=Z) (μ:=μ) (w:=w) (a:=a) hT hz hp hm
  exact⟨v,by simp only [execOp];rw [Sem.run_bind,h1];rfl,h2⟩
end
end Go.Lg
namespace Go.Lg
def cM.le (H H':cM):Prop:=∀ b blk,H b=some blk→∃ m,H' b=some ⟨blk.sz,blk.vals,m⟩∧(blk.mt=false→m=false)∧(blk.mt=true→m=false→b≠0)
def upd (μ:Nat→Option Nat) (d id:Nat):Nat→Option Nat:=fun b=>if b=d then some id else μ b
section
variable {P:Program} {W w w':World} {X:XS} {Z0 Z:Nat→Prop} {μ:Nat→Option Nat} {H:cM}
theorem kB.mono {Z':Nat→Prop} {μ':Nat→Option Nat} {blk:Blk} {id:Nat} (hz:∀ id,Z id→Z' id) (hm:∀ b id,μ b=some id→μ' b=some id) (hf:Frame Z μ w w')
  (hid:w'.heap[id]?=w.heap[id]?) (h:kB Z μ w blk id):kB Z' μ' w' blk id:=by
 obtain⟨c,T,part,rest,h1,h2,h3⟩:=h
 exact⟨c,T,part,rest,hid.trans h1,h2,h3.mono hz hm hf⟩
theorem Core.lt (hc:Core W X Z0 μ Z H w) {b id:Nat} (h:μ b=some id):id<w.heap.size:=by
 obtain⟨blk,_,c,T,part,rest,h1,_⟩:=hc.heap b id h
 exact(Array.getElem?_eq_some_iff.1 h1).1
theorem Core.widen {H':cM} (hc:Core W X Z0 μ Z H w) (hle:H.le H'):∃ Z',Core W X Z0 μ Z' H' w∧(∀ id,Z id→Z' id):=by
 refine⟨fun id=>Z id∨∃ b blk,μ b=some id∧H' b=some blk∧blk.mt=false,⟨hc.keep,?_,fun id h=>.inl (hc.zsup id h),?_,hc.inj,hc.own,hc.x0,hc.xlt,hc.x1,?_,fun b id blk h1 h2 h3=>.inr ⟨b,blk,h1,h2,h3⟩,?_⟩,fun id h=>.inl h⟩
 ·rintro id (h | ⟨b,blk,h,_⟩)
  ·exact hc.zone id h
  ·exact hc.lt h
 ·rintro id (h | ⟨b,blk,h,h2,h3⟩)
  ·exact hc.zsub id h
  ·obtain⟨blk0,g1,_⟩:=hc.heap b id h
   obtain⟨m,g2,g3,g4⟩:=hle b blk0 g1
   rw [g2] at h2;cases h2
   simp only at h3;subst h3
   cases hm:blk0.mt with
   | false=>exact hc.zsub id (hc.frz b id blk0 h g1 hm)
   | true =>
    rcases hc.own b id h with h | h' | h'
    ·exact .inr (.inl h)
    ·exact absurd (hc.x0 b id h h') (g4 hm rfl)
    ·exact .inr (.inr h')
 ·rintro b id blk h1 h2 h3 (h | ⟨b',blk',h4,h5,h6⟩)
  ·obtain⟨blk0,g1,_⟩:=hc.heap b id h1
   obtain⟨m,g2,g3,_⟩:=hle b blk0 g1
   rw [g2] at h2;cases h2
   cases hm:blk0.mt with
   | false=>have:=g3 hm;subst this;simp at h3
   | true=>exact hc.mutz b id blk0 h1 g1 hm h
  ·have:=hc.inj b b' id h1 h4
   subst this
   rw [h2] at h5;cases h5
   simp [h3] at h6
 ·intro b id h
  obtain⟨blk,g1,g2⟩:=hc.heap b id h
  obtain⟨m,g3,_⟩:=hle b blk g1
  refine⟨_,g3,?_⟩
  obtain⟨c,T,part,rest,h1,h2,h3⟩:=g2
  exact⟨c,T,part,rest,h1,h2,h3.mono (fun id h=>.inl h) (fun _ _ h=>h) (Frame.refl _ _ _) |>.mono (fun _ h=>h) (fun _ _ h=>h) ⟨fun _ _=>rfl,(Frame.refl Z μ w).m⟩⟩
structure Pushed (w w':World) (o:Obj):Prop where
 os:w'.os=w.os
 tape:w'.tape=w.tape
 output:w'.output=w.output
 heap:w'.heap=w.heap.push o
theorem Pushed.old {o:Obj} (h:Pushed w w' o) {k:Nat} (hk:k<w.heap.size):w'.heap[k]?=w.heap[k]?:=by
 rw [h.heap,Array.getElem?_push,if_neg (by omega)]
theorem Pushed.new {o:Obj} (h:Pushed w w' o):w'.heap[w.heap.size]?=some o:=by
 rw [h.heap];simp
theorem Pushed.alloc (w:World) (o:Obj):Pushed w (w.alloc o) o:=⟨rfl,rfl,rfl,rfl⟩
theorem Core.frame_old (hc:Core W X Z0 μ Z H w) (hold:∀ k,k<w.heap.size→w'.heap[k]?=w.heap[k]?):Frame Z μ w w' :=
 ⟨fun id h=>hold id (hc.zone id h),fun _ id h c _ _ hh=>⟨c,(hold id (hc.lt h)).trans hh,rfl⟩⟩
theorem Core.push {d:Nat} {blk:Blk} {c:Array Value} {T:TypeId} {part rest:List Value} (hc:Core W X Z0 μ Z H w) (hd:H d=some blk) (hμ:μ d=none)
  (hp:Pushed w w' (.cells c T (0,0))) (h1:c.toList=part++rest) (h2:aM Z μ w blk.sz blk.vals part) :
  ∃ Z',Core W X Z0 (upd μ d w.heap.size) Z' H w'∧(∀ id,Z id→Z' id)∧(∀ b id,μ b=some id→upd μ d w.heap.size b=some id)∧Frame Z μ w w' ∧
   upd μ d w.heap.size d=some w.heap.size∧w'.heap[w.heap.size]?=some (.cells c T (0,0)):=by
 have hup:∀ b id,μ b=some id→upd μ d w.heap.size b=some id:=fun b id h=>by
  unfold upd;split
  ·subst_vars;rw [hμ] at h;cases h
  ·exact h
 have hfr:=hc.frame_old (fun k hk=>hp.old hk)
 have hinv:∀ b id,upd μ d w.heap.size b=some id→(b=d∧id=w.heap.size)∨(b≠d∧μ b=some id):=fun b id h=>by
  unfold upd at h;split at h
  ·cases h;exact .inl ⟨by assumption,rfl⟩
  ·exact .inr ⟨by assumption,h⟩
 have hzz:∀ id,Z id→(Z id∨(blk.mt=false∧id=w.heap.size)):=fun id h=>.inl h
 refine⟨fun id=>Z id∨(blk.mt=false∧id=w.heap.size),⟨?_,?_,fun id h=>.inl (hc.zsup id h),?_,?_,?_,?_,hc.xlt,fun id h=>hup 0 id (hc.x1 id h),?_,?_,?_⟩,hzz,hup,hfr,by simp [upd],hp.new⟩
 ·exact⟨hp.os.trans hc.keep.os,hp.tape.trans hc.keep.tape,hp.output.trans hc.keep.output,by rw [hp.heap,Array.size_push];have:=hc.keep.size;omega,
   fun k hk hx=>(hp.old (by have:=hc.keep.size;omega)).trans (hc.keep.block k hk hx),
   fun k hx c T fz h=>let ⟨c',g1,g2⟩:=hc.keep.xsz k hx c T fz h;⟨c',(hp.old (Array.getElem?_eq_some_iff.1 g1).1).trans g1,g2⟩⟩
 ·rintro id (h | ⟨_,rfl⟩)
  ·have:=hc.zone id h;rw [hp.heap,Array.size_push];omega
  ·rw [hp.heap,Array.size_push];omega
 ·rintro id (h | ⟨_,rfl⟩)
  ·exact hc.zsub id h
  ·exact .inr (.inl hc.keep.size)
 ·intro b b' id h h'
  rcases hinv b id h with⟨rfl,rfl⟩ | ⟨n1,h1⟩<;>rcases hinv b' _ h' with⟨rfl,e⟩ | ⟨n2,h2⟩
  ·rfl
  ·have:=hc.lt h2;omega
  ·have:=hc.lt h1;omega
  ·exact hc.inj b b' id h1 h2
 ·intro b id h
  rcases hinv b id h with⟨rfl,rfl⟩ | ⟨n1,h1⟩
  ·exact .inl hc.keep.size
  ·exact hc.own b id h1
 ·intro b id h hx
  rcases hinv b id h with⟨rfl,rfl⟩ | ⟨n1,h1⟩
  ·have:=hc.xlt _ (.inl hx);have:=hc.keep.size;omega
  ·exact hc.x0 b id h1 hx
 ·rintro b id bk h hb hm (hz | ⟨hz1,rfl⟩)
  ·rcases hinv b id h with⟨rfl,rfl⟩ | ⟨n1,h1⟩
   ·have:=hc.zone _ hz;omega
   ·exact hc.mutz b id bk h1 hb hm hz
  ·rcases hinv b _ h with⟨rfl,_⟩ | ⟨n1,h1⟩
   ·rw [hd] at hb;cases hb;simp [hm] at hz1
   ·have:=hc.lt h1;omega
 ·intro b id bk h hb hm
  rcases hinv b id h with⟨rfl,rfl⟩ | ⟨n1,h1⟩
  ·rw [hd] at hb;cases hb;exact .inr ⟨hm,rfl⟩
  ·exact .inl (hc.frz b id bk h1 hb hm)
 ·intro b id h
  rcases hinv b id h with⟨rfl,rfl⟩ | ⟨n1,h3⟩
  ·exact⟨blk,hd,c,T,part,rest,hp.new,h1,h2.mono hzz hup hfr⟩
  ·obtain⟨bk,g1,g2⟩:=hc.heap b id h3
   exact⟨bk,g1,g2.mono hzz hup hfr (hp.old (hc.lt h3))⟩
end
mutual
inductive Imm (H:cM):LV→LV→Prop
 | pure {x} (h:x.pure=true):Imm H x x
 | nil (sz):Imm H (.v (.slice none 0 0)) (.list sz [])
 | ref {b sz off len blk} (hb:H b=some blk) (hs:blk.sz=sz) (hp:aV blk.vals=true) (hl:off+len≤blk.vals.length) (hf:blk.mt=false) :
   Imm H (.ref b sz off len) (.list sz ((blk.vals.drop off).take len))
 | eptr {b sz i o blk x y n ag} (hb:H b=some blk) (hs:blk.sz=sz) (hi:blk.vals[i]?=some x) (hx:x.csize=sz) (hy:x.at o n ag=some y) (hp:y.pure=true) (hf:blk.mt=false) :
   Imm H (.eptr b sz i o) (.boxp y)
 | refI {b sz off len blk l'} (hb:H b=some blk) (hs:blk.sz=sz) (hl:off+len≤blk.vals.length) (hf:blk.mt=false) (h:ImmL H ((blk.vals.drop off).take len) l'):Imm H (.ref b sz off len) (.list sz l')
 | agg {l l'} (h:ImmL H l l'):Imm H (.agg l) (.agg l')
inductive ImmL (H:cM):List LV→List LV→Prop
 | nil:ImmL H [] []
 | cons {x y xs ys} (h:Imm H x y) (t:ImmL H xs ys):ImmL H (x :: xs) (y :: ys)
end
section
variable {W w:World} {X:XS} {Z0 Z:Nat→Prop} {μ μ':Nat→Option Nat} {H H':cM}
mutual
theorem Imm.lay:∀ {x y:LV},Imm H x y→y.isAgg=x.isAgg∧y.csize=x.csize∧y.pure=true
 | _,_,.pure h=>⟨rfl,rfl,h⟩
 | _,_,.nil _=>⟨rfl,rfl,rfl⟩
 | _,_,.ref hb hs hp hl hf=>⟨rfl,rfl,by
   simp only [LV.pure]
   rw [gV] at hp ⊢
   exact fun x hx=>hp x (List.mem_of_mem_drop (List.mem_of_mem_take hx))⟩
 | _,_,.eptr hb hs hi hx hy hp hf=>⟨rfl,rfl,by simpa [LV.pure] using hp⟩
 | _,_,.refI hb hs hl hf h=>⟨rfl,rfl,by simpa [LV.pure] using (ImmL.lay h).2⟩
 | _,_,.agg h=>by
   have:=ImmL.lay h
   exact⟨rfl,by simp [LV.csize,this.1],by simp [LV.pure,this.2]⟩
theorem ImmL.lay:∀ {x y:List LV},ImmL H x y→aL y=aL x∧aV y=true
 | _,_,.nil=>⟨rfl,rfl⟩
 | _,_,.cons h t=>by
   have h1:=Imm.lay h
   have h2:=ImmL.lay t
   exact⟨by simp [aL,h1.2.1,h2.1],by simp [aV,h1.2.2,h2.2]⟩
end
theorem ImmL.len:∀ {x y:List LV},ImmL H x y→y.length=x.length
 | _,_,.nil=>rfl
 | _,_,.cons _ t=>by simp [ImmL.len t]
mutual
theorem Imm.sound (hc:Core W X Z0 μ Z H w):∀ {x y:LV} {cs:List Value},Imm H x y→bZ Z μ w x cs→bZ Z μ' w y cs
 | _,_,_,.pure h,hr=>bZ.repure (fun _ h=>h) (fun _ _=>rfl) _ _ h hr
 | _,_,_,.nil sz,hr=>by
   simp only [bZ] at hr ⊢
   exact⟨none,0,0,hr.1,rfl,Nat.le_refl _,.inl trivial,rfl⟩
 | _,_,_,@Imm.ref _ b sz off len blk hb hs hp hl hf,hr=>by
   simp only [bZ] at hr ⊢
   rcases hr with⟨hr,rfl⟩ | ⟨id,cap,c,T,fz,h1,h2,h3,h4,h5⟩
   ·exact⟨none,0,0,hr,by simp,Nat.le_refl _,.inl (by simp),by simp [aV]⟩
   obtain⟨blk',g1,c',T',part,rest,g2,g3,g4⟩:=hc.heap b id h2
   rw [hb] at g1;cases g1
   rw [h4] at g2;cases g2
   refine⟨_,_,_,h1,by simp;omega,h3,?_,(gV _).2 fun x hx=>(gV _).1 hp x (List.mem_of_mem_drop (List.mem_of_mem_take hx))⟩
   have hz:=hc.frz b id blk h2 hb hf
   right
   obtain⟨c1,c2,d1,d2,d3⟩:=aM.split (blk.vals.take off) (blk.vals.drop off) part (by rw [List.take_append_drop];exact g4)
   obtain⟨c3,c4,d4,d5,d6⟩:=aM.split ((blk.vals.drop off).take len) ((blk.vals.drop off).drop len) c2 (by rw [List.take_append_drop];exact d3)
   have hl1:=aM.length _ _ d2
   rw [List.length_take,Nat.min_eq_left (by omega),hs] at hl1
   refine⟨id,off*sz,c,T,(0,0),c3,c4++rest,rfl,hz,h4,?_,?_⟩
   ·rw [g3,d1,d4,←hl1];simp
   ·rw [hs] at d5
    refine aM.repure (fun _ h=>h) (fun _ _=>rfl) _ _ _ ?_ d5
    rw [gV] at hp ⊢
    exact fun x hx=>hp x (List.mem_of_mem_drop (List.mem_of_mem_take hx))
 | _,_,_,@Imm.eptr _ b sz i o blk x y n ag hb hs hi hx hy hp hf,hr=>by
   simp only [bZ] at hr ⊢
   obtain⟨id,h1,h2⟩:=hr
   obtain⟨blk',g1,c,T,part,rest,g2,g3,g4⟩:=hc.heap b id h2
   rw [hb] at g1;cases g1
   have hz:=hc.frz b id blk h2 hb hf
   obtain⟨ch,post,k1,k2,k3⟩:=sQ (off:=0) (by simpa using g3) g4 hi
   obtain⟨pre,ch2,post2,j1,j2,j3,j4,j5,j6,j7,j8⟩:=LV.at_spec x o n ag y ch hy k3 (by rw [k2,hs,hx])
   refine⟨id,_,c,T,(0,0),ch2,post2++post,h1,hz,g2,?_,by rw [j3,j6],bZ.repure (fun _ h=>h) (fun _ _=>rfl) _ _ hp j4,hp⟩
   rw [Nat.zero_add,hs] at k1
   rw [←List.drop_drop,k1,j1,←j2];simp
 | _,_,_,@Imm.refI _ b sz off len blk l' hb hs hl hf h,hr=>by
   simp only [bZ] at hr ⊢
   have hll:=ImmL.len h
   have hlp:=(ImmL.lay h).2
   rw [List.length_take,List.length_drop,Nat.min_eq_left (by omega)] at hll
   rcases hr with⟨hr,rfl⟩ | ⟨id,cap,c,T,fz,h1,h2,h3,h4,h5⟩
   ·exact⟨none,0,0,hr,hll.symm,Nat.le_refl _,.inl (List.length_eq_zero_iff.1 hll),hlp⟩
   obtain⟨blk',g1,c',T',part,rest,g2,g3,g4⟩:=hc.heap b id h2
   rw [hb] at g1;cases g1
   rw [h4] at g2;cases g2
   refine⟨_,_,_,h1,hll.symm,h3,?_,hlp⟩
   have hz:=hc.frz b id blk h2 hb hf
   right
   obtain⟨c1,c2,d1,d2,d3⟩:=aM.split (blk.vals.take off) (blk.vals.drop off) part (by rw [List.take_append_drop];exact g4)
   obtain⟨c3,c4,d4,d5,d6⟩:=aM.split ((blk.vals.drop off).take len) ((blk.vals.drop off).drop len) c2 (by rw [List.take_append_drop];exact d3)
   have hl1:=aM.length _ _ d2
   rw [List.length_take,Nat.min_eq_left (by omega),hs] at hl1
   refine⟨id,off*sz,c,T,(0,0),c3,c4++rest,rfl,hz,h4,?_,?_⟩
   ·rw [g3,d1,d4,←hl1];simp
   ·rw [hs] at d5
    exact ImmL.soundA hc h d5
 | _,_,_,.agg h,hr=>by
   simp only [bZ] at hr ⊢
   exact ImmL.sound hc h hr
theorem ImmL.sound (hc:Core W X Z0 μ Z H w):∀ {x y:List LV} {cs:List Value},ImmL H x y→bV Z μ w x cs→bV Z μ' w y cs
 | _,_,_,.nil,hr=>by simpa [bV] using hr
 | _,_,_,.cons h t,hr=>by
   simp only [bV] at hr ⊢
   obtain⟨c1,c2,rfl,h2,h3,h4⟩:=hr
   exact⟨c1,c2,rfl,by rw [h2,(Imm.lay h).2.1],Imm.sound hc h h3,ImmL.sound hc t h4⟩
theorem ImmL.soundA (hc:Core W X Z0 μ Z H w) {sz:Nat}:∀ {x y:List LV} {cs:List Value},ImmL H x y→aM Z μ w sz x cs→aM Z μ' w sz y cs
 | _,_,_,.nil,hr=>by simpa [aM] using hr
 | _,_,_,.cons h t,hr=>by
   simp only [aM] at hr ⊢
   obtain⟨c1,c2,rfl,h2,h3,h4⟩:=hr
   exact⟨c1,c2,rfl,h2,Imm.sound hc h h3,ImmL.soundA hc t h4⟩
end
mutual
theorem Imm.le (hle:H.le H'):∀ {x y:LV},Imm H x y→Imm H' x y
 | _,_,.pure h=>.pure h
 | _,_,.nil sz=>.nil sz
 | _,_,.ref hb hs hp hl hf=>by
   obtain⟨m,g1,g2,_⟩:=hle _ _ hb
   exact Imm.ref (blk:=⟨_,_,m⟩) g1 hs hp hl (g2 hf)
 | _,_,.eptr hb hs hi hx hy hp hf=>by
   obtain⟨m,g1,g2,_⟩:=hle _ _ hb
   exact Imm.eptr (blk:=⟨_,_,m⟩) g1 hs hi hx hy hp (g2 hf)
 | _,_,.refI hb hs hl hf h=>by
   obtain⟨m,g1,g2,_⟩:=hle _ _ hb
   exact Imm.refI (blk:=⟨_,_,m⟩) g1 hs hl (g2 hf) (ImmL.le hle h)
 | _,_,.agg h=>.agg (ImmL.le hle h)
theorem ImmL.le (hle:H.le H'):∀ {x y:List LV},ImmL H x y→ImmL H' x y
 | _,_,.nil=>.nil
 | _,_,.cons h t=>.cons (Imm.le hle h) (ImmL.le hle t)
end
theorem Imm.ne {x y:LV} (h:Imm H x y):x≠.any∧∀ l,x≠.tup l:=by
 cases h with
 | pure h=>exact⟨LV.pure_ne_any h,LV.pure_ne_tup h⟩
 | _=>exact⟨by simp,by simp⟩
theorem Imm.soundV (hc:Core W X Z0 μ Z H w) {x y:LV} {v:Value} (h:Imm H x y) (hr:bP Z μ w x v):dW Z μ' w y v:=by
 have h1:=bP.to1 h.ne.2 h.ne.1 hr
 obtain⟨e1,_,_⟩:=h.lay
 exact⟨fun e=>let ⟨cs,g1,g2⟩:=h1.1 (e1 ▸ e);⟨cs,g1,Imm.sound hc h g2⟩,fun e=>Imm.sound hc h (h1.2 (e1 ▸ e))⟩
end
end Go.Lg
end
