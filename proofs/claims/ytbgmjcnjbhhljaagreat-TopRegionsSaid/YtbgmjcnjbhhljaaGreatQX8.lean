/- Texts LgP of this proof, joined. -/
import Derived.Test.YtbgmjcnjbhhljaaGreatQX7
import Derived.OpenShut
set_option linter.unusedVariables false
set_option linter.unusedSimpArgs false
open Array renaming getElem?_toList->xP
open List renaming append_nil->eX,getD_cons_succ->iG,getD_cons_zero->ij,getElem?_drop->wv,length_cons->dO,length_map->bF,length_nil->ff,nil_append->eF,set_cons_succ->cd,set_cons_zero->cw,take_nil->gE
open Nat renaming reduceAdd->aW,reduceBEq->aS,reduceEqDiff->cy,reduceMul->aZ
section
set_option linter.unusedVariables false
set_option linter.unusedSimpArgs false
namespace Go.Lg
open Go.RowKit
def rz(k:IntKind)(w:World)(a:Option Addr)(len cap:Nat)(zs:List Int):Prop :=
 (a=none/\len=0/\cap=0/\zs=[]) \/
 ∃x,a=some x/\len<=cap/\cap<=maxLen/\zs.length=cap/\(∀i,i<zs.length->w.cell? (x.add i)=some (.int k (zs.getD i 0)))/\∀n∈zs,(Lit.int k n).wf=true
theorem axO{P:Program}{f:FuncId}{args:List LV}(h:ke P f args (bL true) [])(W:World)(Z:Nat->Prop)(vs:List Value)(hz:∀id,Z id->id<W.heap.size)(hr:dQ Z (fun _=>none) W args vs):
  Calls P f vs.toArray W fun e w'=>e=.returned (.bool true)/\Below W.heap.size W w':=by
 refine(h.2 W Z vs hz hr).mono fun e w' ⟨v,μ,Z',h1,h2,h3⟩=>?_;rw[h3.cV]at h1;exact⟨h1,h2.bB.below⟩
theorem ack{n:Int}(h:(Lit.int .i64 n).wf=true):-9223372036854775808<=n/\n<=9223372036854775807:=by
 simp only[Lit.wf,Bool.and_eq_true,decide_eq_true_eq]at h;exact⟨h.1,h.2⟩
theorem aev{Z:Nat->Prop}{μ:Nat->Option Nat}{w:World}{x:LV}{xs:List LV}{v:Value}{vs:List Value}(h:dD Z μ w x v)(t:dQ Z μ w xs vs):dQ Z μ w (x::xs) (v::vs):=⟨v,vs,rfl,h,t⟩
theorem aeQ{Z:Nat->Prop}{μ:Nat->Option Nat}{w:World}(n:Int):dD Z μ w (iL n) (.int .i64 n):=⟨(fun h=>by cases h),fun _=>⟨rfl,rfl⟩⟩
section
variable {w:World} {a:Option Addr} {len cap:Nat} {zs:List Int}
theorem rz.cells(h:rz .i64 w a len cap zs)(h0:0<len):∃(x:Addr) (c:Array Value) (T:TypeId) (fz:Nat×Nat),a=some ⟨x.block,x.off,none⟩/\w.heap[x.block]?=some (.cells c T fz)/\len<=zs.length/\∀i,i<zs.length->c[x.off+i]?=some (.int .i64 (zs.getD i 0)):=by
 rcases h with⟨_,h1,_⟩|⟨x,rfl,h1,h2,h3,h4,_⟩
 ·omega
 have c0:=h4 0 aa;have hs:x.spot=none:=by simpa[Addr.add]using World.cell?_spot c0
 obtain⟨b,off,spot⟩:=x;simp only at hs;subst hs;have acJ:∀i,(⟨b,off,none⟩:Addr).add i=⟨b,off+i,none⟩:=fun i=>by unfold Addr.add;split<;>simp_all
 rw[acJ]at c0;unfold World.cell? at c0
 cases hq:w.heap[b]? with
 |none=>simp[hq]at c0
 |some o =>
  cases o with
  |cells c T fz =>
   refine⟨⟨b,off,none⟩,c,T,fz,rfl,hq,aa,fun i hi=>?_⟩;have:=h4 i hi;rw[acJ]at this;unfold World.cell? at this;simpa[hq]using this
  |_=>simp[hq]at c0
theorem rz.aoO(h:rz .i64 w a len cap zs):(zs.take len).length=len:=by
 rcases h with⟨_,h1,_,h2⟩|⟨x,_,h1,_,h3,_⟩
 ·subst h1;rfl
 rw[List.length_take];omega
theorem rz.wf(h:rz .i64 w a len cap zs):(zs.take len).length<=9223372036854775807/\∀n∈zs.take len,-9223372036854775808<=n/\n<=9223372036854775807:=by
 refine⟨?_,fun n hn=>?_⟩
 ·rw[h.aoO];rcases h with⟨_,h1,_⟩|⟨x,_,h1,h2,_⟩
  ·omega
  have:maxLen=9223372036854775807:=an;omega
 rcases h with⟨_,_,_,h2⟩|⟨x,_,_,_,_,_,h5⟩
 ·subst h2;simp at hn
 exact ack (h5 n (List.mem_of_mem_take hn))
theorem rz.lt(h:rz .i64 w a len cap zs){id:Nat}(hx:∃x,a=some x/\x.block=id/\0<len):id<w.heap.size:=by
 obtain⟨x,hx,rfl,h0⟩:=hx;obtain⟨y,c,T,fz,h1,h2,_⟩:=h.cells h0;rw[hx]at h1
 cases h1
 exact(Array.getElem?_eq_some_iff.1 h2).1
theorem alp{Z:Nat->Prop}{μ:Nat->Option Nat}{w:World}:∀(l:List Int),aw Z μ w 1 (l.map jx) (l.map (Value.int .i64))
 | []=>rfl
 |n::l=>⟨[.int .i64 n],l.map (Value.int .i64),rfl,rfl,⟨rfl,rfl⟩,alp l⟩
theorem auW(h:rz .i64 w a len cap zs){Z:Nat->Prop}(hZ:∀x,a=some x->0<len->Z x.block):dD Z (fun _=>none) w (.list 1 ((zs.take len).map jx)) (.slice a len cap):=by
 refine⟨fun h=>by simp[LV.isAgg]at h,fun _=>?_⟩;have hl:=h.aoO;have hlc:len<=cap:=by
  rcases h with⟨_,h1,_⟩|⟨x,_,h1,_⟩<;>omega
 simp only[ao];refine⟨a,len,cap,rfl,by rw[bF,hl],hlc,?_,bS m8 _⟩;by_cases h0:len=0
 ·left;subst h0;rfl
 right;obtain⟨x,c,T,fz,h1,h2,h3,h4⟩:=h.cells aa;refine⟨x.block,x.off,c,T,fz,(zs.take len).map (Value.int .i64),c.toList.drop (x.off+len),h1,hZ ⟨x.block,x.off,none⟩ h1 aa,h2,?_,alp _⟩;apply List.ext_getElem?;intro i;rw[wv,xP];by_cases hi:i<len
 ·rw[List.getElem?_append_left bm,h4 i aa,List.getElem?_map,List.getElem?_take,if_pos hi,List.getD_eq_getElem?_getD,List.getElem?_eq_getElem aa];rfl
 rw[List.getElem?_append_right bm,wv,xP,bF,hl];congr 1;omega
end
end Go.Lg
end
