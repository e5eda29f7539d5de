/- Texts LgP of this proof, joined. -/
import Derived.Test.YtbkmfcmgilhaaaaGreatQW9
import Derived.OpenShut
set_option linter.unusedVariables false
set_option linter.unusedSimpArgs false
open Array renaming getElem?_toList->afy
open List renaming append_nil->ey,getElem?_drop->u6,length_cons->dR,length_map->cC,length_nil->fX,length_set->lQ,map_nil->gy,nil_append->fD,set_cons_succ->du,set_cons_zero->dD,take_nil->gU
open Nat renaming reduceAdd->bp,reduceBEq->bh,reduceEqDiff->dC,reduceMul->bo
section
set_option linter.unusedVariables false
set_option linter.unusedSimpArgs false
namespace Go.Lg
open Go.RowKit
def zq(k:IntKind)(w:World)(a:Option Addr)(len cap:Nat)(zs:List Int):Prop :=
 (a=none/\len=0/\cap=0/\zs=[]) \/
 ∃x,a=some x/\len<=cap/\cap<=maxLen/\zs.length=cap/\(∀i,i<zs.length->w.cell? (x.add i)=some (.int k (zs.getD i 0)))/\∀n∈zs,(Lit.int k n).wf=true
theorem aKQ{P:Program}{f:FuncId}{args:List LV}(h:mW P f args (bL true) [])(W:World)(Z:Nat->Prop)(vs:List Value)(hz:∀id,Z id->id<W.heap.size)(hr:il Z (fun _=>none) W args vs):
  Calls P f vs.toArray W fun e w'=>e=.returned (.bool true)/\Below W.heap.size W w':=by
 refine(h.2 W Z vs hz hr).mono fun e w' ⟨v,μ,Z',h1,h2,h3⟩=>?_;rw[h3.iO]at h1;exact⟨h1,h2.cV.below⟩
theorem aeP{n:Int}(h:(Lit.int .i64 n).wf=true):-9223372036854775808<=n/\n<=9223372036854775807:=by
 simp only[Lit.wf,Bool.and_eq_true,decide_eq_true_eq]at h;exact⟨h.1,h.2⟩
theorem af7{Z:Nat->Prop}{μ:Nat->Option Nat}{w:World}{x:LV}{xs:List LV}{v:Value}{vs:List Value}(h:g8 Z μ w x v)(t:il Z μ w xs vs):il Z μ w (x::xs) (v::vs):=⟨v,vs,rfl,h,t⟩
theorem agr{Z:Nat->Prop}{μ:Nat->Option Nat}{w:World}(n:Int):g8 Z μ w (iL n) (.int .i64 n):=⟨(fun h=>by cases h),fun _=>⟨rfl,rfl⟩⟩
section
variable {w:World} {a:Option Addr} {len cap:Nat} {zs:List Int}
theorem zq.cells(h:zq .i64 w a len cap zs)(h0:0<len):∃(x:Addr) (c:Array Value) (T:TypeId) (fz:Nat×Nat),a=some ⟨x.block,x.off,none⟩/\w.heap[x.block]?=some (.cells c T fz)/\len<=zs.length/\∀i,i<zs.length->c[x.off+i]?=some (.int .i64 (zs.getD i 0)):=by
 rcases h with⟨_,h1,_⟩|⟨x,rfl,h1,h2,h3,h4,_⟩
 ·omega
 have c0:=h4 0 J;have hs:x.spot=none:=by simpa[Addr.add]using World.cell?_spot c0
 obtain⟨b,off,spot⟩:=x;simp only at hs;subst hs;have atP:∀i,(⟨b,off,none⟩:Addr).add i=⟨b,off+i,none⟩:=fun i=>by unfold Addr.add;split<;>simp_all
 rw[atP]at c0;unfold World.cell? at c0
 cases hq:w.heap[b]? with
 |none=>simp[hq]at c0
 |some o =>
  cases o with
  |cells c T fz =>
   refine⟨⟨b,off,none⟩,c,T,fz,rfl,hq,J,fun i hi=>?_⟩;have:=h4 i hi;rw[atP]at this;unfold World.cell? at this;simpa[hq]using this
  |_=>simp[hq]at c0
theorem zq.az8(h:zq .i64 w a len cap zs):(zs.take len).length=len:=by
 rcases h with⟨_,h1,_,h2⟩|⟨x,_,h1,_,h3,_⟩
 ·subst h1;rfl
 rw[List.length_take];omega
theorem zq.wf(h:zq .i64 w a len cap zs):(zs.take len).length<=9223372036854775807/\∀n∈zs.take len,-9223372036854775808<=n/\n<=9223372036854775807:=by
 refine⟨?_,fun n hn=>?_⟩
 ·rw[h.az8];rcases h with⟨_,h1,_⟩|⟨x,_,h1,h2,_⟩
  ·omega
  have:maxLen=9223372036854775807:=aj;omega
 rcases h with⟨_,_,_,h2⟩|⟨x,_,_,_,_,_,h5⟩
 ·subst h2;simp at hn
 exact aeP (h5 n (List.mem_of_mem_take hn))
theorem zq.lt(h:zq .i64 w a len cap zs){id:Nat}(hx:∃x,a=some x/\x.block=id/\0<len):id<w.heap.size:=by
 obtain⟨x,hx,rfl,h0⟩:=hx;obtain⟨y,c,T,fz,h1,h2,_⟩:=h.cells h0;rw[hx]at h1
 cases h1
 exact(Array.getElem?_eq_some_iff.1 h2).1
theorem avF{Z:Nat->Prop}{μ:Nat->Option Nat}{w:World}:∀(l:List Int),aT Z μ w 1 (l.map eE) (l.map (Value.int .i64))
 | []=>rfl
 |n::l=>⟨[.int .i64 n],l.map (Value.int .i64),rfl,rfl,⟨rfl,rfl⟩,avF l⟩
theorem aHm(h:zq .i64 w a len cap zs){Z:Nat->Prop}(hZ:∀x,a=some x->0<len->Z x.block):g8 Z (fun _=>none) w (.list 1 ((zs.take len).map eE)) (.slice a len cap):=by
 refine⟨fun h=>by simp[LV.isAgg]at h,fun _=>?_⟩;have hl:=h.az8;have hlc:len<=cap:=by
  rcases h with⟨_,h1,_⟩|⟨x,_,h1,_⟩<;>omega
 simp only[aH];refine⟨a,len,cap,rfl,by rw[cC,hl],hlc,?_,bm jH _⟩;by_cases h0:len=0
 ·left;subst h0;rfl
 right;obtain⟨x,c,T,fz,h1,h2,h3,h4⟩:=h.cells J;refine⟨x.block,x.off,c,T,fz,(zs.take len).map (Value.int .i64),c.toList.drop (x.off+len),h1,hZ ⟨x.block,x.off,none⟩ h1 J,h2,?_,avF _⟩;apply List.ext_getElem?;intro i;rw[u6,afy];by_cases hi:i<len
 ·rw[List.getElem?_append_left aQ,h4 i J,List.getElem?_map,List.getElem?_take,if_pos hi,List.getD_eq_getElem?_getD,List.getElem?_eq_getElem J];rfl
 rw[List.getElem?_append_right aQ,u6,afy,cC,hl];congr 1;omega
end
end Go.Lg
end
