/- Texts LgP of this proof, joined. -/
import Derived.Test.YthcadngkamjpdaaGreatQU8
import Derived.OpenShut
set_option linter.unusedVariables false
set_option linter.unusedSimpArgs false
section
set_option linter.unusedVariables false
set_option linter.unusedSimpArgs false
namespace Go.Lg
open Go.RowKit
def aao (k:IntKind) (w:World) (a:Option Addr) (len cap:Nat) (zs:List Int):Prop :=
 (a=none/\len=0/\cap=0/\zs=[]) \/
 ∃ x,a=some x/\len<=cap/\cap<=maxLen/\zs.length=cap/\(∀ i,i<zs.length->w.cell? (x.add i)=some (.int k (zs.getD i 0)))/\∀ n∈zs,(Lit.int k n).wf=true
theorem aFA {P:Program} {f:FuncId} {args:List LV} (h:pC P f args (bL true) []) (W:World) (Z:Nat->Prop) (vs:List Value) (hz:∀ id,Z id->id<W.heap.size) (hr:fW Z (fun _=>none) W args vs) :
  Calls P f vs.toArray W fun e w'=>e=.returned (.bool true)/\Below W.heap.size W w':=by
 refine(h.2 W Z vs hz hr).mono fun e w' ⟨v,μ,Z',h1,h2,h3⟩=>?_
 rw [h3.fk] at h1
 exact⟨h1,h2.cx.below⟩
theorem acq {n:Int} (h:(Lit.int .i64 n).wf=true):-9223372036854775808<=n/\n<=9223372036854775807:=by
 simp only [Lit.wf,Bool.and_eq_true,decide_eq_true_eq] at h
 exact⟨h.1,h.2⟩
theorem afZ {Z:Nat->Prop} {μ:Nat->Option Nat} {w:World} {x:LV} {xs:List LV} {v:Value} {vs:List Value} (h:fN Z μ w x v) (t:fW Z μ w xs vs):fW Z μ w (x :: xs) (v :: vs):=⟨v,vs,rfl,h,t⟩
theorem ad7 {Z:Nat->Prop} {μ:Nat->Option Nat} {w:World} (n:Int):fN Z μ w (iL n) (.int .i64 n):=⟨(fun h=>by cases h),fun _=>⟨rfl,rfl⟩⟩
section
variable {w:World} {a:Option Addr} {len cap:Nat} {zs:List Int}
theorem aao.cells (h:aao .i64 w a len cap zs) (h0:0<len):∃ (x:Addr) (c:Array Value) (T:TypeId) (fz:Nat × Nat),a=some ⟨x.block,x.off,none⟩/\w.heap[x.block]?=some (.cells c T fz)/\len<=zs.length/\∀ i,i<zs.length->c[x.off+i]?=some (.int .i64 (zs.getD i 0)):=by
 rcases h with⟨_,h1,_⟩ | ⟨x,rfl,h1,h2,h3,h4,_⟩
 ·omega
 ·have c0:=h4 0 J
  have hs:x.spot=none:=by simpa [Addr.add] using World.cell?_spot c0
  obtain⟨b,off,spot⟩:=x
  simp only at hs
  subst hs
  have aqa:∀ i,(⟨b,off,none⟩:Addr).add i=⟨b,off+i,none⟩:=fun i=>by unfold Addr.add;split<;>simp_all
  rw [aqa] at c0
  unfold World.cell? at c0
  cases hq:w.heap[b]? with
  | none=>simp [hq] at c0
  | some o =>
   cases o with
   | cells c T fz =>
    refine⟨⟨b,off,none⟩,c,T,fz,rfl,hq,J,fun i hi=>?_⟩
    have:=h4 i hi
    rw [aqa] at this
    unfold World.cell? at this
    simpa [hq] using this
   | _=>simp [hq] at c0
theorem aao.aG0 (h:aao .i64 w a len cap zs):(zs.take len).length=len:=by
 rcases h with⟨_,h1,_,h2⟩ | ⟨x,_,h1,_,h3,_⟩
 ·subst h1;rfl
 ·rw [List.length_take];omega
theorem aao.wf (h:aao .i64 w a len cap zs):(zs.take len).length<=9223372036854775807/\∀ n∈zs.take len,-9223372036854775808<=n/\n<=9223372036854775807:=by
 refine⟨?_,fun n hn=>?_⟩
 ·rw [h.aG0]
  rcases h with⟨_,h1,_⟩ | ⟨x,_,h1,h2,_⟩
  ·omega
  ·have:maxLen=9223372036854775807:=by decide
   omega
 ·rcases h with⟨_,_,_,h2⟩ | ⟨x,_,_,_,_,_,h5⟩
  ·subst h2;simp at hn
  ·exact acq (h5 n (List.mem_of_mem_take hn))
theorem aao.lt (h:aao .i64 w a len cap zs) {id:Nat} (hx:∃ x,a=some x/\x.block=id/\0<len):id<w.heap.size:=by
 obtain⟨x,hx,rfl,h0⟩:=hx
 obtain⟨y,c,T,fz,h1,h2,_⟩:=h.cells h0
 rw [hx] at h1
 cases h1
 exact(Array.getElem?_eq_some_iff.1 h2).1
end
end Go.Lg
end
