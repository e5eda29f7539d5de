/- Texts LgE of this proof, joined. -/
import Derived.Orders
import Derived.Below
import Derived.Deep.MidRow
import Derived.Deep.AppendSrc
import Derived.Laws.MakeOwn
import Derived.WalkKit
import Derived.Laws.Externs
import Derived.Laws.BytesString
import Derived.Laws.Cells
set_option linter.unusedVariables false
set_option linter.unusedSimpArgs false
namespace Go.Lg
theorem pJ{p:Prop}(h:p:=by repeat (first|exact nr cl|refine b8 ?_ cl)):p:=h
theorem ca{α:Type}{a b:α}(h:a=b:=by repeat (first|exact nr cl|refine b8 ?_ cl)):b=a:=h.symm
theorem aa{p:Prop}(h:p:=by omega):p:=h
theorem dA{p:Prop}(h:p:=by exact cm rfl (by first|exact .pure rfl|exact .pure (tx _)|exact .pure (gw _)|exact .pure (al.pure _)|exact .pure (bN eu _ _)|exact .pure (bN al _ _))):p:=h
theorem aCv{p:Prop}(h:p:=by first|exact .pure rfl|exact .pure (tx _)|exact .pure (gw _)|exact .pure (al.pure _)|exact .pure (bN eu _ _)|exact .pure (bN al _ _)):p:=h
theorem an{p:Prop}(h:p:=by decide):p:=h
theorem nj{p:Prop}(h:p:=by exact .bin rfl rfl (aif (by omega))):p:=h
theorem aY{p:Prop}(h:p:=by simp[Op.operands]):p:=h
theorem bj{p:Prop}(h:p:=by decide +kernel):p:=h
theorem ju{p:Prop}(h:p:=by exact iV [] rfl rfl rfl (al.aj _) (pC _) bZ (.pure (al.pure _))):p:=h
theorem dg{p:Prop}(h:p:=by exact cm rfl (.pure rfl)):p:=h
theorem bm{p:Prop}(h:p:=by simp;omega):p:=h
theorem fb{p:Prop}(h:p:=by first|assumption|exact b7 _):p:=h
theorem az{p:Prop}(h:p:=by simp):p:=h
theorem uP{p:Prop}(h:p:=by intro q hq;simp only[List.mem_cons,List.not_mem_nil,or_false]at hq;rcases hq with rfl|rfl|rfl<;>exact⟨_,rfl,rfl,ic⟩):p:=h
theorem abO{p:Prop}(h:p:=by first|omega|(simp only[List.length_map,eY];omega)):p:=h
theorem wy{p:Prop}(h:p:=by intro q hq;simp only[List.mem_cons,List.not_mem_nil,or_false]at hq;rcases hq with rfl|rfl<;>exact⟨_,rfl,rfl,ic⟩):p:=h
theorem gG{p:Prop}(h:p:=by simp[Op.operands,Call.operands]):p:=h
theorem azf{p:Prop}(h:p:=by exact .bin rfl rfl (ahh (by omega) (by omega))):p:=h
theorem tz{p:Prop}(h:p:=by exact ⟨n,_,awP hn sf (by first|(exfalso;omega)|(rw[aqu];simp[*])),ca⟩):p:=h
theorem nv{p:Prop}(h:p:=by exact .bin rfl rfl (o5 (by omega) (by omega))):p:=h
theorem tC{p:Prop}(h:p:=by exact ⟨[],cs,[],by simp,rfl,by rw[hl,hd,h2];rfl,by simpa using hy,by rw[h2];rfl⟩):p:=h
theorem wJ{p:Prop}(h:p:=by first|omega|(simp only[mF,mR,nt,mY];omega)):p:=h
theorem aas{p:Prop}(h:p:=by first|exact .adg (h:=_) eu rfl Tryz.underlying27 oy rfl om|exact .vV rfl Tryz.underlying27 oy rfl om om):p:=h
theorem vD{p:Prop}(h:p:=by exact ⟨[],cs,[],by simp,rfl,by simpa[LV.aj]using hl,hr,rfl,rfl,by simp,by simp⟩):p:=h
theorem pc{p:Prop}(h:p:=by simp[LV.pure,aN,bS al,bS iA]):p:=h
theorem pn{p:Prop}(h:p:=by exact .bin rfl rfl (qD (by omega) (by omega))):p:=h
theorem aaF{p:Prop}(h:p:=by exact iV [] rfl rfl rfl rfl rfl bZ (.agg (.cons (.pure rfl) (.cons (.pure (gw _)) (.cons (.pure (gw _)) .nil))))):p:=h
theorem aeF{p:Prop}(h:p:=by first|(exfalso;omega)|(rw[aqu];simp[*])):p:=h
theorem oC{p:Prop}(h:p:=by first|omega|(simp;done)|(simp;omega)):p:=h
theorem anu{p:Prop}(h:p:=by exact .iJ (d:=8) (news:=[ab (p.getD k 0)]) rfl rfl rfl rfl (by simp;omega) (.inl rfl) (by decide) Tryz.underlying53 Tryz.underlying53 jB bZ rfl mG (.inl ⟨19,0,_,rfl,by decide,rfl,rfl,by simp,rfl,by simp[aN,al.pure]⟩) (by simp;omega) (by simp;omega) (by decide)):p:=h
theorem aab{p:Prop}(h:p:=by exact .bin rfl rfl (yQ (by first|omega|(simp only[mF,mR,nt,mY];omega)))):p:=h
theorem ga{p:Prop}(h:p:=by simpa using h):p:=h
theorem akA{p:Prop}(h:p:=by exact .app rfl rfl rfl rfl rfl (Nat.zero_le _) (.inr rfl) (by decide) Tryz.underlying27 Tryz.underlying27 aau oy rfl aac (.inr (.inl rfl)) (by first|(simp;done)|(simp;omega)) (by first|(simp;done)|(simp;omega)) (by decide)):p:=h
theorem mW{p:Prop}(h:p:=by exact fj (i+1) (by omega)):p:=h
theorem sP{p:Prop}(h:p:=by first|omega|(simp only[bq];omega)):p:=h
theorem ab0{p:Prop}(h:p:=by exact vZ [] rfl rfl (.pure (gw _)) rfl (.pure (gw _)) rfl (.pure rfl)):p:=h
theorem yp{p:Prop}(h:p:=by exact iV [] rfl rfl rfl cs (fq cs rfl) kt (.pure pu)):p:=h
theorem aat{p:Prop}(h:p:=by simp[LV.pure,aN,bS al,bS gp,-List.map_map]):p:=h
theorem aeq{p:Prop}(h:p:=by exact ado [] rfl rfl rfl (al.aj _) (pC _) bZ (.pure (al.pure _)) rfl (.pure rfl)):p:=h
theorem gg{p:Prop}(h:p:=by kernel_rfl):p:=h
theorem abZ{p:Prop}(h:p:=by first|rfl|(rw[aoh];rfl)):p:=h
theorem pR{p:Prop}(h:p:=by exact fj (j+1) (by omega)):p:=h
theorem vc{p:Prop}(h:p:=by rw[List.length_map,List.length_take];omega):p:=h
theorem vH{p:Prop}(h:p:=by first|(simp;done)|(simp;omega)|omega):p:=h
theorem dR{p:Prop}(h:p:=by grind):p:=h
theorem acy{p:Prop}(h:p:=by exact ai4 [64] rfl rfl (eM a7 rfl rfl (by simp)) rfl rfl (dX l _)):p:=h
theorem xq{p:Prop}(h:p:=by exact cm rfl (.pure (bN al _ _))):p:=h
theorem zK{p:Prop}(h:p:=by exact iV [] rfl rfl rfl rfl rfl bZ (.pure rfl)):p:=h
theorem wL{p:Prop}(h:p:=by simp[LV.aj,bI,al.aj]):p:=h
theorem abU{p:Prop}(h:p:=by show LV.v (Value.bool (_==_))=_;rw[beq_self_eq_true]):p:=h
theorem lp{p:Prop}(h:p:=by exact .inl h):p:=h
theorem yz{p:Prop}(h:p:=by rw[List.take_append_drop];exact g4):p:=h
theorem aby{p:Prop}(h:p:=by simp[LV.pure,aN,bS al,bS gp]):p:=h
theorem aBz{p:Prop}(h:p:=by rw[fX _ _ _ _ (by omega),if_pos (by omega)]):p:=h
theorem abl{p:Prop}(h:p:=by exact .bin rfl rfl (agI (by omega) (by omega))):p:=h
theorem abh{p:Prop}(h:p:=by exact .bin rfl rfl (ahs (by omega) (by omega))):p:=h
theorem kh{p:Prop}(h:p:=by simp[hC]):p:=h
theorem vB{p:Prop}(h:p:=by exact ⟨_,trivial,ca⟩):p:=h
theorem fx{p:Prop}(h:p:=by exact gr (v:=false) rfl rfl ((rfl)) rfl):p:=h
theorem ib{p:Prop}(h:p:=by exact gr (v:=true) rfl rfl ((rfl)) rfl):p:=h
theorem mr{p:Prop}(h:p:=by exact gr (v:=false) rfl rfl ((decide_eq_false aa)) rfl):p:=h
theorem r7{p:Prop}(h:p:=by exact gr (v:=true) rfl rfl ((decide_eq_true abO)) rfl):p:=h
theorem tX{p:Prop}(h:p:=by exact gr (v:=false) rfl rfl ((decide_eq_false c1)) rfl):p:=h
theorem zQ{p:Prop}(h:p:=by exact gr (v:=false) rfl rfl (abZ) rfl):p:=h
theorem aam{p:Prop}(h:p:=by exact gr (v:=false) rfl rfl ((beq_eq_false_iff_ne.2 aa)) rfl):p:=h
theorem aaB{p:Prop}(h:p:=by exact gr (v:=false) rfl rfl (bj) rfl):p:=h
theorem acp{p:Prop}(h:p:=by exact gr (v:=false) rfl rfl ((bne_eq_false_iff_eq.2 abO)) rfl):p:=h
theorem afh{p:Prop}(h:p:=by exact gr (v:=false) rfl rfl ((by rw[tJ];rfl)) rfl):p:=h
theorem ag1{p:Prop}(h:p:=by exact gr (v:=true) rfl rfl ((by rw[tJ];rfl)) rfl):p:=h
theorem ah7{p:Prop}(h:p:=by exact gr (v:=false) rfl rfl (rfl) rfl):p:=h
theorem ah4{p:Prop}(h:p:=by exact gr (v:=true) rfl rfl (abZ) rfl):p:=h
theorem aio{p:Prop}(h:p:=by exact gr (v:=true) rfl rfl (agW) rfl):p:=h
end Go.Lg
open Array renaming ext'->tv,getElem?_eq_some_iff->fY,getElem?_toList->xP,length_toList->jI,map->abo,size_push->afa
open BitVec renaming ofInt->oY
open Bool renaming true_and->afu
open Decidable renaming not_not->awA
open Int renaming ofNat->ad7
open List renaming append_nil->eX,cons_append->rq,drop_append->aqH,drop_drop->oL,drop_of_length_le->iP,eq_nil_of_length_eq_zero->kJ,getD_cons_succ->iG,getD_cons_zero->ij,getElem?_append_left->vf,getElem?_cons_zero->pE,getElem?_drop->wv,getElem?_eq_getElem->bO,getElem?_eq_none->aaL,getElem?_eq_some_iff->lg,getElem?_map->iT,length->ajH,length_append->kH,length_cons->dO,length_drop->oe,length_map->bF,length_nil->ff,length_take->eE,map_cons->jh,mem_map->fB,mem_of_getElem?->rK,mem_of_mem_drop->adQ,mem_of_mem_take->xY,nil_append->eF,replicate->aJ,set_cons_succ->cd,set_cons_zero->cw,take_append_drop->mP,take_nil->gE,take_succ_cons->sr
open List.cons renaming injEq->dq
open Nat renaming add_assoc->od,add_mul->ep,add_zero->jK,le_refl->bA,lt_or_ge->fH,min_eq_left->jE,reduceAdd->aW,reduceBEq->aS,reduceEqDiff->cy,reduceMul->aZ,zero_add->fW
open Option renaming map_eq_some_iff->ue,map_none->aea,map_some->kj
open Option.some renaming injEq->dN
open Prod.mk renaming injEq->uQ
section
set_option linter.unusedVariables false
set_option linter.unusedSimpArgs false
namespace Go.Lg
inductive LV where
 |any
 |v (x:Value)
 |list (sz:Nat) (l:List LV)
 |agg (l:List LV)
 |ref (b sz off len:Nat)
 |gm (b sz off len cap:Nat)
 |ax (b sz i o:Nat)
 |bg (c:LV)
 |bQ (f:FuncId) (cap:List LV)
 |gZ (f:FuncId) (cap:List LV)
 |aQ (l:List LV)
instance:Inhabited LV:=⟨.any⟩
mutual
def LV.aj:LV->Nat
 | .agg l=>bI l
 |_=>1
def bI:List LV->Nat
 | []=>0
 |x::xs=>x.aj+bI xs
end
def LV.isAgg:LV->Bool
 | .agg _=>true
 |_=>false
mutual
def LV.pure:LV->Bool
 | .ref ..=>false
 | .gm ..=>false
 | .ax ..=>false
 | .aQ _=>false
 | .any=>false
 | .v _=>true
 | .list _ l=>aN l
 | .agg l=>aN l
 | .bg c=>c.pure
 | .bQ _ l=>aN l
 | .gZ ..=>false
def aN:List LV->Bool
 | []=>true
 |x::xs=>x.pure&&aN xs
end
theorem qZ(l:List LV):aN l=true↔∀x∈l,x.pure=true:=by
 induction l with
 |nil=>simp[aN]
 |cons x xs ih=>simp[aN,ih]
mutual
def ao(Z:Nat->Prop)(μ:Nat->Option Nat)(w:World):LV->List Value->Prop
 | .any,cs=>∀u∈cs,u.oneCell'=true
 | .v x,cs=>cs=[x]/\x.oneCell'=true
 | .list sz l,cs=>∃a len cap,cs=[.slice a len cap]/\len=l.length/\len<=cap /\
   (l=[]\/∃blk off c T fz part rest,a=some ⟨blk,off,none⟩/\Z blk/\w.heap[blk]?=some (.cells c T fz) /\
    c.toList.drop off=part++rest/\aw Z μ w sz l part)/\aN l=true
 | .agg l,cs=>a8 Z μ w l cs
 | .ref b sz off len,cs=>(cs=[.slice none 0 0]/\len=0)\/∃id cap c T fz,cs=[.slice (some ⟨id,off*sz,none⟩) len cap]/\μ b=some id/\len<=cap /\
   w.heap[id]?=some (.cells c T fz)/\(off+cap)*sz<=c.size
 | .gm b sz off len cap,cs=>∃id c T fz,cs=[.slice (some ⟨id,off*sz,none⟩) len cap]/\μ b=some id/\len<=cap /\
   w.heap[id]?=some (.cells c T fz)/\(off+cap)*sz<=c.size
 | .ax b sz i o,cs=>∃id,cs=[.pointer (some ⟨id,i*sz+o,none⟩)]/\μ b=some id
 | .bg c,cs=>∃blk off cc T fz part rest,cs=[.pointer (some ⟨blk,off,none⟩)]/\Z blk/\w.heap[blk]?=some (.cells cc T fz) /\
   cc.toList.drop off=part++rest/\part.length=c.aj/\ao Z μ w c part/\c.pure=true
 | .bQ f cap,cs=>∃vs,cs=[.func (.func f) #[] vs]/\aw Z μ w 1 cap vs.toList/\aN cap=true
 | .gZ f cap,cs=>∃vs,cs=[.func (.func f) #[] vs]/\aw Z μ w 1 cap vs.toList
 | .aQ _,_=>False
def aw(Z:Nat->Prop)(μ:Nat->Option Nat)(w:World)(sz:Nat):List LV->List Value->Prop
 | [],cs=>cs=[]
 |x::xs,cs=>∃c1 c2,cs=c1++c2/\c1.length=sz/\ao Z μ w x c1/\aw Z μ w sz xs c2
def a8(Z:Nat->Prop)(μ:Nat->Option Nat)(w:World):List LV->List Value->Prop
 | [],cs=>cs=[]
 |x::xs,cs=>∃c1 c2,cs=c1++c2/\c1.length=x.aj/\ao Z μ w x c1/\a8 Z μ w xs c2
end
def dD(Z:Nat->Prop)(μ:Nat->Option Nat)(w:World)(lv:LV)(v:Value):Prop :=
 (lv.isAgg=true->∃cs,v=.agg cs/\ao Z μ w lv cs.toList)/\(lv.isAgg=false->ao Z μ w lv [v])
def dQ(Z:Nat->Prop)(μ:Nat->Option Nat)(w:World):List LV->List Value->Prop
 | [],vs=>vs=[]
 |x::xs,vs=>∃v gV,vs=v::gV/\dD Z μ w x v/\dQ Z μ w xs gV
def aC(Z:Nat->Prop)(μ:Nat->Option Nat)(w:World):LV->Value->Prop
 | .aQ l,v=>∃vs,v=.tuple vs/\dQ Z μ w l vs.toList
 | .any,_=>True
 |lv,v=>dD Z μ w lv v
structure Frame (Z:Nat->Prop) (μ:Nat->Option Nat) (w w':World):Prop where
 z:∀id,Z id->w'.heap[id]?=w.heap[id]?
 m:∀b id,μ b=some id->∀c T fz,w.heap[id]?=some (.cells c T fz)->∃c',w'.heap[id]?=some (.cells c' T fz)/\c'.size=c.size
theorem Frame.refl(Z:Nat->Prop)(μ:Nat->Option Nat)(w:World):Frame Z μ w w:=⟨fun _ _=>rfl,fun _ _ _ c _ _ h=>⟨c,h,rfl⟩⟩
section
variable {Z Z':Nat->Prop} {μ aF:Nat->Option Nat} {w w':World}
mutual
theorem ao.mono(hz:∀id,Z id->Z' id)(hm:∀b id,μ b=some id->aF b=some id)(hf:Frame Z μ w w'):
  ∀(lv:LV) (cs:List Value),ao Z μ w lv cs->ao Z' aF w' lv cs
 | .any,_,h=>by simpa[ao]using h
 | .v x,cs,h=>by simpa[ao]using h
 | .list sz l,cs,h=>by
   simp only[ao]at h ⊢;obtain⟨a,len,cap,h1,h2,h3,h4,h9⟩:=h;refine⟨a,len,cap,h1,h2,h3,?_,h9⟩;rcases h4 with h4|⟨blk,off,c,T,fz,part,rest,e1,e2,e3,e4,e5⟩
   ·exact .inl h4
   exact .inr ⟨blk,off,c,T,fz,part,rest,e1,hz _ e2,(hf.z _ e2).trans e3,e4,aw.mono hz hm hf sz l part e5⟩
 | .agg l,cs,h=>by
   simp only[ao]at h ⊢;exact a8.mono hz hm hf l cs h
 | .ref b sz off len,cs,h=>by
   simp only[ao]at h ⊢;rcases h with h|⟨id,cap,c,T,fz,h1,h2,h3,h4,h5⟩
   ·exact lp
   obtain⟨c',h6,h7⟩:=hf.m b id h2 c T fz h4;exact .inr ⟨id,cap,c',T,fz,h1,hm _ _ h2,h3,h6,aa⟩
 | .gm b sz off len cap,cs,h=>by
   simp only[ao]at h ⊢;obtain⟨id,c,T,fz,h1,h2,h3,h4,h5⟩:=h;obtain⟨c',h6,h7⟩:=hf.m b id h2 c T fz h4;exact⟨id,c',T,fz,h1,hm _ _ h2,h3,h6,aa⟩
 | .ax b sz i o,cs,h=>by
   simp only[ao]at h ⊢;obtain⟨id,h1,h2⟩:=h;exact⟨id,h1,hm _ _ h2⟩
 | .bg c,cs,h=>by
   simp only[ao]at h ⊢;obtain⟨blk,off,cc,T,fz,part,rest,h1,h2,h3,h4,h5,h6,h7⟩:=h;exact⟨blk,off,cc,T,fz,part,rest,h1,hz _ h2,(hf.z _ h2).trans h3,h4,h5,ao.mono hz hm hf c part h6,h7⟩
 | .bQ f cap,cs,h=>by
   simp only[ao]at h ⊢;obtain⟨vs,h1,h2,h3⟩:=h;exact⟨vs,h1,aw.mono hz hm hf 1 cap vs.toList h2,h3⟩
 | .gZ f cap,cs,h=>by
   simp only[ao]at h ⊢;obtain⟨vs,h1,h2⟩:=h;exact⟨vs,h1,aw.mono hz hm hf 1 cap vs.toList h2⟩
 | .aQ _,_,h=>by simp[ao]at h
theorem aw.mono(hz:∀id,Z id->Z' id)(hm:∀b id,μ b=some id->aF b=some id)(hf:Frame Z μ w w')(sz:Nat):
  ∀(l:List LV) (cs:List Value),aw Z μ w sz l cs->aw Z' aF w' sz l cs
 | [],cs,h=>by simpa[aw]using h
 |x::xs,cs,h=>by
   simp only[aw]at h ⊢;obtain⟨c1,c2,h1,h2,h3,h4⟩:=h;exact⟨c1,c2,h1,h2,ao.mono hz hm hf x c1 h3,aw.mono hz hm hf sz xs c2 h4⟩
theorem a8.mono(hz:∀id,Z id->Z' id)(hm:∀b id,μ b=some id->aF b=some id)(hf:Frame Z μ w w'):
  ∀(l:List LV) (cs:List Value),a8 Z μ w l cs->a8 Z' aF w' l cs
 | [],cs,h=>by simpa[a8]using h
 |x::xs,cs,h=>by
   simp only[a8]at h ⊢;obtain⟨c1,c2,h1,h2,h3,h4⟩:=h;exact⟨c1,c2,h1,h2,ao.mono hz hm hf x c1 h3,a8.mono hz hm hf xs c2 h4⟩
end
theorem pure_cons{x:LV}{xs:List LV}(h:aN (x::xs)=true):x.pure=true/\aN xs=true:=by simpa[aN]using h
mutual
theorem ao.fE(hz:∀id,Z id->Z' id)(hf:∀id,Z id->w'.heap[id]?=w.heap[id]?):
  ∀(lv:LV) (cs:List Value),lv.pure=true->ao Z μ w lv cs->ao Z' aF w' lv cs
 | .any,_,_,h=>by simpa[ao]using h
 | .v x,cs,_,h=>by simpa[ao]using h
 | .list sz l,cs,hp,h=>by
   simp only[ao]at h ⊢;obtain⟨a,len,cap,h1,h2,h3,h4,h9⟩:=h;refine⟨a,len,cap,h1,h2,h3,?_,h9⟩;rcases h4 with h4|⟨blk,off,c,T,fz,part,rest,e1,e2,e3,e4,e5⟩
   ·exact .inl h4
   exact .inr ⟨blk,off,c,T,fz,part,rest,e1,hz _ e2,(hf _ e2).trans e3,e4,aw.fE hz hf sz l part (by simpa[LV.pure]using hp) e5⟩
 | .agg l,cs,hp,h=>by
   simp only[ao]at h ⊢;exact a8.fE hz hf l cs (by simpa[LV.pure]using hp) h
 | .ref b sz off len,cs,hp,_=>by simp[LV.pure]at hp
 | .gm b sz off len cap,cs,hp,_=>by simp[LV.pure]at hp
 | .ax b sz i o,cs,hp,_=>by simp[LV.pure]at hp
 | .bg c,cs,hp,h=>by
   simp only[ao]at h ⊢;obtain⟨blk,off,cc,T,fz,part,rest,h1,h2,h3,h4,h5,h6,h7⟩:=h;exact⟨blk,off,cc,T,fz,part,rest,h1,hz _ h2,(hf _ h2).trans h3,h4,h5,ao.fE hz hf c part (by simpa[LV.pure]using hp) h6,h7⟩
 | .bQ f cap,cs,hp,h=>by
   simp only[ao]at h ⊢;obtain⟨vs,h1,h2,h3⟩:=h;exact⟨vs,h1,aw.fE hz hf 1 cap vs.toList (by simpa[LV.pure]using hp) h2,h3⟩
 | .gZ f cap,cs,hp,h=>by simp[LV.pure]at hp
 | .aQ _,_,_,h=>by simp[ao]at h
theorem aw.fE(hz:∀id,Z id->Z' id)(hf:∀id,Z id->w'.heap[id]?=w.heap[id]?)(sz:Nat):
  ∀(l:List LV) (cs:List Value),aN l=true->aw Z μ w sz l cs->aw Z' aF w' sz l cs
 | [],cs,_,h=>by simpa[aw]using h
 |x::xs,cs,hp,h=>by
   simp only[aw]at h ⊢;obtain⟨c1,c2,h1,h2,h3,h4⟩:=h;exact⟨c1,c2,h1,h2,ao.fE hz hf x c1 (pure_cons hp).1 h3,aw.fE hz hf sz xs c2 (pure_cons hp).2 h4⟩
theorem a8.fE(hz:∀id,Z id->Z' id)(hf:∀id,Z id->w'.heap[id]?=w.heap[id]?):
  ∀(l:List LV) (cs:List Value),aN l=true->a8 Z μ w l cs->a8 Z' aF w' l cs
 | [],cs,_,h=>by simpa[a8]using h
 |x::xs,cs,hp,h=>by
   simp only[a8]at h ⊢;obtain⟨c1,c2,h1,h2,h3,h4⟩:=h;exact⟨c1,c2,h1,h2,ao.fE hz hf x c1 (pure_cons hp).1 h3,a8.fE hz hf xs c2 (pure_cons hp).2 h4⟩
end
theorem dD.mono(hz:∀id,Z id->Z' id)(hm:∀b id,μ b=some id->aF b=some id)(hf:Frame Z μ w w'){lv:LV}{v:Value}
  (h:dD Z μ w lv v):dD Z' aF w' lv v :=
 ⟨fun e=>let ⟨cs,h1,h2⟩:=h.1 e;⟨cs,h1,ao.mono hz hm hf _ _ h2⟩,fun e=>ao.mono hz hm hf _ _ (h.2 e)⟩
theorem dQ.mono(hz:∀id,Z id->Z' id)(hm:∀b id,μ b=some id->aF b=some id)(hf:Frame Z μ w w'):
  ∀(l:List LV) (vs:List Value),dQ Z μ w l vs->dQ Z' aF w' l vs
 | [],_,h=>h
 |_::xs,_,⟨v,gV,h1,h2,h3⟩=>⟨v,gV,h1,h2.mono hz hm hf,dQ.mono hz hm hf xs gV h3⟩
theorem aC.mono(hz:∀id,Z id->Z' id)(hm:∀b id,μ b=some id->aF b=some id)(hf:Frame Z μ w w'){lv:LV}{v:Value}
  (h:aC Z μ w lv v):aC Z' aF w' lv v:=by
 cases lv with
 |aQ l=>obtain⟨vs,h1,h2⟩:=h;exact⟨vs,h1,h2.mono hz hm hf⟩
 |any=>trivial
 |_=>exact dD.mono hz hm hf h
theorem dD.fE(hz:∀id,Z id->Z' id)(hf:∀id,Z id->w'.heap[id]?=w.heap[id]?){lv:LV}{v:Value}(hp:lv.pure=true)
  (h:dD Z μ w lv v):dD Z' aF w' lv v :=
 ⟨fun e=>let ⟨cs,h1,h2⟩:=h.1 e;⟨cs,h1,ao.fE hz hf _ _ hp h2⟩,fun e=>ao.fE hz hf _ _ hp (h.2 e)⟩
theorem aC.nZ{lv:LV}{v:Value}(hn:∀l,lv≠.aQ l)(h:dD Z μ w lv v):aC Z μ w lv v:=by
 cases lv with
 |aQ l=>exact absurd rfl (hn l)
 |any=>trivial
 |_=>exact h
theorem aC.qY{lv:LV}{v:Value}(hn:∀l,lv≠.aQ l)(ha:lv≠.any)(h:aC Z μ w lv v):dD Z μ w lv v:=by
 cases lv with
 |aQ l=>exact absurd rfl (hn l)
 |any=>exact absurd rfl ha
 |_=>exact h
theorem LV.eg{lv:LV}(hp:lv.pure=true):lv≠.any:=by
 rintro rfl;simp[LV.pure]at hp
theorem LV.dV{lv:LV}(hp:lv.pure=true):∀l,lv≠.aQ l:=by
 rintro l rfl;simp[LV.pure]at hp
theorem aw.length{sz:Nat}:∀(l:List LV) (cs:List Value),aw Z μ w sz l cs->cs.length=l.length*sz
 | [],cs,h=>by simp only[aw]at h;simp[h]
 |x::xs,cs,h=>by
   simp only[aw]at h;obtain⟨c1,c2,rfl,h2,_,h4⟩:=h;have:=aw.length xs c2 h4;simp only[kH,dO,ep,Nat.one_mul];omega
theorem a8.length:∀(l:List LV) (cs:List Value),a8 Z μ w l cs->cs.length=bI l
 | [],cs,h=>by simp only[a8]at h;simp[h,bI]
 |x::xs,cs,h=>by
   simp only[a8]at h;obtain⟨c1,c2,rfl,h2,_,h4⟩:=h;have:=a8.length xs c2 h4;simp only[kH,bI];omega
theorem aw.get{sz:Nat}:∀(l:List LV) (cs:List Value) (i:Nat) (x:LV),aw Z μ w sz l cs->l[i]?=some x ->
  ∃pre ch post,cs=pre++(ch++post)/\pre.length=i*sz/\ch.length=sz/\ao Z μ w x ch /\
   ∀y l7,ao Z μ w y l7->l7.length=sz->aw Z μ w sz (l.set i y) (pre++(l7++post))
 | [],_,_,_,_,h=>by simp at h
 |a::xs,cs,0,x,h,hi=>by
   simp only[aw]at h;obtain⟨c1,c2,rfl,h2,h3,h4⟩:=h;simp only[pE,dN]at hi;subst hi;exact⟨[],c1,c2,by simp,by simp,h2,h3,fun y l7 hy hl=>by simpa[aw]using ⟨l7,c2,rfl,hl,hy,h4⟩⟩
 |a::xs,cs,i+1,x,h,hi=>by
   simp only[aw]at h;obtain⟨c1,c2,rfl,h2,h3,h4⟩:=h;obtain⟨pre,ch,post,rfl,e2,e3,e4,e5⟩:=aw.get xs c2 i x h4 (by simpa using hi);refine⟨c1++pre,ch,post,by simp,by simp[h2,e2,ep];omega,e3,e4,fun y l7 hy hl=>?_⟩;have:=e5 y l7 hy hl;simp only[cd,aw];exact⟨c1,pre++(l7++post),by simp,h2,h3,this⟩
theorem a8.get:∀(l:List LV) (cs:List Value) (i:Nat) (x:LV),a8 Z μ w l cs->l[i]?=some x ->
  ∃pre ch post,cs=pre++(ch++post)/\pre.length=bI (l.take i)/\ch.length=x.aj/\ao Z μ w x ch /\
   ∀y l7,ao Z μ w y l7->l7.length=y.aj->a8 Z μ w (l.set i y) (pre++(l7++post))
 | [],_,_,_,_,h=>by simp at h
 |a::xs,cs,0,x,h,hi=>by
   simp only[a8]at h;obtain⟨c1,c2,rfl,h2,h3,h4⟩:=h;simp only[pE,dN]at hi;subst hi;exact⟨[],c1,c2,by simp,by simp[bI],h2,h3,fun y l7 hy hl=>by simpa[a8]using ⟨l7,c2,rfl,hl,hy,h4⟩⟩
 |a::xs,cs,i+1,x,h,hi=>by
   simp only[a8]at h;obtain⟨c1,c2,rfl,h2,h3,h4⟩:=h;obtain⟨pre,ch,post,rfl,e2,e3,e4,e5⟩:=a8.get xs c2 i x h4 (by simpa using hi);refine⟨c1++pre,ch,post,by simp,by simp[h2,e2,bI],e3,e4,fun y l7 hy hl=>?_⟩;have:=e5 y l7 hy hl;simp only[cd,a8];exact⟨c1,pre++(l7++post),by simp,h2,h3,this⟩
theorem aw.append{sz:Nat}:∀(l m:List LV) (cs ds:List Value),aw Z μ w sz l cs->aw Z μ w sz m ds->aw Z μ w sz (l++m) (cs++ds)
 | [],m,cs,ds,h,h'=>by simp only[aw]at h;simpa[h]using h'
 |x::xs,m,cs,ds,h,h'=>by
   simp only[aw]at h;obtain⟨c1,c2,rfl,h2,h3,h4⟩:=h;have:=aw.append xs m c2 ds h4 h';simp only[rq,aw];exact⟨c1,c2++ds,by simp,h2,h3,this⟩
theorem aw.split{sz:Nat}:∀(l m:List LV) (cs:List Value),aw Z μ w sz (l++m) cs->∃c1 c2,cs=c1++c2/\aw Z μ w sz l c1/\aw Z μ w sz m c2
 | [],m,cs,h=>⟨[],cs,rfl,by simp[aw],h⟩
 |x::xs,m,cs,h=>by
   simp only[rq,aw]at h;obtain⟨c1,c2,rfl,h2,h3,h4⟩:=h;obtain⟨d1,d2,rfl,e1,e2⟩:=aw.split xs m c2 h4;exact⟨c1++d1,d2,by simp,by simpa[aw]using ⟨c1,d1,rfl,h2,h3,e1⟩,e2⟩
theorem aw.replicate{sz:Nat}{x:LV}{ch:List Value}(h:ao Z μ w x ch)(hl:ch.length=sz):∀n,aw Z μ w sz (aJ n x) (aJ n ch).flatten
 |0=>by simp[aw]
 |n+1=>by
   simp only[List.replicate_succ,aw,List.flatten_cons];exact⟨ch,_,rfl,hl,h,aw.replicate h hl n⟩
end
mutual
def LV.at:LV->Nat->Nat->Bool->Option LV
 | .agg l,o,n,ag=>if o=0/\bI l=n/\ag=true then some (.agg l)else lE l o n ag
 | .any,_,_,_=>none
 |x,o,n,ag=>if o=0/\n=1/\ag=false then some x else none
def lE:List LV->Nat->Nat->Bool->Option LV
 | [],_,_,_=>none
 |x::xs,o,n,ag=>if o<x.aj then x.at o n ag else lE xs (o-x.aj) n ag
end
mutual
def LV.put:LV->Nat->LV->Option LV
 | .agg l,o,y=>if o=0/\bI l=y.aj/\y.isAgg=true then some y else(uK l o y).map .agg
 |_,o,y=>if o=0/\y.aj=1/\y.isAgg=false then some y else none
def uK:List LV->Nat->LV->Option (List LV)
 | [],_,_=>none
 |x::xs,o,y=>if o<x.aj then(x.put o y).map (·::xs)else(uK xs (o-x.aj) y).map (x::·)
end
section
variable {Z:Nat->Prop} {μ:Nat->Option Nat} {w:World}
mutual
theorem LV.afe:∀(x:LV) (o n:Nat) (ag:Bool) (y:LV) (cs:List Value),x.at o n ag=some y->ao Z μ w x cs->cs.length=x.aj ->
  ∃pre ch post,cs=pre++(ch++post)/\pre.length=o/\ch.length=n/\ao Z μ w y ch/\y.isAgg=ag/\y.aj=n/\y≠.any/\∀l,y≠.aQ l
 | .agg l,o,n,ag,y,cs,h,hr,hl=>by
   simp only[LV.at]at h;split at h
   ·rename_i hc;obtain⟨rfl,h2,rfl⟩:=hc;simp only[dN]at h;subst h;exact⟨[],cs,[],by simp,rfl,by simpa[LV.aj,h2]using hl,hr,rfl,by simp[LV.aj,h2],by simp,by simp⟩
   exact alq l o n ag y cs h (by simpa[ao]using hr)
 | .any,_,_,_,_,_,h,_,_=>by simp[LV.at]at h
 | .v x,o,n,ag,y,cs,h,hr,hl=>by
   simp only[LV.at]at h;split at h
   ·rename_i hc;obtain⟨rfl,rfl,rfl⟩:=hc;simp only[dN]at h;subst h;exact vD
   simp at h
 | .list sz l,o,n,ag,y,cs,h,hr,hl=>by
   simp only[LV.at]at h;split at h
   ·rename_i hc;obtain⟨rfl,rfl,rfl⟩:=hc;simp only[dN]at h;subst h;exact vD
   simp at h
 | .ref b sz off len,o,n,ag,y,cs,h,hr,hl=>by
   simp only[LV.at]at h;split at h
   ·rename_i hc;obtain⟨rfl,rfl,rfl⟩:=hc;simp only[dN]at h;subst h;exact vD
   simp at h
 | .gm b sz off len cap,o,n,ag,y,cs,h,hr,hl=>by
   simp only[LV.at]at h;split at h
   ·rename_i hc;obtain⟨rfl,rfl,rfl⟩:=hc;simp only[dN]at h;subst h;exact vD
   simp at h
 | .ax b sz i o',o,n,ag,y,cs,h,hr,hl=>by
   simp only[LV.at]at h;split at h
   ·rename_i hc;obtain⟨rfl,rfl,rfl⟩:=hc;simp only[dN]at h;subst h;exact vD
   simp at h
 | .bg c,o,n,ag,y,cs,h,hr,hl=>by
   simp only[LV.at]at h;split at h
   ·rename_i hc;obtain⟨rfl,rfl,rfl⟩:=hc;simp only[dN]at h;subst h;exact vD
   simp at h
 | .bQ f cap,o,n,ag,y,cs,h,hr,hl=>by
   simp only[LV.at]at h;split at h
   ·rename_i hc;obtain⟨rfl,rfl,rfl⟩:=hc;simp only[dN]at h;subst h;exact vD
   simp at h
 | .gZ f cap,o,n,ag,y,cs,h,hr,hl=>by
   simp only[LV.at]at h;split at h
   ·rename_i hc;obtain⟨rfl,rfl,rfl⟩:=hc;simp only[dN]at h;subst h;exact vD
   simp at h
 | .aQ _,_,_,_,_,_,_,hr,_=>by simp[ao]at hr
theorem alq:∀(l:List LV) (o n:Nat) (ag:Bool) (y:LV) (cs:List Value),lE l o n ag=some y->a8 Z μ w l cs ->
  ∃pre ch post,cs=pre++(ch++post)/\pre.length=o/\ch.length=n/\ao Z μ w y ch/\y.isAgg=ag/\y.aj=n/\y≠.any/\∀l,y≠.aQ l
 | [],_,_,_,_,_,h,_=>by simp[lE]at h
 |x::xs,o,n,ag,y,cs,h,hr=>by
   simp only[a8]at hr;obtain⟨c1,c2,rfl,h2,h3,h4⟩:=hr;simp only[lE]at h;split at h
   ·obtain⟨pre,ch,post,rfl,e2,e3,e4⟩:=LV.afe x o n ag y c1 h h3 h2;exact⟨pre,ch,post++c2,by simp,e2,e3,e4⟩
   obtain⟨pre,ch,post,rfl,e2,e3,e4⟩:=alq xs (o-x.aj) n ag y c2 h h4;exact⟨c1++pre,ch,post,by simp,by simp;omega,e3,e4⟩
end
mutual
theorem LV.anc(y:LV)(dh:List Value)(hy:ao Z μ w y dh)(hd:dh.length=y.aj):∀(x:LV) (o:Nat) (x':LV) (cs:List Value),x.put o y=some x' ->
  ao Z μ w x cs->cs.length=x.aj->∃pre ch post,cs=pre++(ch++post)/\pre.length=o/\ch.length=dh.length/\ao Z μ w x' (pre++(dh++post))/\x'.aj=x.aj
 | .agg l,o,x',cs,h,hr,hl=>by
   simp only[LV.put]at h;split at h
   ·rename_i hc;obtain⟨rfl,h2,_⟩:=hc;simp only[dN]at h;subst h;exact⟨[],cs,[],by simp,rfl,by rw[hl,hd];simp[LV.aj,h2],by simpa using hy,by simp[LV.aj,h2]⟩
   simp only[ue]at h;obtain⟨l',h1,rfl⟩:=h;obtain⟨pre,ch,post,e1,e2,e3,e4,e5⟩:=alF y dh hy hd l o l' cs h1 (by simpa[ao]using hr);exact⟨pre,ch,post,e1,e2,e3,by simpa[ao]using e4,by simpa[LV.aj]using e5⟩
 | .any,o,x',cs,h,hr,hl=>by
   simp only[LV.put]at h;split at h
   ·rename_i hc;obtain⟨rfl,h2,_⟩:=hc;simp only[dN]at h;subst h;exact tC
   simp at h
 | .v x,o,x',cs,h,hr,hl=>by
   simp only[LV.put]at h;split at h
   ·rename_i hc;obtain⟨rfl,h2,_⟩:=hc;simp only[dN]at h;subst h;exact tC
   simp at h
 | .list sz l,o,x',cs,h,hr,hl=>by
   simp only[LV.put]at h;split at h
   ·rename_i hc;obtain⟨rfl,h2,_⟩:=hc;simp only[dN]at h;subst h;exact tC
   simp at h
 | .ref b sz off len,o,x',cs,h,hr,hl=>by
   simp only[LV.put]at h;split at h
   ·rename_i hc;obtain⟨rfl,h2,_⟩:=hc;simp only[dN]at h;subst h;exact tC
   simp at h
 | .gm b sz off len cap,o,x',cs,h,hr,hl=>by
   simp only[LV.put]at h;split at h
   ·rename_i hc;obtain⟨rfl,h2,_⟩:=hc;simp only[dN]at h;subst h;exact tC
   simp at h
 | .ax b sz i o',o,x',cs,h,hr,hl=>by
   simp only[LV.put]at h;split at h
   ·rename_i hc;obtain⟨rfl,h2,_⟩:=hc;simp only[dN]at h;subst h;exact tC
   simp at h
 | .bg c,o,x',cs,h,hr,hl=>by
   simp only[LV.put]at h;split at h
   ·rename_i hc;obtain⟨rfl,h2,_⟩:=hc;simp only[dN]at h;subst h;exact tC
   simp at h
 | .bQ f cap,o,x',cs,h,hr,hl=>by
   simp only[LV.put]at h;split at h
   ·rename_i hc;obtain⟨rfl,h2,_⟩:=hc;simp only[dN]at h;subst h;exact tC
   simp at h
 | .gZ f cap,o,x',cs,h,hr,hl=>by
   simp only[LV.put]at h;split at h
   ·rename_i hc;obtain⟨rfl,h2,_⟩:=hc;simp only[dN]at h;subst h;exact tC
   simp at h
 | .aQ _,_,_,_,_,hr,_=>by simp[ao]at hr
theorem alF(y:LV)(dh:List Value)(hy:ao Z μ w y dh)(hd:dh.length=y.aj):∀(l:List LV) (o:Nat) (l':List LV) (cs:List Value),uK l o y=some l' ->
  a8 Z μ w l cs->∃pre ch post,cs=pre++(ch++post)/\pre.length=o/\ch.length=dh.length/\a8 Z μ w l' (pre++(dh++post))/\bI l'=bI l
 | [],_,_,_,h,_=>by simp[uK]at h
 |x::xs,o,l',cs,h,hr=>by
   simp only[a8]at hr;obtain⟨c1,c2,rfl,h2,h3,h4⟩:=hr;simp only[uK]at h;split at h
   ·simp only[ue]at h;obtain⟨x',h1,rfl⟩:=h;obtain⟨pre,ch,post,rfl,e2,e3,e4,e5⟩:=LV.anc y dh hy hd x o x' c1 h1 h3 h2;refine⟨pre,ch,post++c2,by simp,e2,e3,?_,by simp[bI,e5]⟩;simp only[a8];exact⟨pre++(dh++post),c2,by simp,by simp at h2 ⊢;omega,e4,h4⟩
   simp only[ue]at h;obtain⟨xs',h1,rfl⟩:=h;obtain⟨pre,ch,post,rfl,e2,e3,e4,e5⟩:=alF y dh hy hd xs (o-x.aj) xs' c2 h1 h4;refine⟨c1++pre,ch,post,by simp,by simp;omega,e3,?_,by simp[bI,e5]⟩;simp only[a8];exact⟨c1,pre++(dh++post),by simp,h2,h3,e4⟩
end
theorem LV.ac9{x:LV}(h:x.isAgg=false):x.aj=1:=by cases x<;>simp_all[LV.isAgg,LV.aj]
mutual
theorem ao.one:∀(lv:LV) (cs:List Value),ao Z μ w lv cs->∀u∈cs,u.oneCell'=true
 | .any,_,h=>by simpa[ao]using h
 | .v x,cs,h=>by simp only[ao]at h;obtain⟨rfl,h⟩:=h;simpa using h
 | .list sz l,cs,h=>by simp only[ao]at h;obtain⟨a,len,cap,rfl,_⟩:=h;simp[Value.oneCell']
 | .agg l,cs,h=>by simp only[ao]at h;exact a8.one l cs h
 | .ref b sz off len,cs,h=>by simp only[ao]at h;rcases h with⟨rfl,_⟩|⟨id,cap,c,T,fz,rfl,_⟩<;>simp[Value.oneCell']
 | .gm b sz off len cap,cs,h=>by simp only[ao]at h;obtain⟨id,c,T,fz,rfl,_⟩:=h;simp[Value.oneCell']
 | .ax b sz i o,cs,h=>by simp only[ao]at h;obtain⟨id,rfl,_⟩:=h;simp[Value.oneCell']
 | .bg c,cs,h=>by simp only[ao]at h;obtain⟨blk,off,cc,T,fz,part,rest,rfl,_⟩:=h;simp[Value.oneCell']
 | .bQ f cap,cs,h=>by simp only[ao]at h;obtain⟨vs,rfl,_⟩:=h;simp[Value.oneCell']
 | .gZ f cap,cs,h=>by simp only[ao]at h;obtain⟨vs,rfl,_⟩:=h;simp[Value.oneCell']
 | .aQ _,_,h=>by simp[ao]at h
theorem a8.one:∀(l:List LV) (cs:List Value),a8 Z μ w l cs->∀u∈cs,u.oneCell'=true
 | [],cs,h=>by simp only[a8]at h;simp[h]
 |x::xs,cs,h=>by
   simp only[a8]at h;obtain⟨c1,c2,rfl,h2,h3,h4⟩:=h;intro u hu;rcases List.mem_append.1 hu with hu|hu
   ·exact ao.one x c1 h3 u hu
   exact a8.one xs c2 h4 u hu
end
theorem ao.len{lv:LV}{cs:List Value}(h:ao Z μ w lv cs)(aG:lv≠.any):cs.length=lv.aj:=by
 cases lv with
 |any=>exact absurd rfl aG
 |agg l=>simp only[ao]at h;exact a8.length l cs h
 |v x=>simp only[ao]at h;simp[h.1,LV.aj]
 |list sz l=>simp only[ao]at h;obtain⟨a,len,cap,rfl,_⟩:=h;rfl
 |ref b sz off len=>simp only[ao]at h;rcases h with⟨rfl,_⟩|⟨id,cap,c,T,fz,rfl,_⟩<;>rfl
 |gm b sz off len cap=>simp only[ao]at h;obtain⟨id,c,T,fz,rfl,_⟩:=h;rfl
 |ax b sz i o=>simp only[ao]at h;obtain⟨id,rfl,_⟩:=h;rfl
 |bg c=>simp only[ao]at h;obtain⟨blk,off,cc,T,fz,part,rest,rfl,_⟩:=h;rfl
 |bQ f cap=>simp only[ao]at h;obtain⟨vs,rfl,_⟩:=h;rfl
 |gZ f cap=>simp only[ao]at h;obtain⟨vs,rfl,_⟩:=h;rfl
 |aQ l=>simp[ao]at h
theorem dD.cells{lv:LV}{v:Value}(h:dD Z μ w lv v)(aG:lv≠.any):ao Z μ w lv v.cells.toList/\v.cells.size=lv.aj /\
  (∀u∈v.cells.toList,u.oneCell'=true)/\((lv.isAgg=true/\v=.agg v.cells)\/(lv.isAgg=false/\v.cells=#[v]/\v.oneCell'=true)):=by
 cases ha:lv.isAgg with
 |true =>
  obtain⟨cs,rfl,h2⟩:=h.1 ha;refine⟨h2,?_,ao.one _ _ h2,.inl ⟨rfl,rfl⟩⟩;have:=ao.len h2 aG;simpa[Value.cells]using this
 |false =>
  have h2:=h.2 ha;have h3:=ao.one _ _ h2 v az;have hc:v.cells=#[v]:=by cases v<;>simp_all[Value.cells,Value.oneCell']
  rw[hc];exact⟨h2,by simp[LV.ac9 ha],by simpa using h3,.inr ⟨rfl,rfl,h3⟩⟩
theorem dD.ajd{lv:LV}{cs:List Value}(h:ao Z μ w lv cs)(aG:lv≠.any):dD Z μ w lv (if lv.isAgg then .agg cs.toArray else cs.headD default):=by
 refine⟨fun e=>⟨cs.toArray,by simp[e],h⟩,fun e=>?_⟩;have hl:=ao.len h aG;rw[LV.ac9 e]at hl
 match cs,hl with
 | [x],_=>simpa[e]using h
end
end Go.Lg
namespace Go.Lg
structure aL where
 sz:Nat
 vals:List LV
 mt:Bool
abbrev bn:=Nat->Option aL
structure XS where
 x:Nat->Prop
 y:Nat->Prop
def XS.any(X:XS)(id:Nat):Prop:=X.x id\/X.y id
instance:CoeFun XS (fun _=>Nat->Prop):=⟨XS.any⟩
def XS.no:XS:=⟨fun _=>False,fun _=>False⟩
def XS.one(i0:Nat):XS:=⟨fun k=>k=i0,fun _=>False⟩
theorem XS.xo{id:Nat}:¬XS.no.any id:=fun h=>h.elim (fun e=>e) (fun e=>e)
theorem XS.aik{i0 id:Nat}(h:(XS.one i0).any id):id=i0:=h.elim (fun e=>e) False.elim
structure Kept (X:XS) (W w:World):Prop where
 os:w.os=W.os
 tape:w.tape=W.tape
 output:w.output=W.output
 size:W.heap.size<=w.heap.size
 block:∀k,k<W.heap.size->¬X k->w.heap[k]?=W.heap[k]?
 qm:∀k,X k->∀c T fz,W.heap[k]?=some (.cells c T fz)->∃c',w.heap[k]?=some (.cells c' T fz)/\c'.size=c.size
theorem Kept.refl(X:XS)(W:World):Kept X W W:=⟨rfl,rfl,rfl,bA _,fun _ _ _=>rfl,fun _ _ c _ _ h=>⟨c,h,rfl⟩⟩
theorem Kept.below{W w:World}(h:Kept XS.no W w):RowKit.Below W.heap.size W w :=
 ⟨h.os,h.tape,h.output,h.size,fun k hk=>h.block k hk XS.xo⟩
def pK(Z:Nat->Prop)(μ:Nat->Option Nat)(w:World)(blk:aL)(id:Nat):Prop :=
 ∃c T part rest,w.heap[id]?=some (.cells c T (0,0))/\c.toList=part++rest/\aw Z μ w blk.sz blk.vals part
structure Core (W:World) (X:XS) (Z0:Nat->Prop) (μ:Nat->Option Nat) (Z:Nat->Prop) (H:bn) (w:World):Prop where
 bB:Kept X W w
 iD:∀id,Z id->id<w.heap.size
 fZ:∀id,Z0 id->Z id
 g9:∀id,Z id->Z0 id\/W.heap.size<=id\/X.y id
 inj:∀b b' id,μ b=some id->μ b'=some id->b=b'
 own:∀b id,μ b=some id->W.heap.size<=id\/X id
 x0:∀b id,μ b=some id->X.x id->b=0
 kQ:∀id,X id->id<W.heap.size
 x1:∀id,X.x id->μ 0=some id
 gL:∀b id blk,μ b=some id->H b=some blk->blk.mt=true->¬Z id
 bo:∀b id blk,μ b=some id->H b=some blk->blk.mt=false->Z id
 heap:∀b id,μ b=some id->∃blk,H b=some blk/\pK Z μ w blk id
def aX(P:Program)(T:TypeId)(n:Nat)(ag:Bool):Prop :=
 (P.info? T).map (·.size)=some n/\∃d,P.underlying T=some d/\d.isRow=ag
def nc(P:Program):Nat->List Field->List (Nat×Bool)->Prop
 |_,[],[]=>True
 |off,f::fs,(n,ag)::r=>f.offset=off/\aX P f.type n ag/\nc P (off+n) fs r
 |_,_,_=>False
def jn(P:Program)(T:TypeId)(lay:List (Nat×Bool)):Prop :=
 ∃fields,P.underlying T=some (.struct fields)/\nc P 0 fields.toList lay/\∀n∈lay,0<n.1
def lay(x:LV):Nat×Bool:=(x.aj,x.isAgg)
section
variable {P:Program} {Z:Nat->Prop} {μ:Nat->Option Nat} {w:World}
theorem zJ{blk off:Nat}{c:Array Value}{T:TypeId}{fz:Nat×Nat}{part rest:List Value}
  (h:w.heap[blk]?=some (.cells c T fz)) (hd:c.toList.drop off=part++rest):w.rangeAt blk off part:=by
 intro j v hj;rw[cell_of_row w blk (off+j) c T fz h];have h1:(c.toList.drop off)[j]?=some v:=by
  rw[hd,vf (lg.1 hj).1];exact hj
 rw[wv]at h1;simpa using h1
theorem al9{T:TypeId}{y:LV}{blk off:Nat}{c:Array Value}{U:TypeId}{fz:Nat×Nat}{part rest:List Value}
  (ht:aX P T y.aj y.isAgg) (h:w.heap[blk]?=some (.cells c U fz)) (hd:c.toList.drop off=part++rest)
  (hy:ao Z μ w y part) (aG:y≠.any) :
  ∃v,(Instr.loadAt T (.pointer (some ⟨blk,off,none⟩))).run P w=.ok v w/\dD Z μ w y v:=by
 have hr:=zJ h hd;have hl:=ao.len hy aG;obtain⟨hi,d,hu,ec⟩:=ht;refine⟨_,?_,dD.ajd hy aG⟩
 cases ha:y.isAgg with
 |true =>
  have:=run_loadAt_mid (P:=P) w blk off T part d hr hu (by rw[ec,ha]) (by rw[hi,hl]);simpa using this
 |false =>
  rw[LV.ac9 ha]at hl
  match part,hl,hr with
  | [x],_,hr =>
   have hx:=hr 0 x rfl;have hag:(isAgg T).run P w=.ok false w:=by
    unfold isAgg;rw[Sem.run_bind,run_underlying hu w];rw[ha]at ec
    cases d<;>simp_all[TypeDesc.isRow]
   simp[Instr.loadAt,Instr.sureAddr,loadVar,Sem.run_bind,hag,jK]at hx ⊢;simp[hx]
theorem aq6:∀(fs:List Field) (ls:List LV) (off k:Nat) (f:Field) (x:LV),nc P off fs (ls.map lay)->fs[k]?=some f->ls[k]?=some x ->
  f.offset=off+bI (ls.take k)/\aX P f.type x.aj x.isAgg
 | [],_,_,_,_,_,_,h,_=>by simp at h
 |_::_,[],_,_,_,_,_,_,h=>by simp at h
 |f::fs,y::ys,off,0,g,x,h,h1,h2=>by
   simp only[jh,lay,nc]at h;simp only[pE,dN]at h1 h2;subst h1 h2;exact⟨by simp[bI,h.1],h.2.1⟩
 |f::fs,y::ys,off,k+1,g,x,h,h1,h2=>by
   simp only[jh,lay,nc]at h;have:=aq6 fs ys (off+y.aj) k g x h.2.2 (by simpa using h1) (by simpa using h2);refine⟨?_,this.2⟩;rw[this.1];simp[bI];omega
theorem ag9:∀(fs:List Field) (ls:List (Nat×Bool)) (off:Nat),nc P off fs ls->fs.length=ls.length
 | [],[],_,_=>rfl
 | [],_::_,_,h=>by simp[nc]at h
 |_::_,[],_,h=>by simp[nc]at h
 |f::fs,(n,ag)::r,off,h=>by
   simp only[nc]at h;simp[ag9 fs r _ h.2.2]
theorem aAy{T:TypeId}{n:Nat}{ag:Bool}(ht:aX P T n ag):(isAgg T).run P w=.ok ag w:=by
 obtain⟨hi,d,hd,rfl⟩:=ht;unfold isAgg;rw[Sem.run_bind,run_underlying hd w]
 cases d<;>simp[TypeDesc.isRow]
theorem run_sizeOf{T:TypeId}{n:Nat}{ag:Bool}(ht:aX P T n ag):(sizeOf T).run P w=.ok n w:=by
 obtain⟨hi,_⟩:=ht
 cases hq:P.info? T with
 |none=>simp[hq]at hi
 |some i =>
  simp only[hq,kj,dN]at hi;subst hi;simp[sizeOf,typeInfo,hq]
theorem an8{T:TypeId}{x:LV}(ht:aX P T x.aj x.isAgg){cs:Array Value}{pre ch post:List Value}(e1:cs.toList=pre++(ch++post))
  (h:ao Z μ w x ch) (aG:x≠.any):∃u,(part T cs pre.length).run P w=.ok u w/\dD Z μ w x u:=by
 have e3:=ao.len h aG;have hcs:cs=(pre++(ch++post)).toArray:=by apply tv;simp[e1]
 refine⟨_,?_,dD.ajd h aG⟩;unfold part;rw[Sem.run_bind,aAy ht]
 cases ha:x.isAgg with
 |true =>
  simp only[Result.andThen_ok,if_true,Sem.run_bind,run_sizeOf ht,Sem.run_pure];congr 2;apply tv;rw[hcs,<-e3];simp
 |false =>
  rw[LV.ac9 ha]at e3
  match ch,e3 with
  | [y],_ =>
   have:cs[pre.length]?=some y:=by rw[hcs];simp
   simp[this]
theorem atf{T:TypeId}{fs:List LV}{k:Nat}{x:LV}{v:Value}(ht:jn P T (fs.map lay))(hx:fs[k]?=some x)(aG:x≠.any)
  (h:dD Z μ w (.agg fs) v):∃u,(Instr.field T v k).run P w=.ok u w/\dD Z μ w x u:=by
 obtain⟨fields,hu,hl,_⟩:=ht;obtain⟨cs,rfl,hc⟩:=h.1 rfl;simp only[ao]at hc;obtain⟨pre,ch,post,e1,e2,e3,e4,_⟩:=a8.get fs cs.toList k x hc hx;have hk:k<fields.toList.length:=by
  rw[ag9 _ _ _ hl,bF];exact(lg.1 hx).1
 obtain⟨f,oR⟩:∃f,fields.toList[k]?=some f:=⟨_,bO hk⟩;obtain⟨g1,hty⟩:=aq6 fields.toList fs 0 k f x hl oR hx;have ahE:fields[k]?=some f:=by rw[<-xP];exact oR
 obtain⟨u,tK,hu3⟩:=an8 (T:=f.type) hty e1 e4 aG;refine⟨u,?_,hu3⟩;have:f.offset=pre.length:=aa;simp only[Instr.field,Sem.run_bind,run_underlying hu,Result.andThen_ok,ahE,asAgg,Sem.run_pure,this,tK]
def jY:List (Nat×Bool)->Nat
 | []=>0
 |x::xs=>x.1+jY xs
theorem adv:∀(fs:List LV) (k:Nat),jY ((fs.map lay).take k)=bI (fs.take k)
 | [],k=>by simp[jY,bI]
 |x::xs,0=>by simp[jY,bI]
 |x::xs,k+1=>by simp[jY,bI,lay,<-adv xs k]
theorem aki:∀(fs:List Field) (ls:List (Nat×Bool)) (off k:Nat) (f:Field) (x:Nat×Bool),nc P off fs ls->fs[k]?=some f->ls[k]?=some x ->
  f.offset=off+jY (ls.take k)/\aX P f.type x.1 x.2
 | [],_,_,_,_,_,_,h,_=>by simp at h
 |_::_,[],_,_,_,_,_,_,h=>by simp at h
 |f::fs,(n,ag)::ys,off,0,g,x,h,h1,h2=>by
   simp only[nc]at h;simp only[pE,dN]at h1 h2;subst h1 h2;exact⟨by simp[jY,h.1],h.2.1⟩
 |f::fs,(n,ag)::ys,off,k+1,g,x,h,h1,h2=>by
   simp only[nc]at h;have:=aki fs ys (off+n) k g x h.2.2 (by simpa using h1) (by simpa using h2);refine⟨?_,this.2⟩;rw[this.1];simp[jY];omega
theorem aoj{T:TypeId}{ls:List (Nat×Bool)}{k:Nat}(ht:jn P T ls)(jG:k<ls.length)(b o:Nat):
  (Instr.fieldAt T (.pointer (some ⟨b,o,none⟩)) k).run P w=.ok (.pointer (some ⟨b,o+jY (ls.take k),none⟩)) w:=by
 obtain⟨fields,hu,hl,lW⟩:=ht;have hk:k<fields.toList.length:=by rw[ag9 _ _ _ hl];exact jG
 obtain⟨f,oR⟩:∃f,fields.toList[k]?=some f:=⟨_,bO hk⟩;have hx:ls[k]?=some ls[k]:=bO jG;obtain⟨g1,hty⟩:=aki fields.toList ls 0 k f _ hl oR hx;have ahE:fields[k]?=some f:=by rw[<-xP];exact oR
 have hp:0<ls[k].1:=lW _ (rK hx);have aG:¬ls[k].1=0:=aa;simp only[Instr.fieldAt,Sem.run_bind,run_underlying hu,Result.andThen_ok,ahE,Instr.sureAddr,Sem.run_pure,fieldPlace,run_sizeOf hty,Sem.run_ite,if_neg aG,g1,fW,Addr.add_mid]
end
end Go.Lg
namespace Go.Lg
def cj(op:BinOp)(k:IntKind)(a b:Int):Option Value :=
 match op with
 | .add=>some (.int k (k.wrap (a+b)))
 | .sub=>some (.int k (k.wrap (a-b)))
 | .mul=>some (.int k (k.wrap (a*b)))
 | .quo=>if b=0 then none else some (.int k (k.wrap (a.tdiv b)))
 | .rem=>if b=0 then none else some (.int k (a.tmod b))
 | .and=>some (.int k (k.wrap (oY k.bits a &&& oY k.bits b).toNat))
 | .or=>some (.int k (k.wrap (oY k.bits a ||| oY k.bits b).toNat))
 | .eql=>some (.bool (a==b))
 | .neq=>some (.bool (a != b))
 | .lss=>some (.bool (a<b))
 | .leq=>some (.bool (a<=b))
 | .gtr=>some (.bool (a > b))
 | .geq=>some (.bool (a>=b))
 |_=>none
def lz(op:BinOp)(k:IntKind)(a b:Int):Option Value :=
 if b<0 then none else
 match op with
 | .shl=>some (.int k (k.wrap (a*2^min b.toNat k.bits)))
 | .shr=>some (.int k (a.fdiv (2^min b.toNat k.bits)))
 |_=>none
def ck(P:Program)(T:TypeId)(z:LV):Prop :=
 ∃i zv,P.info? T=some i/\i.zero=some zv/\z.pure=true/\∀(Z:Nat->Prop) (μ:Nat->Option Nat) (w:World),ao Z μ w z zv.cells.toList
def jf(zs:List LV)(ps:List (Nat×LV)):List LV:=ps.foldl (fun acc p=>acc.set p.1 p.2) zs
inductive aq (P:Program) (H:bn) (ρ:Operand->LV):Op->LV->Prop
 |move (x):aq P H ρ (.move x) (ρ x)
 |assign (x):aq P H ρ (.assign x) (ρ x)
 |pick {c x y t} (h:ρ c=.v (.bool t)):aq P H ρ (.pick c x y) (if t then ρ x else ρ y)
 |bin {op T x y U k a b r} (hx:ρ x=.v (.int k a)) (hy:ρ y=.v (.int k b)) (h:cj op k a b=some r):aq P H ρ (.binOp op T x y U) (.v r)
 |sh {op T x y U k k' a b r} (hx:ρ x=.v (.int k a)) (hy:ρ y=.v (.int k' b)) (h:lz op k a b=some r):aq P H ρ (.binOp op T x y U) (.v r)
 |beq {T x y U a b} (hx:ρ x=.v (.bool a)) (hy:ρ y=.v (.bool b)) (hT:P.underlying T=some .bool):aq P H ρ (.binOp .eql T x y U) (.v (.bool (a==b)))
 |bne {T x y U a b} (hx:ρ x=.v (.bool a)) (hy:ρ y=.v (.bool b)) (hT:P.underlying T=some .bool):aq P H ρ (.binOp .neq T x y U) (.v (.bool (!(a==b))))
 |not {T x a} (hx:ρ x=.v (.bool a)):aq P H ρ (.unOp .not T x) (.v (.bool !a))
 |neg {T x k a} (hx:ρ x=.v (.int k a)):aq P H ρ (.unOp .neg T x) (.v (.int k (k.wrap (0-a))))
 |conv {S D x k k' n d} (hS:P.underlying S=some d) (hD:P.underlying D=some (.int k)) (hx:ρ x=.v (.int k' n)):aq P H ρ (.convert S D x) (.v (.int k (k.wrap n)))
 |extract {t i l r} (ht:ρ t=.aQ l) (hr:l[i]?=some r) (aG:∀m,r≠.aQ m):aq P H ρ (.extract t i) r
 |field {T x k fs r} (hx:ρ x=.agg fs) (hT:jn P T (fs.map lay)) (hr:fs[k]?=some r) (aG:r.pure=true):aq P H ρ (.field T x k) r
 |sQ {T p k fs r} (hp:ρ p=.bg (.agg fs)) (hT:jn P T (fs.map lay)) (hr:fs[k]?=some r):aq P H ρ (.fieldAddr T p k) (.bg r)
 |wj {T p k b sz i o ls} (hp:ρ p=.ax b sz i o) (hT:jn P T ls) (hk:k<ls.length):aq P H ρ (.fieldAddr T p k) (.ax b sz i (o+jY (ls.take k)))
 |xB {T p c} (hp:ρ p=.bg c) (hT:aX P T c.aj c.isAgg) (hc:c.pure=true):aq P H ρ (.load T p) c
 |eP {T p b sz i o blk x r n ag} (hp:ρ p=.ax b sz i o) (hb:H b=some blk) (hs:blk.sz=sz) (hi:blk.vals[i]?=some x) (hx:x.aj=sz) (hr:x.at o n ag=some r)
   (hT:aX P T n ag):aq P H ρ (.load T p) r
 |abn {x b sz i o} (hx:ρ x=.ax b sz i o):aq P H ρ (.nilCheck x) (.ax b sz i o)
 |ac8 {T E x i n fs k m r sz ag} (hx:ρ x=.agg fs) (hT:P.underlying T=some (.array n E)) (hE:aX P E sz ag) (hf:fs.map lay=aJ n (sz,ag)) (hi:ρ i=.v (.int k m)) (h0:0<=m)
   (hr:fs[m.toNat]?=some r) (hp:r.pure=true):aq P H ρ (.index T x i) r
 |wP {T E x j n b sz i o k m es ag} (hx:ρ x=.ax b sz i o) (hT:P.underlying T=some (.array n E)) (hE:aX P E es ag) (hi:ρ j=.v (.int k m)) (h0:0<=m) (hm:m<n) :
   aq P H ρ (.indexAddr T x j) (.ax b sz i (o+m.toNat*es))
 |tf {T E x i n fs k m r sz ag} (hx:ρ x=.bg (.agg fs)) (hT:P.underlying T=some (.array n E)) (hE:aX P E sz ag) (hf:fs.map lay=aJ n (sz,ag)) (hi:ρ i=.v (.int k m)) (h0:0<=m)
   (hr:fs[m.toNat]?=some r):aq P H ρ (.indexAddr T x i) (.bg r)
 |xm {T E zs ps n sz ag} (hT:P.underlying T=some (.array n E)) (hE:aX P E sz ag) (hf:∀z∈zs,lay z=(sz,ag)) (hz:ck P T (.agg zs))
   (hp:∀p∈ps.toList,∃z,zs[p.1]?=some z/\lay (ρ p.2)=lay z/\ρ p.2≠.any/\∀m,ρ p.2≠.aQ m) :
   aq P H ρ (.build T ps) (.agg (jf zs (ps.toList.map fun p=>(p.1,ρ p.2))))
 |aa6 {x c} (hx:ρ x=.bg c):aq P H ρ (.nilCheck x) (.bg c)
 |jm {T E x i sz l k n r ag} (hx:ρ x=.list sz l) (hT:P.underlying T=some (.slice E)) (hE:aX P E sz ag) (hi:ρ i=.v (.int k n)) (h0:0<=n)
   (hr:l[n.toNat]?=some r) (hc:r.aj=sz):aq P H ρ (.indexAddr T x i) (.bg r)
 |vv {T E x i b sz off len k n ag} (hx:ρ x=.ref b sz off len) (hT:P.underlying T=some (.slice E)) (hE:aX P E sz ag) (hi:ρ i=.v (.int k n)) (h0:0<=n)
   (hn:n<len):aq P H ρ (.indexAddr T x i) (.ax b sz (off+n.toNat) 0)
 |v5 {T E x sz l} (hx:ρ x=.list sz l) (hT:P.underlying T=some (.array l.length E)) (h0:0<l.length) (hs:∀v∈l,v.aj=sz):aq P H ρ (.sliceToArrayPointer T x) (.bg (.agg l))
 |aae {T E x sz ag l a h la ha} (hx:ρ x=.list sz l) (hT:P.underlying T=some (.slice E)) (hE:aX P E sz ag) (bD:∀y,la=some y->∃k,ρ y=.v (.int k (a:Nat)))
   (nY:la=none->a=0) (fg:∀y,ha=some y->∃k,ρ y=.v (.int k (h:Nat))) (rN:ha=none->h=l.length) (h1:a<=h) (h2:h<=l.length) :
   aq P H ρ (.slice T x la ha none) (.list sz ((l.take h).drop a))
 |vi {T E x b sz off len ag a h la ha} (hx:ρ x=.ref b sz off len) (hT:P.underlying T=some (.slice E)) (hE:aX P E sz ag) (bD:∀y,la=some y->∃k,ρ y=.v (.int k (a:Nat)))
   (nY:la=none->a=0) (fg:∀y,ha=some y->∃k,ρ y=.v (.int k (h:Nat))) (rN:ha=none->h=len) (h1:a<=h) (h2:h<=len) (lW:a<len) :
   aq P H ρ (.slice T x la ha none) (.ref b sz (off+a) (h-a))
 |abH {T E x b sz off len ag a h mx la z zm k k'} (hx:ρ x=.ref b sz off len) (hT:P.underlying T=some (.slice E)) (hE:aX P E sz ag) (bD:∀y,la=some y->∃k,ρ y=.v (.int k (a:Nat)))
   (nY:la=none->a=0) (fg:ρ z=.v (.int k (h:Nat))) (hmx:ρ zm=.v (.int k' (mx:Nat))) (h1:a<=h) (h2:h<=mx) (h3:mx<=len) (lW:a<mx) :
   aq P H ρ (.slice T x la (some z) (some zm)) (.ref b sz (off+a) (h-a))
 |um {T x sz l d bH} (hx:ρ x=.list sz l) (has:bH=#[T]) (hT:P.underlying T=some (.slice d)):aq P H ρ (.call ⟨.builtin .len,#[x],bH⟩) (.v (.int .i64 (l.length:Nat)))
 |vF {T x b sz off len d bH} (hx:ρ x=.ref b sz off len) (has:bH=#[T]) (hT:P.underlying T=some (.slice d)):aq P H ρ (.call ⟨.builtin .len,#[x],bH⟩) (.v (.int .i64 (len:Nat)))
 |vh {T x d bH} (hx:ρ x=.v (.slice none 0 0)) (has:bH=#[T]) (hT:P.underlying T=some (.slice d)):aq P H ρ (.call ⟨.builtin .len,#[x],bH⟩) (.v (.int .i64 (0:Nat)))
 |agm {T x d bH} (hx:ρ x=.v (.slice none 0 0)) (has:bH=#[T]) (hT:P.underlying T=some (.slice d)):aq P H ρ (.call ⟨.builtin .cap,#[x],bH⟩) (.v (.int .i64 (0:Nat)))
 |ae0 {T E x ha k sz ag} (hx:ρ x=.v (.slice none 0 0)) (hT:P.underlying T=some (.slice E)) (hE:aX P E sz ag) (hh:ρ ha=.v (.int k (0:Nat))):aq P H ρ (.slice T x none (some ha) none) (.v (.slice none 0 0))
 |vQ {T x b sz off len cp d bH} (hx:ρ x=.gm b sz off len cp) (has:bH=#[T]) (hT:P.underlying T=some (.slice d)):aq P H ρ (.call ⟨.builtin .len,#[x],bH⟩) (.v (.int .i64 (len:Nat)))
 |acm {T x b sz off len cp d bH} (hx:ρ x=.gm b sz off len cp) (has:bH=#[T]) (hT:P.underlying T=some (.slice d)):aq P H ρ (.call ⟨.builtin .cap,#[x],bH⟩) (.v (.int .i64 (cp:Nat)))
 |ah1 {T E x b sz off len cp ag a h la ha} (hx:ρ x=.gm b sz off len cp) (hT:P.underlying T=some (.slice E)) (hE:aX P E sz ag) (bD:∀y,la=some y->∃k,ρ y=.v (.int k (a:Nat)))
   (nY:la=none->a=0) (fg:∀y,ha=some y->∃k,ρ y=.v (.int k (h:Nat))) (rN:ha=none->h=len) (h1:a<=h) (h2:h<=cp) (lW:a<cp) :
   aq P H ρ (.slice T x la ha none) (.gm b sz (off+a) (h-a) (cp-a))
 |min2 {x y k a b bH} (hx:ρ x=.v (.int k a)) (hy:ρ y=.v (.int k b)):aq P H ρ (.call ⟨.builtin .min,#[x,y],bH⟩) (.v (.int k (if b<a then b else a)))
 |max2 {x y k a b bH} (hx:ρ x=.v (.int k a)) (hy:ρ y=.v (.int k b)):aq P H ρ (.call ⟨.builtin .max,#[x,y],bH⟩) (.v (.int k (if b > a then b else a)))
 |adi {T x i s k n b} (hx:ρ x=.v (.string s)) (hT:P.underlying T=some .string) (hi:ρ i=.v (.int k n)) (h0:0<=n) (hb:s[n.toNat]?=some b):aq P H ρ (.index T x i) (.v (.int .u8 b.toNat))
 |v9 {f xs bH fn e} {vs:List Value} {r1 r2} (hf:P.funcs[f]?=some fn) (mC:(fn.name== "runtime.NumGoroutine")=false) (hb:fn.body.isNone=true) (hn:Extern.findNext fn=none) (he:Extern.find fn=some e)
   (hx:xs.toList.map ρ=vs.map LV.v) (hr:∀w:World,(e vs.toArray).run P w=.ok (.tuple #[r1,r2]) w) (h1:r1.oneCell'=true) (h2:r2.oneCell'=true) :
   aq P H ρ (.call ⟨.value (.func f),xs,bH⟩) (.aQ [.v r1,.v r2])
 |tM {T x y U s t} (hx:ρ x=.v (.string s)) (hy:ρ y=.v (.string t)) (h:s.size+t.size<=9223372036854775807):aq P H ρ (.binOp .add T x y U) (.v (.string (s++t)))
 |uU {T x y U s t} (hx:ρ x=.v (.string s)) (hy:ρ y=.v (.string t)):aq P H ρ (.binOp .eql T x y U) (.v (.bool (s.toList==t.toList)))
 |uO {T x y U d} (hx:ρ x=.v (.slice none 0 0)) (hy:ρ y=.v (.slice none 0 0)) (hT:P.underlying T=some (.slice d)):aq P H ρ (.binOp .eql T x y U) (.v (.bool true))
 |tF {T x y U E a0 a1 a2 a3 b0 b1 b2 b3} (hx:ρ x=.agg [.v (.bool a0),.v (.bool a1),.v (.bool a2),.v (.bool a3)]) (hy:ρ y=.agg [.v (.bool b0),.v (.bool b1),.v (.bool b2),.v (.bool b3)]) (hT:P.underlying T=some (.array 4 E))
   (hE:P.underlying E=some .bool) (hs:aX P E 1 false) (hd:2<=P.depth):aq P H ρ (.binOp .eql T x y U) (.v (.bool (a0==b0&&(a1==b1&&(a2==b2&&a3==b3)))))
 |uy {T x y U sz v l d} (hx:ρ x=.list sz (v::l)) (hy:ρ y=.v (.slice none 0 0)) (hT:P.underlying T=some (.slice d)):aq P H ρ (.binOp .eql T x y U) (.v (.bool false))
 |ahg {S D E x b off len blk} {ns:List Nat} (hS:P.underlying S=some (.slice E)) (hE:P.underlying E=some (.int .u8)) (hD:P.underlying D=some .string) (hx:ρ x=.ref b 1 off len) (hb:H b=some blk) (hs:blk.sz=1)
   (hv:(blk.vals.drop off).take len=ns.map (fun n=>LV.v (.int .u8 (n:Nat)))) (hl:off+len<=blk.vals.length) :
   aq P H ρ (.convert S D x) (.v (.string ((ns.map ad7).foldl (fun r n=>r.push (UInt8.ofNat n.toNat)) ByteArray.empty)))
 |build {T zs ps} (hT:jn P T (zs.map lay)) (hz:ck P T (.agg zs)) (hp:∀p∈ps.toList,∃z,zs[p.1]?=some z/\lay (ρ p.2)=lay z/\ρ p.2≠.any/\∀m,ρ p.2≠.aQ m) :
   aq P H ρ (.build T ps) (.agg (jf zs (ps.toList.map fun p=>(p.1,ρ p.2))))
section
variable {P:Program} {Z:Nat->Prop} {μ:Nat->Option Nat} {w:World}
theorem aC.int{k:IntKind}{n:Int}:aC Z μ w (.v (.int k n)) (.int k n):=⟨by simp[LV.isAgg],fun _=>by simp[ao,Value.oneCell']⟩
theorem aC.bool{b:Bool}:aC Z μ w (.v (.bool b)) (.bool b):=⟨by simp[LV.isAgg],fun _=>by simp[ao,Value.oneCell']⟩
theorem aC.cV{x v:Value}(h:aC Z μ w (.v x) v):v=x:=by
 have:=h.2 rfl;simp only[ao]at this;simpa using this.1
theorem aC.v{x:Value}(h:x.oneCell'=true):aC Z μ w (.v x) x:=⟨by simp[LV.isAgg],fun _=>by simp[ao,h]⟩
theorem azJ{op:BinOp}{k:IntKind}{a b:Int}{r:Value}(h:cj op k a b=some r):r.oneCell'=true:=by
 cases op<;>simp[cj]at h<;>first|(subst h;rfl)|(obtain⟨_,rfl⟩:=h;rfl)
theorem asb{op:BinOp}{k:IntKind}{a b:Int}{r:Value}(h:lz op k a b=some r):r.oneCell'=true:=by
 unfold lz at h;split at h
 ·simp at h
 cases op<;>simp at h<;>(subst h;rfl)
theorem axQ{op:BinOp}{T:TypeId}{x y:Operand}{k:IntKind}{a b:Int}{r:Value}(h:cj op k a b=some r):
  (do eqGuard op T x y (.int k a) (.int k b);binOp op T (.int k a) (.int k b):Sem Value).run P w=.ok r w:=by
 cases op<;>simp[cj]at h<;>simp[eqGuard,binOp,Op.intArith,Op.intDiv,Op.intBits,Op.intCmp] <;>
  first
   |(subst h;rfl)
   |(obtain⟨h1,rfl⟩:=h;simp[h1])
   |skip
theorem ata{op:BinOp}{T:TypeId}{x y:Operand}{k k':IntKind}{a b:Int}{r:Value}(h:lz op k a b=some r):
  (do eqGuard op T x y (.int k a) (.int k' b);binOp op T (.int k a) (.int k' b):Sem Value).run P w=.ok r w:=by
 unfold lz at h;split at h
 ·simp at h
 rename_i hb
 cases op<;>simp at h<;>subst h<;>simp[eqGuard,binOp,Op.shift,hb]
theorem anh(off:Nat):∀(vs:List Value) (i:Nat) (cells:Array Value),off+i+vs.length<=cells.size ->
  ((vs.zipIdx i).foldl (fun cs p=>cs.setIfInBounds (off+p.2) p.1) cells).toList=cells.toList.take (off+i)++(vs++cells.toList.drop (off+i+vs.length))
 | [],i,cells,h=>by simp
 |v::vs,i,cells,h=>by
   simp only[dO]at h;simp only[List.zipIdx_cons,List.foldl_cons];rw[anh off vs (i+1) _ (by rw[Array.size_setIfInBounds];omega)];have e:off+(i+1)=(off+i)+1:=aa;rw[e,Array.toList_setIfInBounds,List.take_succ_eq_append_getElem bm,List.getElem_set_self,List.take_set_of_le aa,List.drop_set_of_lt aa];have e2:off+i+1+vs.length=off+i+(vs.length+1):=aa;rw[e2];simp
theorem adX{ls:List (Nat×Bool)}(place:Nat->Option (Nat×Nat))(ix:∀k n,ls[k]?=some n->place k=some (jY (ls.take k),n.1)):
  ∀(ps:List (Nat×Value)) (qs:List (Nat×LV)) (zs:List LV) (cells:Array Value),zs.map lay=ls->a8 Z μ w zs cells.toList ->
   ps.map (·.1)=qs.map (·.1)->(∀(j:Nat) (p:Nat×Value) (q:Nat×LV),ps[j]?=some p->qs[j]?=some q->dD Z μ w q.2 p.2/\q.2≠LV.any) ->
   (∀q∈qs,∃n,ls[q.1]?=some n/\lay q.2=n) ->
   ∃cs,Instr.fill place cells ps=some cs/\a8 Z μ w (jf zs qs) cs.toList
 | [],[],zs,cells,_,hr,_,_,_=>⟨cells,rfl,hr⟩
 | [],_::_,_,_,_,_,h,_,_=>by simp at h
 |_::_,[],_,_,_,_,h,_,_=>by simp at h
 |(k,v)::ps,(k',x)::qs,zs,cells,hz,hr,hk,hv,hq=>by
   simp only[jh,dq]at hk;obtain⟨rfl,hk⟩:=hk;obtain⟨n,hn,hxn⟩:=hq (k,x) az;obtain⟨hxv,hxa⟩:=hv 0 (k,v) (k,x) rfl rfl;obtain⟨c1,c2,c3,_⟩:=hxv.cells hxa;have hn':=hn;simp only at hn hxn;rw[<-hz,iT]at hn;obtain⟨z,hzk,hzn⟩:∃z,zs[k]?=some z/\lay z=n:=by
    cases h:zs[k]? with
    |none=>simp[h]at hn
    |some z=>exact⟨z,rfl,by simpa[h]using hn⟩
   obtain⟨pre,ch,post,e1,e2,e3,e4,e5⟩:=a8.get zs cells.toList k z hr hzk;have a6:v.cells.size=n.1:=by rw[c2,<-hxn];rfl
   have aCI:ch.length=n.1:=by rw[e3,<-hzn];rfl
   have n8:jY (ls.take k)=pre.length:=by rw[<-hz,adv,e2]
   have hcs:cells.size=pre.length+(ch.length+post.length):=by
    rw[<-jI,e1];simp
   simp only[Instr.fill,ix k n hn',n8];have aw5:¬((decide (v.cells.size≠n.1)||decide (pre.length+v.cells.size > cells.size))=true):=by
    simp only[Bool.or_eq_true,decide_eq_true_eq,not_or,awA];omega
   rw[if_neg aw5];have hf:=anh pre.length v.cells.toList 0 cells bm;have gJ:(v.cells.zipIdx.foldl (fun cs p=>cs.setIfInBounds (pre.length+p.2) p.1) cells).toList=pre++(v.cells.toList++post):=by
    rw[<-Array.foldl_toList,Array.toList_zipIdx];rw[hf,e1];simp only[jK,jI,List.take_left];rw[aqH,iP aa,eF];congr 2;rw[aqH,iP aa,eF];have:pre.length+v.cells.size-pre.length-ch.length=0:=aa;rw[this];rfl
   have rh:=e5 x v.cells.toList c1 (by simp[c2]);rw[<-gJ]at rh;refine adX place ix ps qs (zs.set k x) _ ?_ rh hk (fun j p q hp hq=>hv (j+1) p q (by simpa using hp) (by simpa using hq)) (fun q h=>hq q (by simp[h]));rw[List.map_set,hz,hxn];refine List.ext_getElem? fun j=>?_;by_cases hj:k=j
   ·subst hj;rw[List.getElem?_set_self (lg.1 hn').1,hn']
   rw[List.getElem?_set_ne hj]
end
end Go.Lg
namespace Go.Lg
section
variable {P:Program} {Z:Nat->Prop} {μ:Nat->Option Nat} {w:World} {H:bn} {ρ:Operand->LV} {a:Act}
theorem dQ.get:∀(l:List LV) (vs:List Value) (i:Nat) (x:LV),dQ Z μ w l vs->l[i]?=some x->∃v,vs[i]?=some v/\dD Z μ w x v
 | [],_,_,_,_,h=>by simp at h
 |y::ys,_,0,x,⟨v,gV,e,h1,h2⟩,hi=>by
   simp only[pE,dN]at hi;subst hi e;exact⟨v,by simp,h1⟩
 |y::ys,_,i+1,x,⟨v,gV,e,h1,h2⟩,hi=>by
   subst e;have:=dQ.get ys gV i x h2 (by simpa using hi);simpa using this
theorem ahO{sz:Nat}{l:List LV}{i:Nat}{r:LV}{off:Nat}{c:Array Value}{part rest:List Value}
  (hd:c.toList.drop off=part++rest) (hr:aw Z μ w sz l part) (hi:l[i]?=some r) :
  ∃ch post,c.toList.drop (off+i*sz)=ch++post/\ch.length=sz/\ao Z μ w r ch:=by
 obtain⟨pre,ch,post,e1,e2,e3,e4,_⟩:=aw.get l part i r hr hi;refine⟨ch,post++rest,?_,e3,e4⟩;rw[<-oL,hd,e1,<-e2];simp
theorem run_indexAt_slice{T E:TypeId}{sz:Nat}{ag:Bool}(hT:P.underlying T=some (.slice E))(hE:aX P E sz ag)(k:IntKind)(n:Int)(len cap b off:Nat)(h0:0<=n)(h1:n<len):
  (Instr.indexAt T (.slice (some ⟨b,off,none⟩) len cap) (.int k n)).run P w=.ok (.pointer (some ⟨b,off+n.toNat*sz,none⟩)) w:=by
 have h2:(0<=n/\n<(len:Int)):=⟨h0,h1⟩;simp[Instr.indexAt,asIntOf,run_underlying hT,run_sizeOf hE,h2,Addr.add_mid]
theorem run_equal_bool{T:TypeId}(hT:P.underlying T=some .bool)(i j:Bool):(Op.equal T (.bool i) (.bool j)).run P w=.ok (i==j) w:=by
 have h:∀d,(Op.equalIn (d+1) T (.bool i) (.bool j)).run P w=.ok (i==j) w:=fun d=>by
  simp only[Op.equalIn,Sem.run_bind,run_underlying hT,Result.andThen_ok,Sem.run_pure]
 exact h 9999
theorem aw1{T:TypeId}(hT:P.underlying T=some .bool){x y:Operand}(i j:Bool):
  (do eqGuard .eql T x y (.bool i) (.bool j);binOp .eql T (.bool i) (.bool j):Sem Value).run P w=.ok (.bool (i==j)) w:=by
 have h1:(eqGuard .eql T x y (.bool i) (.bool j)).run P w=.ok () w:=by simp[eqGuard]
 have h2:(binOp .eql T (.bool i) (.bool j)).run P w=.ok (.bool (i==j)) w:=by
  simp only[binOp];rw[Sem.run_bind,run_equal_bool hT];rfl
 rw[Sem.run_bind,h1];exact h2
theorem avP{T:TypeId}(hT:P.underlying T=some .bool){x y:Operand}(i j:Bool):
  (do eqGuard .neq T x y (.bool i) (.bool j);binOp .neq T (.bool i) (.bool j):Sem Value).run P w=.ok (.bool (!(i==j))) w:=by
 have h1:(eqGuard .neq T x y (.bool i) (.bool j)).run P w=.ok () w:=by simp[eqGuard]
 have h2:(binOp .neq T (.bool i) (.bool j)).run P w=.ok (.bool (!(i==j))) w:=by
  simp only[binOp];rw[Sem.run_bind,run_equal_bool hT];rfl
 rw[Sem.run_bind,h1];exact h2
theorem aui{T d:TypeId}(hT:P.underlying T=some (.slice d))(a:Option Addr)(n c:Nat):(Op.equal T (.slice a n c) (.slice none 0 0)).run P w=.ok (a.isNone) w:=by
 have h:∀k,(Op.equalIn (k+1) T (.slice a n c) (.slice none 0 0)).run P w=.ok (a.isNone) w:=fun k=>by
  cases a<;>simp only[Op.equalIn,Sem.run_bind,run_underlying hT,Result.andThen_ok,Sem.run_pure]<;>rfl
 exact h 9999
theorem amI{T d:TypeId}(hT:P.underlying T=some (.slice d)){x y:Operand}(a:Option Addr)(n c:Nat):
  (do eqGuard .eql T x y (.slice a n c) (.slice none 0 0);binOp .eql T (.slice a n c) (.slice none 0 0):Sem Value).run P w=.ok (.bool a.isNone) w:=by
 have h1:(eqGuard .eql T x y (.slice a n c) (.slice none 0 0)).run P w=.ok () w:=by simp[eqGuard]
 have h2:(binOp .eql T (.slice a n c) (.slice none 0 0)).run P w=.ok (.bool a.isNone) w:=by
  simp only[binOp];rw[Sem.run_bind,aui hT];rfl
 rw[Sem.run_bind,h1];exact h2
theorem avl{E:TypeId}{d:TypeDesc}(h1:P.underlying E=some d)(h2:d.isRow=false)(cs:Array Value)(i:Nat)(v:Value)(h:cs[i]?=some v):(part E cs i).run P w=.ok v w:=by
 cases d<;>first|(exfalso;simp[TypeDesc.isRow]at h2;done)|(simp[part,isAgg,run_underlying h1,h])
theorem au0{T E:TypeId}(d:Nat)(hT:P.underlying T=some (.array 4 E))(hE:P.underlying E=some .bool)(hs:(sizeOf E).run P w=.ok 1 w)(a b:Fin 4->Bool):
  (Op.equalIn (d+2) T (.agg #[.bool (a 0),.bool (a 1),.bool (a 2),.bool (a 3)]) (.agg #[.bool (b 0),.bool (b 1),.bool (b 2),.bool (b 3)])).run P w=.ok (a 0==b 0&&(a 1==b 1&&(a 2==b 2&&a 3==b 3))) w:=by
 have hb:∀x y:Bool,(Op.equalIn (d+1) E (.bool x) (.bool y)).run P w=.ok (x==y) w:=fun x y=>by
  simp only[Op.equalIn,Sem.run_bind,run_underlying hE,Result.andThen_ok,Sem.run_pure]
 have hp:=fun(cs:Array Value) (i:Nat) (v:Value) (h:cs[i]?=some v)=>avl (w:=w) hE (by rfl) cs i v h;have rh:∀(i:Nat) (x y:Bool) (hx:(#[Value.bool (a 0),Value.bool (a 1),Value.bool (a 2),Value.bool (a 3)])[i]?=some (.bool x)) (hy:(#[Value.bool (b 0),Value.bool (b 1),Value.bool (b 2),Value.bool (b 3)])[i]?=some (.bool y)),
   (do
    let doA <-part E #[Value.bool (a 0),Value.bool (a 1),Value.bool (a 2),Value.bool (a 3)] i
    let doB <-part E #[Value.bool (b 0),Value.bool (b 1),Value.bool (b 2),Value.bool (b 3)] i
    let doA <-Op.equalIn (d+1) E doA doB
    if (!doA)=true then pure (ForInStep.done (some false,()))else pure (ForInStep.yield (none,())):Sem (ForInStep (Option Bool×Unit))).run P w=.ok (if x==y then ForInStep.yield (none,())else ForInStep.done (some false,())) w:=fun i x y hx hy=>by
  rw[Sem.run_bind,hp _ _ _ hx];simp only[Result.andThen_ok];rw[Sem.run_bind,hp _ _ _ hy];simp only[Result.andThen_ok];rw[Sem.run_bind,hb];simp only[Result.andThen_ok]
  cases x==y<;>simp
 rw[Op.equalIn,Sem.run_bind,run_underlying hT];simp only[Result.andThen_ok];rw[Sem.run_bind,hs];simp only[Result.andThen_ok];rw[Sem.run_bind];simp only[Std.Legacy.Range.forIn_eq_forIn_range',Std.Legacy.Range.size,Nat.sub_zero,Nat.div_one,List.range',List.forIn_cons,List.forIn_nil,aW,Nat.mul_one,fW];rw[Sem.run_bind,rh 0 (a 0) (b 0) rfl rfl]
 cases a 0==b 0
 ·simp
 simp only[Result.andThen_ok,if_true,afu];rw[Sem.run_bind,rh 1 (a 1) (b 1) rfl rfl]
 cases a 1==b 1
 ·simp
 simp only[Result.andThen_ok,if_true,afu];rw[Sem.run_bind,rh 2 (a 2) (b 2) rfl rfl]
 cases a 2==b 2
 ·simp
 simp only[Result.andThen_ok,if_true,afu];rw[Sem.run_bind,rh 3 (a 3) (b 3) rfl rfl]
 cases a 3==b 3
 ·simp
 simp
theorem as1{T E:TypeId}(hT:P.underlying T=some (.array 4 E))(hE:P.underlying E=some .bool)(hs:aX P E 1 false)(hd:2<=P.depth){x y:Operand}(a b:Fin 4->Bool):
  (do eqGuard .eql T x y (.agg #[.bool (a 0),.bool (a 1),.bool (a 2),.bool (a 3)]) (.agg #[.bool (b 0),.bool (b 1),.bool (b 2),.bool (b 3)]);binOp .eql T (.agg #[.bool (a 0),.bool (a 1),.bool (a 2),.bool (a 3)]) (.agg #[.bool (b 0),.bool (b 1),.bool (b 2),.bool (b 3)]):Sem Value).run P w=.ok (.bool (a 0==b 0&&(a 1==b 1&&(a 2==b 2&&a 3==b 3)))) w:=by
 obtain⟨n,hn⟩:∃n,P.depth=n+2:=⟨P.depth-2,aa⟩;have hg:P.eqGuardType P.depth T=false:=by rw[hn];simp[Program.eqGuardType,hT,hE]
 have h1:(eqGuard .eql T x y (.agg #[.bool (a 0),.bool (a 1),.bool (a 2),.bool (a 3)]) (.agg #[.bool (b 0),.bool (b 1),.bool (b 2),.bool (b 3)])).run P w=.ok () w:=by simp[eqGuard,hg]
 have h2:(binOp .eql T (.agg #[.bool (a 0),.bool (a 1),.bool (a 2),.bool (a 3)]) (.agg #[.bool (b 0),.bool (b 1),.bool (b 2),.bool (b 3)])).run P w=.ok (.bool (a 0==b 0&&(a 1==b 1&&(a 2==b 2&&a 3==b 3)))) w:=by
  simp only[binOp];have e:=au0 9998 hT hE (run_sizeOf (w:=w) hs) a b;simp only[aW]at e;rw[Sem.run_bind,Op.equal,Op.maxDepth,e];rfl
 rw[Sem.run_bind,h1];exact h2
theorem aoL{Z:Nat->Prop}{μ:Nat->Option Nat}{a0 a1 a2 a3:Bool}{v:Value}(h:aC Z μ w (.agg [.v (.bool a0),.v (.bool a1),.v (.bool a2),.v (.bool a3)]) v):v=.agg #[.bool a0,.bool a1,.bool a2,.bool a3]:=by
 obtain⟨cs,rfl,hr⟩:=h.1 rfl;simp only[ao,a8]at hr;obtain⟨c1,d1,e1,_,⟨r1,_⟩,c2,d2,e2,_,⟨r2,_⟩,c3,d3,e3,_,⟨r3,_⟩,c4,d4,e4,_,⟨r4,_⟩,r5⟩:=hr;subst r1 r2 r3 r4 r5 e4 e3 e2;congr 1;exact tv e1
theorem avx{T E:TypeId}(hT:P.underlying T=some (.array 4 E))(hE:P.underlying E=some .bool)(hs:aX P E 1 false)(hd:2<=P.depth){x y:Operand}(a0 a1 a2 a3 b0 b1 b2 b3:Bool):
  (do eqGuard .eql T x y (.agg #[.bool a0,.bool a1,.bool a2,.bool a3]) (.agg #[.bool b0,.bool b1,.bool b2,.bool b3]);binOp .eql T (.agg #[.bool a0,.bool a1,.bool a2,.bool a3]) (.agg #[.bool b0,.bool b1,.bool b2,.bool b3]):Sem Value).run P w=.ok (.bool (a0==b0&&(a1==b1&&(a2==b2&&a3==b3)))) w :=
 as1 hT hE hs hd (fun i=>[a0,a1,a2,a3][i]) (fun i=>[b0,b1,b2,b3][i])
theorem ab2(isS:Bool)(len cap:Nat)(la ha:Option Value)(a h:Nat)(bD:∀y,la=some y->∃k,y=.int k (a:Nat))(nY:la=none->a=0)
  (fg:∀y,ha=some y->∃k,y=.int k (h:Nat)) (rN:ha=none->h=len) (h1:a<=h) (h2:h<=cap) :
  (Instr.sliceBounds isS len cap la ha none).run P w=.ok (a,h,cap) w:=by
 have e1:∀(k:IntKind) (c:BoundsCode),(Instr.sliceBound (.int k (h:Nat)) cap c).run P w=.ok h w:=fun k c=>by
  have:=run_sliceBound (P:=P) w k (h:Int) cap c aa aa;simpa using this
 have e2:∀(k:IntKind) (c:BoundsCode),(Instr.sliceBound (.int k (a:Nat)) h c).run P w=.ok a w:=fun k c=>by
  have:=run_sliceBound (P:=P) w k (a:Int) h c aa aa;simpa using this
 cases la with
 |none =>
  have:=nY rfl;subst this
  cases ha with
  |none=>have:=rN rfl;subst this;simp[Instr.sliceBounds]
  |some y=>obtain⟨k,rfl⟩:=fg y rfl;simp[Instr.sliceBounds,e1]
 |some x =>
  obtain⟨k',rfl⟩:=bD x rfl
  cases ha with
  |none=>have:=rN rfl;subst this;simp[Instr.sliceBounds,e2]
  |some y=>obtain⟨k,rfl⟩:=fg y rfl;simp[Instr.sliceBounds,e1,e2]
theorem awv(len cap:Nat)(la:Option Value)(a h m:Nat)(k k':IntKind)(bD:∀y,la=some y->∃k,y=.int k (a:Nat))(nY:la=none->a=0)(h1:a<=h)(h2:h<=m)(h3:m<=cap):
  (Instr.sliceBounds true len cap la (some (.int k (h:Nat))) (some (.int k' (m:Nat)))).run P w=.ok (a,h,m) w:=by
 have e0:∀(c:BoundsCode),(Instr.sliceBound (.int k' (m:Nat)) cap c).run P w=.ok m w:=fun c=>by
  have:=run_sliceBound (P:=P) w k' (m:Int) cap c aa aa;simpa using this
 have e1:∀(c:BoundsCode),(Instr.sliceBound (.int k (h:Nat)) m c).run P w=.ok h w:=fun c=>by
  have:=run_sliceBound (P:=P) w k (h:Int) m c aa aa;simpa using this
 have e2:∀(k:IntKind) (c:BoundsCode),(Instr.sliceBound (.int k (a:Nat)) h c).run P w=.ok a w:=fun k c=>by
  have:=run_sliceBound (P:=P) w k (a:Int) h c aa aa;simpa using this
 cases la with
 |none =>
  have:=nY rfl;subst this;simp[Instr.sliceBounds,e0,e1]
 |some x =>
  obtain⟨k',rfl⟩:=bD x rfl;simp[Instr.sliceBounds,e0,e1,e2]
theorem aqv:∀(fs:List Field) (ls:List (Nat×Bool)) (off:Nat),nc P off fs ls ->
  ∃pl:List (Nat×Nat),(fs.mapM fun f=>do pure (f.offset,<-sizeOf f.type):Sem (List (Nat×Nat))).run P w=.ok pl w/\∀k n,ls[k]?=some n->pl[k]?=some (off+jY (ls.take k),n.1)
 | [],[],_,_=>⟨[],rfl,fun k n h=>by simp at h⟩
 | [],_::_,_,h=>by simp[nc]at h
 |_::_,[],_,h=>by simp[nc]at h
 |f::fs,(n,ag)::r,off,h=>by
   simp only[nc]at h;obtain⟨h1,h2,h3⟩:=h;obtain⟨pl,e1,e2⟩:=aqv fs r (off+n) h3;refine⟨(off,n)::pl,?_,?_⟩
   ·simp only[List.mapM_cons,Sem.run_bind,run_sizeOf h2,Result.andThen_ok,Sem.run_pure,e1,h1]
   intro k m hk
   cases k with
   |zero=>simp at hk;subst hk;simp[jY]
   |succ k =>
    have:=e2 k m (by simpa using hk);simp only[List.getElem?_cons_succ,this,sr,jY];congr 2;omega
theorem adq{n sz:Nat}{ag:Bool}:∀(fs:List LV) (k:Nat),(∀z∈fs,lay z=(sz,ag))->k<=fs.length->bI (fs.take k)=k*sz
 |_,0,_,_=>by simp[bI]
 | [],k+1,_,h=>by simp at h
 |x::xs,k+1,h,hk=>by
  have h1:x.aj=sz:=by have:=h x az;simp only[lay,uQ]at this;exact this.1
  rw[sr,bI,h1,adq (n:=n) xs k (fun z hz=>h z (by simp[hz])) (by simpa using hk),Nat.succ_mul,Nat.add_comm]
theorem aqZ{fs:List LV}{n sz:Nat}{ag:Bool}(h:fs.map lay=aJ n (sz,ag)):fs.length=n/\∀z∈fs,lay z=(sz,ag):=by
 refine⟨by have:=congrArg ajH h;simpa using this,fun z hz=>?_⟩;have:lay z∈fs.map lay:=List.mem_map_of_mem hz;rw[h]at this;exact(List.mem_replicate.1 this).2
theorem run_indexAt_array{T E:TypeId}{n sz:Nat}{ag:Bool}(hT:P.underlying T=some (.array n E))(hE:aX P E sz ag)(k:IntKind)(m:Int)(b off:Nat)(h0:0<=m)(h1:m<n):
  (Instr.indexAt T (.pointer (some ⟨b,off,none⟩)) (.int k m)).run P w=.ok (.pointer (some ⟨b,off+m.toNat*sz,none⟩)) w:=by
 have h2:(0<=m/\m<(n:Int)):=⟨h0,h1⟩;simp[Instr.indexAt,Instr.sureAddr,asIntOf,run_underlying hT,run_sizeOf hE,h2,Addr.add_mid]
theorem asR{T E:TypeId}{n sz:Nat}{ag:Bool}{fs:List LV}{x:LV}{v:Value}{k:IntKind}{m:Int}(hT:P.underlying T=some (.array n E))(hE:aX P E sz ag)(hf:fs.map lay=aJ n (sz,ag))(h0:0<=m)
  (hx:fs[m.toNat]?=some x) (aG:x≠.any) (h:dD Z μ w (.agg fs) v):∃u,(Instr.index T v (.int k m)).run P w=.ok u w/\dD Z μ w x u:=by
 obtain⟨hl,y7⟩:=aqZ hf;obtain⟨cs,rfl,hc⟩:=h.1 rfl;simp only[ao]at hc;obtain⟨pre,ch,post,e1,e2,e3,e4,_⟩:=a8.get fs cs.toList m.toNat x hc hx;have hk:=(lg.1 hx).1;have x5:=y7 x (rK hx);simp only[lay,uQ]at x5;obtain⟨u,tK,hu3⟩:=an8 (T:=E) (by rw[x5.1,x5.2];exact hE) e1 e4 aG;refine⟨u,?_,hu3⟩;have n8:m.toNat*sz=pre.length:=by rw[e2,adq (n:=n) fs m.toNat y7 aa]
 have h2:(0<=m/\m<(n:Int)):=⟨h0,aa⟩;simp only[Instr.index,asIntOf,Sem.run_bind,Sem.run_pure,Result.andThen_ok,run_underlying hT,if_pos h2,run_sizeOf hE,n8];simpa using tK
theorem asS{T E:TypeId}{zs:List LV}{ps:Array (Nat×Operand)}{n sz:Nat}{ag:Bool}(hT:P.underlying T=some (.array n E))(hE:aX P E sz ag)(hf:∀z∈zs,lay z=(sz,ag))(hz:ck P T (.agg zs))
  (hp:∀p∈ps.toList,∃z,zs[p.1]?=some z/\lay (ρ p.2)=lay z/\ρ p.2≠.any/\∀m,ρ p.2≠.aQ m) (bz:∀p∈ps.toList,aC Z μ w (ρ p.2) (a.eval p.2)) :
  ∃v,(Instr.build T (ps.map fun(i,x)=>(i,a.eval x))).run P w=.ok v w/\aC Z μ w (.agg (jf zs (ps.toList.map fun p=>(p.1,ρ p.2)))) v:=by
 obtain⟨i,zv,z1,z2,_,z3⟩:=hz;have tP:=z3 Z μ w;simp only[ao]at tP;obtain⟨cs,f1,f2⟩:=adX (Z:=Z) (μ:=μ) (w:=w) (ls:=zs.map lay) (fun k=>some (k*sz,sz)) (fun k n hk=>by
   rw[iT,ue]at hk;obtain⟨z,hz,rfl⟩:=hk;have hk:=(lg.1 hz).1;have jw:=hf z (rK hz);rw[jw,adv,adq (n:=0) zs k hf aa])
  (ps.toList.map fun p=>(p.1,a.eval p.2)) (ps.toList.map fun p=>(p.1,ρ p.2)) zs zv.cells rfl tP az
  (fun j p q ir qu=>by
   simp only[iT,ue]at ir qu;obtain⟨x,hx,rfl⟩:=ir;obtain⟨y,hy,rfl⟩:=qu;rw[hx]at hy;cases hy;have hm:=rK hx;obtain⟨z,_,_,h3,h4⟩:=hp x hm;exact⟨aC.qY h4 h3 (bz x hm),h3⟩)
  (fun q hq=>by
   simp only[fB]at hq;obtain⟨x,hx,rfl⟩:=hq;obtain⟨z,h1,h2,_⟩:=hp x hx;exact⟨lay z,by simp[iT,h1],h2⟩)
 refine⟨.agg cs,?_,⟨fun _=>⟨cs,rfl,by simpa[ao]using f2⟩,by simp[LV.isAgg]⟩⟩;have ud:(zeroValue T).run P w=.ok zv w:=by simp[zeroValue,typeInfo,z1,z2]
 simp only[Instr.build,Sem.run_bind,ud,Result.andThen_ok,run_underlying hT,run_sizeOf hE];have:(abo (fun x=>match x with|(i,x)=>(i,a.eval x)) ps).toList=ps.toList.map fun p=>(p.1,a.eval p.2):=az;rw[this,f1];rfl
theorem ayD{T:TypeId}{zs:List LV}{ps:Array (Nat×Operand)}(hT:jn P T (zs.map lay))(hz:ck P T (.agg zs))
  (hp:∀p∈ps.toList,∃z,zs[p.1]?=some z/\lay (ρ p.2)=lay z/\ρ p.2≠.any/\∀m,ρ p.2≠.aQ m) (bz:∀p∈ps.toList,aC Z μ w (ρ p.2) (a.eval p.2)) :
  ∃v,(Instr.build T (ps.map fun(i,x)=>(i,a.eval x))).run P w=.ok v w/\aC Z μ w (.agg (jf zs (ps.toList.map fun p=>(p.1,ρ p.2)))) v:=by
 obtain⟨i,zv,z1,z2,_,z3⟩:=hz;obtain⟨fields,hu,hl,lW⟩:=hT;have tP:=z3 Z μ w;simp only[ao]at tP;obtain⟨pl,e1,e2⟩:=aqv (P:=P) (w:=w) fields.toList _ 0 hl;obtain⟨cs,f1,f2⟩:=adX (Z:=Z) (μ:=μ) (w:=w) (ls:=zs.map lay) (fun k=>pl.toArray[k]?) (fun k n hk=>by simpa using e2 k n hk)
  (ps.toList.map fun p=>(p.1,a.eval p.2)) (ps.toList.map fun p=>(p.1,ρ p.2)) zs zv.cells rfl tP az
  (fun j p q ir qu=>by
   simp only[iT,ue]at ir qu;obtain⟨x,hx,rfl⟩:=ir;obtain⟨y,hy,rfl⟩:=qu;rw[hx]at hy;cases hy;have hm:=rK hx;obtain⟨z,_,_,h3,h4⟩:=hp x hm;exact⟨aC.qY h4 h3 (bz x hm),h3⟩)
  (fun q hq=>by
   simp only[fB]at hq;obtain⟨x,hx,rfl⟩:=hq;obtain⟨z,h1,h2,_⟩:=hp x hx;exact⟨lay z,by simp[iT,h1],h2⟩)
 refine⟨.agg cs,?_,⟨fun _=>⟨cs,rfl,by simpa[ao]using f2⟩,by simp[LV.isAgg]⟩⟩;have ix:(fields.mapM fun f=>do pure (f.offset,<-sizeOf f.type):Sem (Array (Nat×Nat))).run P w=.ok pl.toArray w:=by
  rw[Array.mapM_eq_mapM_toList,Sem.run_map,e1];rfl
 have ud:(zeroValue T).run P w=.ok zv w:=by simp[zeroValue,typeInfo,z1,z2]
 simp only[Instr.build,Sem.run_bind,ud,Result.andThen_ok,run_underlying hu,ix];have:(abo (fun x=>match x with|(i,x)=>(i,a.eval x)) ps).toList=ps.toList.map fun p=>(p.1,a.eval p.2):=az;rw[this,f1];rfl
theorem apD{sz:Nat}:∀{l:List LV} {cs:List Value},(∀v∈l,v.aj=sz)->aw Z μ w sz l cs->a8 Z μ w l cs
 | [],cs,_,h=>by simpa only[a8,aw]using h
 |x::xs,cs,hs,h=>by
   simp only[a8,aw]at h ⊢;obtain⟨c1,c2,e,l1,r1,r2⟩:=h;exact⟨c1,c2,e,by rw[l1,hs x az],r1,apD (fun v hv=>hs v (by simp[hv])) r2⟩
theorem amK{sz:Nat}:∀{l:List LV} {cs:List Value},(∀v∈l,v.aj=sz)->aw Z μ w sz l cs->cs.length=(LV.agg l).aj
 | [],cs,_,h=>by simp only[aw]at h;subst h;simp[LV.aj,bI]
 |x::xs,cs,hs,h=>by
   simp only[aw]at h;obtain⟨c1,c2,e,l1,r1,r2⟩:=h;have:=amK (fun v hv=>hs v (by simp[hv])) r2;subst e;simp only[LV.aj,bI,kH]at this ⊢;rw[this,l1,hs x az]
set_option maxHeartbeats 2000000 in
theorem aq.sound{op:Op}{r:LV}(ho:aq P H ρ op r)(bz:∀x∈op.operands,aC Z μ w (ρ x) (a.eval x))
  (hh:∀b id,μ b=some id->∃blk,H b=some blk/\pK Z μ w blk id) (dst:Option Tmp) (ty:TypeId) (pos:String) (after:Array Edge) (g:Option (Nat×Bool)) :
  ∃v,(execOp a.eval ⟨dst,op,ty,pos,after,g⟩).run P w=.ok (.value v) w/\aC Z μ w r v:=by
 cases ho with
 |move x=>exact⟨a.eval x,rfl,bz x aY⟩
 |assign x=>exact⟨a.eval x,rfl,bz x aY⟩
 | @pick c x y t h =>
  have hc:=bz c aY;rw[h]at hc;have hc:=hc.cV;refine⟨if t then a.eval x else a.eval y,by cases t<;>simp[execOp,hc,asBool],?_⟩
  cases t
  ·simpa using bz y aY
  simpa using bz x aY
 | @bin op T x y U k i j r hx hy h =>
  have e1:=bz x aY;rw[hx]at e1;have e1:=e1.cV;have e2:=bz y aY;rw[hy]at e2;have e2:=e2.cV;refine⟨r,?_,aC.v (azJ h)⟩;have:=axQ (P:=P) (w:=w) (T:=T) (x:=x) (y:=y) h;simp only[execOp,e1,e2];rw[Sem.run_bind,this];rfl
 | @sh op T x y U k k' i j r hx hy h =>
  have e1:=bz x aY;rw[hx]at e1;have e1:=e1.cV;have e2:=bz y aY;rw[hy]at e2;have e2:=e2.cV;refine⟨r,?_,aC.v (asb h)⟩;have:=ata (P:=P) (w:=w) (T:=T) (x:=x) (y:=y) (k':=k') h;simp only[execOp,e1,e2];rw[Sem.run_bind,this];rfl
 | @beq T x y U i j hx hy hT =>
  have e1:=bz x aY;rw[hx]at e1;have e1:=e1.cV;have e2:=bz y aY;rw[hy]at e2;have e2:=e2.cV;exact⟨.bool (i==j),by simp only[execOp,e1,e2];rw[Sem.run_bind,aw1 hT];rfl,aC.bool⟩
 | @uO T x y U d hx hy hT =>
  have e1:=bz x aY;rw[hx]at e1;have e1:=e1.cV;have e2:=bz y aY;rw[hy]at e2;have e2:=e2.cV;exact⟨.bool true,by simp only[execOp,e1,e2];rw[Sem.run_bind,amI hT];rfl,aC.bool⟩
 | @tF T x y U E a0 a1 a2 a3 b0 b1 b2 b3 hx hy hT hE hs hd =>
  have e1:=bz x aY;rw[hx]at e1;have e1:=aoL e1;have e2:=bz y aY;rw[hy]at e2;have e2:=aoL e2;exact⟨.bool _,by simp only[execOp,e1,e2];rw[Sem.run_bind,avx hT hE hs hd];rfl,aC.bool⟩
 | @uy T x y U sz v l d hx hy hT =>
  have e1:=bz x aY;rw[hx]at e1;have e2:=bz y aY;rw[hy]at e2;have e2:=e2.cV;have e3:=e1.2 rfl;simp only[ao]at e3;obtain⟨ad,len,cap,q1,q2,q3,q4,_⟩:=e3;simp only[dq,and_true]at q1;rcases q4 with q4|⟨blk,off,c,T',fz,part,rest,q5,_⟩
  ·cases q4
  subst q5;exact⟨.bool false,by simp only[execOp,q1,e2];rw[Sem.run_bind,amI hT];rfl,aC.bool⟩
 | @bne T x y U i j hx hy hT =>
  have e1:=bz x aY;rw[hx]at e1;have e1:=e1.cV;have e2:=bz y aY;rw[hy]at e2;have e2:=e2.cV;exact⟨.bool (!(i==j)),by simp only[execOp,e1,e2];rw[Sem.run_bind,avP hT];rfl,aC.bool⟩
 | @not T x i hx =>
  have e1:=bz x aY;rw[hx]at e1;have e1:=e1.cV;exact⟨.bool (!i),by simp[execOp,e1,Op.unary],aC.bool⟩
 | @neg T x k i hx =>
  have e1:=bz x aY;rw[hx]at e1;have e1:=e1.cV;exact⟨.int k (k.wrap (0-i)),by simp[execOp,e1,Op.unary,Op.intArith],aC.int⟩
 | @conv S D x k k' n d hS hD hx =>
  have e1:=bz x aY;rw[hx]at e1;have e1:=e1.cV;exact⟨.int k (k.wrap n),by simp[execOp,e1,convert,run_underlying hS,run_underlying hD,Conv.intToInt],aC.int⟩
 | @extract t i l r ht hr aG =>
  have e1:=bz t aY;rw[ht]at e1;obtain⟨vs,e2,e3⟩:=e1;obtain⟨v,h1,h2⟩:=dQ.get _ _ _ _ e3 hr;refine⟨v,?_,aC.nZ aG h2⟩;have:vs[i]?=some v:=by rw[<-xP];exact h1
  simp[execOp,e2,Instr.extract,this]
 | @field T x k fs r hx hT hr aG =>
  have e1:=bz x aY;rw[hx]at e1;obtain⟨u,h1,h2⟩:=atf (P:=P) (w:=w) hT hr (LV.eg aG) (aC.qY az az e1);exact⟨u,by simp[execOp,h1],aC.nZ (LV.dV aG) h2⟩
 | @sQ T p k fs r hp hT hr =>
  have e1:=bz p aY;rw[hp]at e1;have e2:=e1.2 rfl;simp only[ao]at e2;obtain⟨blk,off,cc,U,fz,part,rest,h1,h2,h3,h4,h5,h6,h7⟩:=e2;obtain⟨pre,ch,post,g1,g2,g3,g4,_⟩:=a8.get fs part k r h6 hr;have hk:k<(fs.map lay).length:=by rw[bF];exact(lg.1 hr).1
  have hf:=aoj (P:=P) (w:=w) hT hk blk off;rw[adv]at hf;refine⟨.pointer (some ⟨blk,off+bI (fs.take k),none⟩),?_,⟨by simp[LV.isAgg],fun _=>?_⟩⟩
  ·simp only[dq,and_true]at h1;simp[execOp,h1,hf]
  simp only[ao];refine⟨blk,_,cc,U,fz,ch,post++rest,rfl,h2,h3,?_,g3,g4,(qZ _).1 (by simpa[LV.pure]using h7) _ (rK hr)⟩;rw[<-oL,h4,g1,<-g2];simp
 | @wj T p k b sz i o ls hp hT hk =>
  have e1:=bz p aY;rw[hp]at e1;have e2:=e1.2 rfl;simp only[ao]at e2;obtain⟨id,h1,h2⟩:=e2;simp only[dq,and_true]at h1;have hf:=aoj (P:=P) (w:=w) hT hk id (i*sz+o);refine⟨.pointer (some ⟨id,i*sz+o+jY (ls.take k),none⟩),by simp[execOp,h1,hf],⟨by simp[LV.isAgg],fun _=>?_⟩⟩;simp only[ao];exact⟨id,by rw[od],h2⟩
 | @ac8 T E x i n fs k m r sz ag hx hT hE hf hi h0 hr hp =>
  have e1:=bz x aY;rw[hx]at e1;have e2:=bz i aY;rw[hi]at e2;have e2:=e2.cV;obtain⟨u,h1,h2⟩:=asR (P:=P) (w:=w) (k:=k) hT hE hf h0 hr (LV.eg hp) (aC.qY az az e1);exact⟨u,by simp[execOp,e2,h1],aC.nZ (LV.dV hp) h2⟩
 | @wP T E x j n b sz i o k m es ag hx hT hE hi h0 hm =>
  have e1:=bz x aY;rw[hx]at e1;have e3:=bz j aY;rw[hi]at e3;have e3:=e3.cV;have e2:=e1.2 rfl;simp only[ao]at e2;obtain⟨id,h1,h2⟩:=e2;simp only[dq,and_true]at h1;have hf:=run_indexAt_array (P:=P) (w:=w) hT hE k m id (i*sz+o) h0 hm;refine⟨.pointer (some ⟨id,i*sz+o+m.toNat*es,none⟩),by simp[execOp,h1,e3,hf],⟨by simp[LV.isAgg],fun _=>?_⟩⟩;simp only[ao];exact⟨id,by rw[od],h2⟩
 | @tf T E x i n fs k m r sz ag hx hT hE hf hi h0 hr =>
  have e1:=bz x aY;rw[hx]at e1;have e3:=bz i aY;rw[hi]at e3;have e3:=e3.cV;have e2:=e1.2 rfl;simp only[ao]at e2;obtain⟨blk,off,cc,U,fz,part,rest,h1,h2,h3,h4,h5,h6,h7⟩:=e2;obtain⟨hl,y7⟩:=aqZ hf;have hk:=(lg.1 hr).1;obtain⟨pre,ch,post,g1,g2,g3,g4,_⟩:=a8.get fs part m.toNat r h6 hr;have lr:=run_indexAt_array (P:=P) (w:=w) hT hE k m blk off h0 aa;rw[<-adq (n:=n) fs m.toNat y7 aa]at lr;refine⟨.pointer (some ⟨blk,off+bI (fs.take m.toNat),none⟩),?_,⟨by simp[LV.isAgg],fun _=>?_⟩⟩
  ·simp only[dq,and_true]at h1;simp[execOp,h1,e3,lr]
  simp only[ao];refine⟨blk,_,cc,U,fz,ch,post++rest,rfl,h2,h3,?_,g3,g4,(qZ _).1 (by simpa[LV.pure]using h7) _ (rK hr)⟩;rw[<-oL,h4,g1,<-g2];simp
 | @xB T p c hp hT hc =>
  have e1:=bz p aY;rw[hp]at e1;have e2:=e1.2 rfl;simp only[ao]at e2;obtain⟨blk,off,cc,U,fz,part,rest,h1,h2,h3,h4,h5,h6,h7⟩:=e2;simp only[dq,and_true]at h1;obtain⟨v,g1,g2⟩:=al9 (P:=P) hT h3 h4 h6 (LV.eg hc);exact⟨v,by simp[execOp,h1,g1],aC.nZ (LV.dV hc) g2⟩
 | @eP T p b sz i o blk x r n ag hp hb hs hi hx hr hT =>
  have e1:=bz p aY;rw[hp]at e1;have e2:=e1.2 rfl;simp only[ao]at e2;obtain⟨id,h1,h2⟩:=e2;simp only[dq,and_true]at h1;obtain⟨blk',l6,c,U,part,rest,q1,q2,q3⟩:=hh b id h2;rw[hb]at l6;cases l6;obtain⟨ch,post,k1,k2,k3⟩:=ahO (off:=0) (by simpa using q2) q3 hi;obtain⟨pre,qq,qN,j1,j2,j3,j4,j5,j6,j7,j8⟩:=LV.afe x o n ag r ch hr k3 (by rw[k2,hs,hx]);have hd:c.toList.drop (i*sz+o)=qq++(qN++post):=by
   rw[fW,hs]at k1;rw[<-oL,k1,j1,<-j2];simp
  obtain⟨v,g1,g2⟩:=al9 (P:=P) (y:=r) (by rw[j5,j6];exact hT) q1 hd j4 j7;exact⟨v,by simp[execOp,h1,g1],aC.nZ j8 g2⟩
 | @abn x b sz i o hx =>
  have e1:=bz x aY;rw[hx]at e1;have e2:=e1.2 rfl;simp only[ao]at e2;obtain⟨id,h1,h2⟩:=e2;simp only[dq,and_true]at h1;exact⟨a.eval x,by simp[execOp,h1],e1⟩
 | @aa6 x c hx =>
  have e1:=bz x aY;rw[hx]at e1;have e2:=e1.2 rfl;simp only[ao]at e2;obtain⟨blk,off,cc,U,fz,part,rest,h1,h2⟩:=e2;simp only[dq,and_true]at h1;exact⟨a.eval x,by simp[execOp,h1],e1⟩
 | @jm T E x i sz l k n r ag hx hT hE hi h0 hr hc =>
  have e1:=bz x aY;rw[hx]at e1;have e2:=bz i aY;rw[hi]at e2;have e2:=e2.cV;have e3:=e1.2 rfl;simp only[ao]at e3;obtain⟨ad,len,cap,h1,h2,h3,h4,h9⟩:=e3;simp only[dq,and_true]at h1;have bT:=(lg.1 hr).1;rcases h4 with h4|⟨blk,off,c,U,fz,part,rest,g1,g2,g3,g4,g5⟩
  ·subst h4;simp at bT
  subst g1;have hn:n<(len:Int):=aa;have:=run_indexAt_slice (P:=P) (w:=w) hT hE k n len cap blk off h0 hn;obtain⟨ch,post,k1,k2,k3⟩:=ahO g4 g5 hr;refine⟨_,by simp only[execOp,h1,e2,Sem.run_bind,this];rfl,⟨by simp[LV.isAgg],fun _=>?_⟩⟩;simp only[ao];exact⟨blk,_,c,U,fz,ch,post,rfl,g2,g3,k1,by rw[k2,hc],k3,(qZ _).1 h9 _ (rK hr)⟩
 | @v5 T E x sz l hx hT hl0 hs =>
  have e1:=bz x aY;rw[hx]at e1;have e3:=e1.2 rfl;simp only[ao]at e3;obtain⟨ad,len,cap,h1,h2,h3,h4,h9⟩:=e3;simp only[dq,and_true]at h1;rcases h4 with h4|⟨blk,off,c,U,fz,part,rest,g1,g2,g3,g4,g5⟩
  ·subst h4;simp at hl0
  subst g1;refine⟨.pointer (some ⟨blk,off,none⟩),by simp only[execOp,h1,Instr.arrayAt,Sem.run_bind,run_underlying hT,Result.andThen_ok,if_neg (show ¬len<l.length by omega)];rfl,⟨by simp[LV.isAgg],fun _=>?_⟩⟩;simp only[ao];exact⟨blk,off,c,U,fz,part,rest,rfl,g2,g3,g4,amK hs g5,apD hs g5,by simpa[LV.pure]using h9⟩
 | @vv T E x i b sz off len k n ag hx hT hE hi h0 hn =>
  have e1:=bz x aY;rw[hx]at e1;have e2:=bz i aY;rw[hi]at e2;have e2:=e2.cV;have e3:=e1.2 rfl;simp only[ao]at e3;rcases e3 with⟨_,e3⟩|⟨id,cap,c,U,fz,h1,h2,h3,h4,h5⟩
  ·omega
  simp only[dq,and_true]at h1;have:=run_indexAt_slice (P:=P) (w:=w) hT hE k n len cap id (off*sz) h0 hn;refine⟨_,by simp only[execOp,h1,e2,Sem.run_bind,this];rfl,⟨by simp[LV.isAgg],fun _=>?_⟩⟩;simp only[ao];exact⟨id,by rw[ep];rfl,h2⟩
 | @aae T E x sz ag l lo hi la ha hx hT hE bD nY fg rN h1 h2 =>
  have e1:=bz x aY;rw[hx]at e1;have e3:=e1.2 rfl;simp only[ao]at e3;obtain⟨ad,len,cap,q1,q2,q3,q4,q9⟩:=e3;simp only[dq,and_true]at q1;have hb:=ab2 (P:=P) (w:=w) true len cap (la.map a.eval) (ha.map a.eval) lo hi
   (fun y hy=>by
    cases la with
    |none=>simp at hy
    |some z =>
     simp only[kj,dN]at hy;obtain⟨k,hk⟩:=bD z rfl;have:=bz z aY;rw[hk]at this;exact⟨k,by rw[<-hy];exact this.cV⟩)
   (fun h=>nY ga)
   (fun y hy=>by
    cases ha with
    |none=>simp at hy
    |some z =>
     simp only[kj,dN]at hy;obtain⟨k,hk⟩:=fg z rfl;have:=bz z aY;rw[hk]at this;exact⟨k,by rw[<-hy];exact this.cV⟩)
   (fun h=>by rw[q2];exact rN ga) h1 aa
  have de:(Instr.sliceAt T (.slice ad len cap) (la.map a.eval) (ha.map a.eval) none).run P w=.ok (.slice (if cap=lo then ad else ad.map (·.add (lo*sz))) (hi-lo) (cap-lo)) w:=by
   simp only[Instr.sliceAt,Sem.run_bind,run_underlying hT,Result.andThen_ok,Instr.slice,hb,run_sizeOf hE,Sem.run_pure]
  refine⟨_,by simp only[execOp,q1,aea,Sem.run_bind,de];rfl,⟨by simp[LV.isAgg],fun _=>?_⟩⟩;simp only[ao];refine⟨_,_,_,rfl,by simp;omega,aa,?_,(qZ _).2 fun x hx=>(qZ _).1 q9 x (xY (adQ hx))⟩;by_cases bT:lo<hi
  ·right;rcases q4 with q4|⟨blk,off,c,U,fz,part,rest,g1,g2,g3,g4,g5⟩
   ·subst q4;simp at h2;omega
   subst g1;have fL:¬cap=lo:=aa;obtain⟨c1,c2,d1,d2,d3⟩:=aw.split (l.take hi) (l.drop hi) part (by rw[mP];exact g5);obtain⟨c3,c4,d4,d5,d6⟩:=aw.split ((l.take hi).take lo) ((l.take hi).drop lo) c1 (by rw[mP];exact d2);have pW:=aw.length _ _ d5;simp only[eE]at pW;refine⟨blk,off+lo*sz,c,U,fz,c4,c2++rest,by simp[fL,Addr.add_mid],g2,g3,?_,d6⟩;rw[<-oL,g4,d1,d4];have:lo*sz=c3.length:=by rw[pW];congr 1;omega
   rw[this];simp
  left;have:lo=hi:=aa;subst this;apply kJ;simp
 | @vi T E x b sz off len ag lo hi la ha hx hT hE bD nY fg rN h1 h2 lW =>
  have e1:=bz x aY;rw[hx]at e1;have e3:=e1.2 rfl;simp only[ao]at e3;rcases e3 with⟨_,e3⟩|⟨id,cap,c,U,fz,q1,q2,q3,q4,q5⟩
  ·omega
  simp only[dq,and_true]at q1;have hb:=ab2 (P:=P) (w:=w) true len cap (la.map a.eval) (ha.map a.eval) lo hi
   (fun y hy=>by
    cases la with
    |none=>simp at hy
    |some z =>
     simp only[kj,dN]at hy;obtain⟨k,hk⟩:=bD z rfl;have:=bz z aY;rw[hk]at this;exact⟨k,by rw[<-hy];exact this.cV⟩)
   (fun h=>nY ga)
   (fun y hy=>by
    cases ha with
    |none=>simp at hy
    |some z =>
     simp only[kj,dN]at hy;obtain⟨k,hk⟩:=fg z rfl;have:=bz z aY;rw[hk]at this;exact⟨k,by rw[<-hy];exact this.cV⟩)
   (fun h=>rN ga) h1 aa
  have de:(Instr.sliceAt T (.slice (some ⟨id,off*sz,none⟩) len cap) (la.map a.eval) (ha.map a.eval) none).run P w =
    .ok (.slice (if cap=lo then some ⟨id,off*sz,none⟩else some ⟨id,off*sz+lo*sz,none⟩) (hi-lo) (cap-lo)) w:=by
   simp only[Instr.sliceAt,Sem.run_bind,run_underlying hT,Result.andThen_ok,Instr.slice,hb,run_sizeOf hE,Sem.run_pure,kj,Addr.add_mid]
  refine⟨_,by simp only[execOp,q1,aea,Sem.run_bind,de];rfl,⟨by simp[LV.isAgg],fun _=>?_⟩⟩;simp only[ao];have fL:¬cap=lo:=aa;refine .inr ⟨id,cap-lo,c,U,fz,by simp[fL,ep],q2,aa,q4,?_⟩;have:off+lo+(cap-lo)=off+cap:=aa;rw[this];exact q5
 | @abH T E x b sz off len ag lo hi mx la z zm k k' hx hT hE bD nY fg hmx h1 h2 h3 lW =>
  have e1:=bz x aY;rw[hx]at e1;have e3:=e1.2 rfl;simp only[ao]at e3;rcases e3 with⟨_,e3⟩|⟨id,cap,c,U,fz,q1,q2,q3,q4,q5⟩
  ·omega
  simp only[dq,and_true]at q1;have g1:=bz z aY;rw[fg]at g1;have g2:=bz zm aY;rw[hmx]at g2;have hb:=awv (P:=P) (w:=w) len cap (la.map a.eval) lo hi mx k k'
   (fun y hy=>by
    cases la with
    |none=>simp at hy
    |some z =>
     simp only[kj,dN]at hy;obtain⟨k,hk⟩:=bD z rfl;have:=bz z aY;rw[hk]at this;exact⟨k,by rw[<-hy];exact this.cV⟩)
   (fun h=>nY ga) h1 h2 aa
  have de:(Instr.sliceAt T (.slice (some ⟨id,off*sz,none⟩) len cap) (la.map a.eval) (some (a.eval z)) (some (a.eval zm))).run P w =
    .ok (.slice (if mx=lo then some ⟨id,off*sz,none⟩else some ⟨id,off*sz+lo*sz,none⟩) (hi-lo) (mx-lo)) w:=by
   rw[g1.cV,g2.cV];simp only[Instr.sliceAt,Sem.run_bind,run_underlying hT,Result.andThen_ok,Instr.slice,hb,run_sizeOf hE,Sem.run_pure,kj,Addr.add_mid]
  refine⟨_,by simp only[execOp,q1,kj,Sem.run_bind,de];rfl,⟨by simp[LV.isAgg],fun _=>?_⟩⟩;simp only[ao];have fL:¬mx=lo:=aa;refine .inr ⟨id,mx-lo,c,U,fz,by simp[fL,ep],q2,aa,q4,?_⟩;have:off+lo+(mx-lo)=off+mx:=aa;rw[this];exact Nat.le_trans (Nat.mul_le_mul_right _ aa) q5
 | @um T x sz l d bH hx has hT =>
  have e1:=bz x gG;rw[hx]at e1;have e3:=e1.2 rfl;simp only[ao]at e3;obtain⟨ad,len,cap,q1,q2,_⟩:=e3;simp only[dq,and_true]at q1;subst has;exact⟨.int .i64 (l.length:Nat),by simp[execOp,resolve,invoke,builtin,q1,Builtin.len_,run_underlying hT,goInt,q2],aC.int⟩
 | @vF T x b sz off len d bH hx has hT =>
  have e1:=bz x gG;rw[hx]at e1;have e3:=e1.2 rfl;simp only[ao]at e3;subst has;rcases e3 with⟨q1,rfl⟩|⟨id,cap,c,U,fz,q1,_⟩
  ·simp only[dq,and_true]at q1;exact⟨.int .i64 (0:Nat),by simp[execOp,resolve,invoke,builtin,q1,Builtin.len_,run_underlying hT,goInt],aC.int⟩
  simp only[dq,and_true]at q1;exact⟨.int .i64 (len:Nat),by simp[execOp,resolve,invoke,builtin,q1,Builtin.len_,run_underlying hT,goInt],aC.int⟩
 | @vQ T x b sz off len cp d bH hx has hT =>
  have e1:=bz x gG;rw[hx]at e1;have e3:=e1.2 rfl;simp only[ao]at e3;subst has;obtain⟨id,c,U,fz,q1,_⟩:=e3;simp only[dq,and_true]at q1;exact⟨.int .i64 (len:Nat),by simp[execOp,resolve,invoke,builtin,q1,Builtin.len_,run_underlying hT,goInt],aC.int⟩
 | @acm T x b sz off len cp d bH hx has hT =>
  have e1:=bz x gG;rw[hx]at e1;have e3:=e1.2 rfl;simp only[ao]at e3;subst has;obtain⟨id,c,U,fz,q1,_⟩:=e3;simp only[dq,and_true]at q1;exact⟨.int .i64 (cp:Nat),by simp[execOp,resolve,invoke,builtin,q1,Builtin.cap_,run_underlying hT,goInt],aC.int⟩
 | @ah1 T E x b sz off len cp ag lo hi la ha hx hT hE bD nY fg rN h1 h2 lW =>
  have e1:=bz x aY;rw[hx]at e1;have e3:=e1.2 rfl;simp only[ao]at e3;obtain⟨id,c,U,fz,q1,q2,q3,q4,q5⟩:=e3;simp only[dq,and_true]at q1;have hb:=ab2 (P:=P) (w:=w) true len cp (la.map a.eval) (ha.map a.eval) lo hi
   (fun y hy=>by
    cases la with
    |none=>simp at hy
    |some z =>
     simp only[kj,dN]at hy;obtain⟨k,hk⟩:=bD z rfl;have:=bz z aY;rw[hk]at this;exact⟨k,by rw[<-hy];exact this.cV⟩)
   (fun h=>nY ga)
   (fun y hy=>by
    cases ha with
    |none=>simp at hy
    |some z =>
     simp only[kj,dN]at hy;obtain⟨k,hk⟩:=fg z rfl;have:=bz z aY;rw[hk]at this;exact⟨k,by rw[<-hy];exact this.cV⟩)
   (fun h=>rN ga) h1 h2
  have de:(Instr.sliceAt T (.slice (some ⟨id,off*sz,none⟩) len cp) (la.map a.eval) (ha.map a.eval) none).run P w =
    .ok (.slice (if cp=lo then some ⟨id,off*sz,none⟩else some ⟨id,off*sz+lo*sz,none⟩) (hi-lo) (cp-lo)) w:=by
   simp only[Instr.sliceAt,Sem.run_bind,run_underlying hT,Result.andThen_ok,Instr.slice,hb,run_sizeOf hE,Sem.run_pure,kj,Addr.add_mid]
  refine⟨_,by simp only[execOp,q1,aea,Sem.run_bind,de];rfl,⟨by simp[LV.isAgg],fun _=>?_⟩⟩;simp only[ao];have fL:¬cp=lo:=aa;refine⟨id,c,U,fz,by simp[fL,ep],q2,aa,q4,?_⟩;have:off+lo+(cp-lo)=off+cp:=aa;rw[this];exact q5
 | @vh T x d bH hx has hT =>
  have e1:=bz x gG;rw[hx]at e1;have e1:=e1.cV;subst has;exact⟨.int .i64 (0:Nat),by simp[execOp,resolve,invoke,builtin,e1,Builtin.len_,run_underlying hT,goInt],aC.int⟩
 | @agm T x d bH hx has hT =>
  have e1:=bz x gG;rw[hx]at e1;have e1:=e1.cV;subst has;exact⟨.int .i64 (0:Nat),by simp[execOp,resolve,invoke,builtin,e1,Builtin.cap_,run_underlying hT,goInt],aC.int⟩
 | @ae0 T E x ha k sz ag hx hT hE hh =>
  have e1:=bz x aY;rw[hx]at e1;have e1:=e1.cV;have e2:=bz ha aY;rw[hh]at e2;have e2:=e2.cV;have hb:=ab2 (P:=P) (w:=w) true 0 0 none (some (a.eval ha)) 0 0 (fun y hy=>by cases hy) (fun _=>rfl) (fun y hy=>by cases hy;exact⟨k,e2⟩) (fun h=>by cases h) (bA _) (bA _);have de:(Instr.sliceAt T (.slice none 0 0) none (some (a.eval ha)) none).run P w=.ok (.slice none 0 0) w:=by
   simp only[Instr.sliceAt,Sem.run_bind,run_underlying hT,Result.andThen_ok,Instr.slice,hb,run_sizeOf hE,Sem.run_pure];rfl
  refine⟨_,by simp only[execOp,e1,aea,kj,Sem.run_bind,de];rfl,aC.v rfl⟩
 | @min2 x y k i j bH hx hy =>
  have e1:=bz x gG;rw[hx]at e1;have e1:=e1.cV;have e2:=bz y gG;rw[hy]at e2;have e2:=e2.cV;exact⟨.int k (if j<i then j else i),by simp[execOp,resolve,invoke,builtin,e1,e2,Builtin.min_,Builtin.min2],aC.int⟩
 | @max2 x y k i j bH hx hy =>
  have e1:=bz x gG;rw[hx]at e1;have e1:=e1.cV;have e2:=bz y gG;rw[hy]at e2;have e2:=e2.cV;exact⟨.int k (if j > i then j else i),by simp[execOp,resolve,invoke,builtin,e1,e2,Builtin.max_,Builtin.max2],aC.int⟩
 | @adi T x i s k n b hx hT hi h0 hb =>
  have e1:=bz x aY;rw[hx]at e1;have e1:=e1.cV;have e2:=bz i aY;rw[hi]at e2;have e2:=e2.cV;exact⟨.int .u8 b.toNat,by simp[execOp,e1,e2,Instr.index,asIntOf,run_underlying hT,h0,hb],aC.int⟩
 | @v9 f xs bH fn e vs r1 r2 hf mC hb hn he hx hr h1 h2 =>
  have hargs:xs.map a.eval=vs.toArray:=by
   apply tv;rw[Array.toList_map];have:∀(l:List Operand) (vs:List Value),l.map ρ=vs.map LV.v->(∀x∈l,aC Z μ w (ρ x) (a.eval x))->l.map a.eval=vs:=by
    intro l
    induction l with
    |nil =>
         intro vs h _;cases vs with
         |nil=>rfl
         |cons=>simp at h
    |cons y ys ih =>
     intro vs h hr
     cases vs with
     |nil=>simp at h
     |cons v vs =>
      simp only[jh,dq]at h ⊢;have h3:=hr y az;rw[h.1]at h3;exact⟨h3.cV,ih vs h.2 (fun z hz=>hr z (by simp[hz]))⟩
   exact this xs.toList vs hx (fun x hx=>bz x (by simp[Op.operands,Call.operands];right;simpa using hx))
  have hc:=run_callFunc_extern (P:=P) (args:=vs.toArray) hf mC hb hn he w;refine⟨.tuple #[r1,r2],?_,⟨#[r1,r2],rfl,?_⟩⟩
  ·rw[hr w]at hc;simp only[execOp,resolve,Act.eval,Deferred.ofValue,Sem.run_bind,Sem.run_pure,Result.andThen_ok,invoke];rw[hargs];simp only[Array.append_empty,Array.empty_append];rw[hc];rfl
  exact⟨r1,[r2],rfl,⟨by simp[LV.isAgg],fun _=>by simp[ao,h1]⟩,r2,[],rfl,⟨by simp[LV.isAgg],fun _=>by simp[ao,h2]⟩,rfl⟩
 | @tM T x y U s t hx hy h =>
  have e1:=bz x aY;rw[hx]at e1;have e1:=e1.cV;have e2:=bz y aY;rw[hy]at e2;have e2:=e2.cV;refine⟨.string (s++t),?_,⟨by simp[LV.isAgg],fun _=>by simp[ao,Value.oneCell']⟩⟩;have h1:(binOp .add T (.string s) (.string t)).run P w=.ok (.string (s++t)) w:=by
   simp only[binOp,Op.stringOp];rw[if_neg (by have:IntKind.i64.max=9223372036854775807:=rfl;rw[this];omega)];rfl
  simp only[execOp,e1,e2,eqGuard];simp[h1]
 | @uU T x y U s t hx hy =>
  have e1:=bz x aY;rw[hx]at e1;have e1:=e1.cV;have e2:=bz y aY;rw[hy]at e2;have e2:=e2.cV;refine⟨.bool (s.toList==t.toList),?_,aC.bool⟩;have h1:(binOp .eql T (.string s) (.string t)).run P w=.ok (.bool (s.toList==t.toList)) w:=by
   simp only[binOp,Op.stringOp];rfl
  simp only[execOp,e1,e2,eqGuard];simp[h1]
 | @ahg S D E x b off len blk ns hS hE hD hx hb hs hv hl =>
  have e1:=bz x aY;rw[hx]at e1;have e3:=e1.2 rfl;simp only[ao]at e3;refine⟨_,?_,⟨by simp[LV.isAgg],fun _=>by simp only[ao];exact⟨rfl,by simp[Value.oneCell']⟩⟩⟩;have hlen:len=ns.length:=by
   have:=congrArg ajH hv;simp only[eE,oe,bF]at this;omega
  have hcv:∀v:Value,(∀k n,v≠.int k n)->(∀a b,v≠.float a b)->True:=fun _ _ _=>trivial;rcases e3 with⟨e3,hl0⟩|⟨id,cap,c,U,fz,q1,q2,q3,q4,q5⟩
  ·simp only[dq,and_true]at e3;have:ns=[]:=kJ aa;subst this;simp[execOp,e3,convert,run_underlying hS,run_underlying hD,run_underlying hE,Conv.bytesToString]
  simp only[dq,and_true]at q1;obtain⟨blk',g1,cc,T',part,rest,g2,g3,g4⟩:=hh b id q2;rw[hb]at g1;cases g1;rw[hs]at g4;have hcell:∀(l:List LV) (ps:List Value),aw Z μ w 1 l ps->∀(j n:Nat),l[j]?=some (.v (.int .u8 (n:Nat)))->ps[j]?=some (.int .u8 (n:Nat)):=by
   intro l
   induction l with
   |nil=>intro ps _ j n h;simp at h
   |cons y ys ih =>
    intro ps hr j n h;simp only[aw]at hr;obtain⟨ch,ps',rfl,k1,k2,k3⟩:=hr
    match ch,k1 with
    | [u],_ =>
     cases j with
     |zero =>
      simp only[pE,dN]at h;subst h;simp only[ao]at k2;obtain⟨k2,_⟩:=k2;simp only[dq,and_true]at k2;simp[k2]
     |succ j =>
      have:=ih ps' k3 j n ga;simpa using this
  have hld:(loadCells ⟨id,off*1,none⟩ len).run P w=.ok ((ns.map ad7).map (Value.int .u8)).toArray w:=by
   have hL:len=((ns.map ad7).map (Value.int .u8)).length:=by simp[hlen]
   rw[hL];refine run_loadCells_list w _ _ (fun j v hv'=>?_);have hj:j<ns.length:=by
    rcases fH j ns.length with h|h
    ·exact h
    rw[aaL ga]at hv';cases hv'
   have hv2:v=.int .u8 ((ns[j]:Nat):Int):=by
    rw[bO (by simpa using hj)]at hv';simp at hv';exact hv'.symm
   have hvj:blk.vals[off+j]?=some (.v (.int .u8 ((ns[j]:Nat):Int))):=by
    have:=congrArg (fun l=>l[j]?) hv;simp only[List.getElem?_take,if_pos (show j<len by omega),wv,iT,bO hj,kj]at this;exact this
   have hp:=hcell _ _ g4 (off+j) _ hvj;have acJ:(⟨id,off*1,none⟩:Addr).add j=⟨id,off+j,none⟩:=by unfold Addr.add;split<;>simp_all
   rw[acJ,cell_of_row w id (off+j) cc T' (0,0) g2,hv2];rw[<-xP,g3,vf (by rcases fH (off+j) part.length with h|h;exact h;rw[aaL h]at hp;cases hp)];exact hp
  have o9:=run_bytesToString w _ len cap _ hld;simp only[execOp,q1];rw[Sem.run_bind];have:(convert S D (.slice (some ⟨id,off*1,none⟩) len cap)).run P w=.ok (.string ((ns.map ad7).foldl (fun r n=>r.push (UInt8.ofNat n.toNat)) ByteArray.empty)) w:=by
   simp only[convert,Sem.run_bind,run_underlying hS,run_underlying hD,Result.andThen_ok,run_underlying hE];exact o9
  rw[this];rfl
 | @xm T E zs ps n sz ag hT hE hf hz hp =>
  have hm:∀p∈ps.toList,aC Z μ w (ρ p.2) (a.eval p.2):=fun p hp=>bz p.2 (by simp[Op.operands];exact⟨p.1,by simpa using hp⟩);obtain⟨v,h1,h2⟩:=asS (P:=P) (Z:=Z) (μ:=μ) (w:=w) (a:=a) hT hE hf hz hp hm;exact⟨v,by simp only[execOp];rw[Sem.run_bind,h1];rfl,h2⟩
 | @build T zs ps hT hz hp =>
  have hm:∀p∈ps.toList,aC Z μ w (ρ p.2) (a.eval p.2):=fun p hp=>bz p.2 (by simp[Op.operands];exact⟨p.1,by simpa using hp⟩);obtain⟨v,h1,h2⟩:=ayD (P:=P) (Z:=Z) (μ:=μ) (w:=w) (a:=a) hT hz hp hm;exact⟨v,by simp only[execOp];rw[Sem.run_bind,h1];rfl,h2⟩
end
end Go.Lg
namespace Go.Lg
def bn.le(H H':bn):Prop:=∀b blk,H b=some blk->∃m,H' b=some ⟨blk.sz,blk.vals,m⟩/\(blk.mt=false->m=false)/\(blk.mt=true->m=false->b≠0)
def l9(μ:Nat->Option Nat)(d id:Nat):Nat->Option Nat:=fun b=>if b=d then some id else μ b
section
variable {P:Program} {W w w':World} {X:XS} {Z0 Z:Nat->Prop} {μ:Nat->Option Nat} {H:bn}
theorem pK.mono{Z':Nat->Prop}{aF:Nat->Option Nat}{blk:aL}{id:Nat}(hz:∀id,Z id->Z' id)(hm:∀b id,μ b=some id->aF b=some id)(hf:Frame Z μ w w')
  (hid:w'.heap[id]?=w.heap[id]?) (h:pK Z μ w blk id):pK Z' aF w' blk id:=by
 obtain⟨c,T,part,rest,h1,h2,h3⟩:=h;exact⟨c,T,part,rest,hid.trans h1,h2,h3.mono hz hm hf⟩
theorem Core.lt(hc:Core W X Z0 μ Z H w){b id:Nat}(h:μ b=some id):id<w.heap.size:=by
 obtain⟨blk,_,c,T,part,rest,h1,_⟩:=hc.heap b id h;exact(fY.1 h1).1
theorem Core.tq{H':bn}(hc:Core W X Z0 μ Z H w)(hle:H.le H'):∃Z',Core W X Z0 μ Z' H' w/\(∀id,Z id->Z' id):=by
 refine⟨fun id=>Z id\/∃b blk,μ b=some id/\H' b=some blk/\blk.mt=false,⟨hc.bB,?_,fun id h=>.inl (hc.fZ id h),?_,hc.inj,hc.own,hc.x0,hc.kQ,hc.x1,?_,fun b id blk h1 h2 h3=>.inr ⟨b,blk,h1,h2,h3⟩,?_⟩,fun id h=>.inl h⟩
 ·rintro id (h|⟨b,blk,h,_⟩)
  ·exact hc.iD id h
  exact hc.lt h
 ·rintro id (h|⟨b,blk,h,h2,h3⟩)
  ·exact hc.g9 id h
  obtain⟨pM,g1,_⟩:=hc.heap b id h;obtain⟨m,g2,g3,g4⟩:=hle b pM g1;rw[g2]at h2;cases h2;simp only at h3;subst h3
  cases hm:pM.mt with
  |false=>exact hc.g9 id (hc.bo b id pM h g1 hm)
  |true =>
   rcases hc.own b id h with h|h'|h'
   ·exact .inr (.inl h)
   ·exact absurd (hc.x0 b id h h') (g4 hm rfl)
   exact .inr (.inr h')
 ·rintro b id blk h1 h2 h3 (h|⟨b',blk',h4,h5,h6⟩)
  ·obtain⟨pM,g1,_⟩:=hc.heap b id h1;obtain⟨m,g2,g3,_⟩:=hle b pM g1;rw[g2]at h2;cases h2
   cases hm:pM.mt with
   |false=>have:=g3 hm;subst this;simp at h3
   |true=>exact hc.gL b id pM h1 g1 hm h
  have:=hc.inj b b' id h1 h4;subst this;rw[h2]at h5;cases h5;simp[h3]at h6
 intro b id h;obtain⟨blk,g1,g2⟩:=hc.heap b id h;obtain⟨m,g3,_⟩:=hle b blk g1;refine⟨_,g3,?_⟩;obtain⟨c,T,part,rest,h1,h2,h3⟩:=g2;exact⟨c,T,part,rest,h1,h2,h3.mono (fun id h=>.inl h) (fun _ _ h=>h) (Frame.refl _ _ _) |>.mono (fun _ h=>h) (fun _ _ h=>h) ⟨fun _ _=>rfl,(Frame.refl Z μ w).m⟩⟩
structure nS (w w':World) (o:Obj):Prop where
 os:w'.os=w.os
 tape:w'.tape=w.tape
 output:w'.output=w.output
 heap:w'.heap=w.heap.push o
theorem nS.old{o:Obj}(h:nS w w' o){k:Nat}(hk:k<w.heap.size):w'.heap[k]?=w.heap[k]?:=by
 rw[h.heap,Array.getElem?_push,if_neg aa]
theorem nS.new{o:Obj}(h:nS w w' o):w'.heap[w.heap.size]?=some o:=by
 rw[h.heap];simp
theorem nS.alloc(w:World)(o:Obj):nS w (w.alloc o) o:=⟨rfl,rfl,rfl,rfl⟩
theorem Core.ao9(hc:Core W X Z0 μ Z H w)(hold:∀k,k<w.heap.size->w'.heap[k]?=w.heap[k]?):Frame Z μ w w' :=
 ⟨fun id h=>hold id (hc.iD id h),fun _ id h c _ _ hh=>⟨c,(hold id (hc.lt h)).trans hh,rfl⟩⟩
theorem Core.push{d:Nat}{blk:aL}{c:Array Value}{T:TypeId}{part rest:List Value}(hc:Core W X Z0 μ Z H w)(hd:H d=some blk)(oN:μ d=none)
  (hp:nS w w' (.cells c T (0,0))) (h1:c.toList=part++rest) (h2:aw Z μ w blk.sz blk.vals part) :
  ∃Z',Core W X Z0 (l9 μ d w.heap.size) Z' H w'/\(∀id,Z id->Z' id)/\(∀b id,μ b=some id->l9 μ d w.heap.size b=some id)/\Frame Z μ w w' /\
   l9 μ d w.heap.size d=some w.heap.size/\w'.heap[w.heap.size]?=some (.cells c T (0,0)):=by
 have uS:∀b id,μ b=some id->l9 μ d w.heap.size b=some id:=fun b id h=>by
  unfold l9;split
  ·subst_vars;rw[oN]at h;cases h
  exact h
 have cJ:=hc.ao9 (fun k hk=>hp.old hk);have hinv:∀b id,l9 μ d w.heap.size b=some id->(b=d/\id=w.heap.size)\/(b≠d/\μ b=some id):=fun b id h=>by
  unfold l9 at h;split at h
  ·cases h;exact .inl ⟨by assumption,rfl⟩
  exact .inr ⟨by assumption,h⟩
 have hzz:∀id,Z id->(Z id\/(blk.mt=false/\id=w.heap.size)):=fun id h=>.inl h;refine⟨fun id=>Z id\/(blk.mt=false/\id=w.heap.size),⟨?_,?_,fun id h=>.inl (hc.fZ id h),?_,?_,?_,?_,hc.kQ,fun id h=>uS 0 id (hc.x1 id h),?_,?_,?_⟩,hzz,uS,cJ,by simp[l9],hp.new⟩
 ·exact⟨hp.os.trans hc.bB.os,hp.tape.trans hc.bB.tape,hp.output.trans hc.bB.output,by rw[hp.heap,afa];have:=hc.bB.size;omega,
   fun k hk hx=>(hp.old (by have:=hc.bB.size;omega)).trans (hc.bB.block k hk hx),
   fun k hx c T fz h=>let ⟨c',g1,g2⟩:=hc.bB.qm k hx c T fz h;⟨c',(hp.old (fY.1 g1).1).trans g1,g2⟩⟩
 ·rintro id (h|⟨_,rfl⟩)
  ·have:=hc.iD id h;rw[hp.heap,afa];omega
  rw[hp.heap,afa];omega
 ·rintro id (h|⟨_,rfl⟩)
  ·exact hc.g9 id h
  exact .inr (.inl hc.bB.size)
 ·intro b b' id h h';rcases hinv b id h with⟨rfl,rfl⟩|⟨n1,h1⟩<;>rcases hinv b' _ h' with⟨rfl,e⟩|⟨n2,h2⟩
  ·rfl
  ·have:=hc.lt h2;omega
  ·have:=hc.lt h1;omega
  exact hc.inj b b' id h1 h2
 ·intro b id h;rcases hinv b id h with⟨rfl,rfl⟩|⟨n1,h1⟩
  ·exact .inl hc.bB.size
  exact hc.own b id h1
 ·intro b id h hx;rcases hinv b id h with⟨rfl,rfl⟩|⟨n1,h1⟩
  ·have:=hc.kQ _ (.inl hx);have:=hc.bB.size;omega
  exact hc.x0 b id h1 hx
 ·rintro b id bk h hb hm (hz|⟨hz1,rfl⟩)
  ·rcases hinv b id h with⟨rfl,rfl⟩|⟨n1,h1⟩
   ·have:=hc.iD _ hz;omega
   exact hc.gL b id bk h1 hb hm hz
  rcases hinv b _ h with⟨rfl,_⟩|⟨n1,h1⟩
  ·rw[hd]at hb;cases hb;simp[hm]at hz1
  have:=hc.lt h1;omega
 ·intro b id bk h hb hm;rcases hinv b id h with⟨rfl,rfl⟩|⟨n1,h1⟩
  ·rw[hd]at hb;cases hb;exact .inr ⟨hm,rfl⟩
  exact .inl (hc.bo b id bk h1 hb hm)
 intro b id h;rcases hinv b id h with⟨rfl,rfl⟩|⟨n1,h3⟩
 ·exact⟨blk,hd,c,T,part,rest,hp.new,h1,h2.mono hzz uS cJ⟩
 obtain⟨bk,g1,g2⟩:=hc.heap b id h3;exact⟨bk,g1,g2.mono hzz uS cJ (hp.old (hc.lt h3))⟩
end
mutual
inductive bR (H:bn):LV->LV->Prop
 |pure {x} (h:x.pure=true):bR H x x
 |nil (sz):bR H (.v (.slice none 0 0)) (.list sz [])
 |ref {b sz off len blk} (hb:H b=some blk) (hs:blk.sz=sz) (hp:aN blk.vals=true) (hl:off+len<=blk.vals.length) (hf:blk.mt=false) :
   bR H (.ref b sz off len) (.list sz ((blk.vals.drop off).take len))
 |ax {b sz i o blk x y n ag} (hb:H b=some blk) (hs:blk.sz=sz) (hi:blk.vals[i]?=some x) (hx:x.aj=sz) (hy:x.at o n ag=some y) (hp:y.pure=true) (hf:blk.mt=false) :
   bR H (.ax b sz i o) (.bg y)
 |acX {b sz off len blk l'} (hb:H b=some blk) (hs:blk.sz=sz) (hl:off+len<=blk.vals.length) (hf:blk.mt=false) (h:dP H ((blk.vals.drop off).take len) l'):bR H (.ref b sz off len) (.list sz l')
 |agg {l l'} (h:dP H l l'):bR H (.agg l) (.agg l')
inductive dP (H:bn):List LV->List LV->Prop
 |nil:dP H [] []
 |cons {x y xs ys} (h:bR H x y) (t:dP H xs ys):dP H (x::xs) (y::ys)
end
section
variable {W w:World} {X:XS} {Z0 Z:Nat->Prop} {μ aF:Nat->Option Nat} {H H':bn}
mutual
theorem bR.lay:∀{x y:LV},bR H x y->y.isAgg=x.isAgg/\y.aj=x.aj/\y.pure=true
 |_,_,.pure h=>⟨rfl,rfl,h⟩
 |_,_,.nil _=>⟨rfl,rfl,rfl⟩
 |_,_,.ref hb hs hp hl hf=>⟨rfl,rfl,by
   simp only[LV.pure];rw[qZ]at hp ⊢;exact fun x hx=>hp x (adQ (xY hx))⟩
 |_,_,.ax hb hs hi hx hy hp hf=>⟨rfl,rfl,by simpa[LV.pure]using hp⟩
 |_,_,.acX hb hs hl hf h=>⟨rfl,rfl,by simpa[LV.pure]using (dP.lay h).2⟩
 |_,_,.agg h=>by
   have:=dP.lay h;exact⟨rfl,by simp[LV.aj,this.1],by simp[LV.pure,this.2]⟩
theorem dP.lay:∀{x y:List LV},dP H x y->bI y=bI x/\aN y=true
 |_,_,.nil=>⟨rfl,rfl⟩
 |_,_,.cons h t=>by
   have h1:=bR.lay h;have h2:=dP.lay t;exact⟨by simp[bI,h1.2.1,h2.1],by simp[aN,h1.2.2,h2.2]⟩
end
theorem dP.len:∀{x y:List LV},dP H x y->y.length=x.length
 |_,_,.nil=>rfl
 |_,_,.cons _ t=>by simp[dP.len t]
mutual
theorem bR.sound(hc:Core W X Z0 μ Z H w):∀{x y:LV} {cs:List Value},bR H x y->ao Z μ w x cs->ao Z aF w y cs
 |_,_,_,.pure h,hr=>ao.fE (fun _ h=>h) (fun _ _=>rfl) _ _ h hr
 |_,_,_,.nil sz,hr=>by
   simp only[ao]at hr ⊢;exact⟨none,0,0,hr.1,rfl,bA _,.inl trivial,rfl⟩
 |_,_,_,@bR.ref _ b sz off len blk hb hs hp hl hf,hr=>by
   simp only[ao]at hr ⊢;rcases hr with⟨hr,rfl⟩|⟨id,cap,c,T,fz,h1,h2,h3,h4,h5⟩
   ·exact⟨none,0,0,hr,by simp,bA _,.inl az,by simp[aN]⟩
   obtain⟨blk',g1,c',T',part,rest,g2,g3,g4⟩:=hc.heap b id h2;rw[hb]at g1;cases g1;rw[h4]at g2;cases g2;refine⟨_,_,_,h1,by simp;omega,h3,?_,(qZ _).2 fun x hx=>(qZ _).1 hp x (adQ (xY hx))⟩;have hz:=hc.bo b id blk h2 hb hf;right;obtain⟨c1,c2,d1,d2,d3⟩:=aw.split (blk.vals.take off) (blk.vals.drop off) part yz;obtain⟨c3,c4,d4,d5,d6⟩:=aw.split ((blk.vals.drop off).take len) ((blk.vals.drop off).drop len) c2 (by rw[mP];exact d3);have jL:=aw.length _ _ d2;rw[eE,jE aa,hs]at jL;refine⟨id,off*sz,c,T,(0,0),c3,c4++rest,rfl,hz,h4,?_,?_⟩
   ·rw[g3,d1,d4,<-jL];simp
   rw[hs]at d5;refine aw.fE (fun _ h=>h) (fun _ _=>rfl) _ _ _ ?_ d5;rw[qZ]at hp ⊢;exact fun x hx=>hp x (adQ (xY hx))
 |_,_,_,@bR.ax _ b sz i o blk x y n ag hb hs hi hx hy hp hf,hr=>by
   simp only[ao]at hr ⊢;obtain⟨id,h1,h2⟩:=hr;obtain⟨blk',g1,c,T,part,rest,g2,g3,g4⟩:=hc.heap b id h2;rw[hb]at g1;cases g1;have hz:=hc.bo b id blk h2 hb hf;obtain⟨ch,post,k1,k2,k3⟩:=ahO (off:=0) (by simpa using g3) g4 hi;obtain⟨pre,qq,qN,j1,j2,j3,j4,j5,j6,j7,j8⟩:=LV.afe x o n ag y ch hy k3 (by rw[k2,hs,hx]);refine⟨id,_,c,T,(0,0),qq,qN++post,h1,hz,g2,?_,by rw[j3,j6],ao.fE (fun _ h=>h) (fun _ _=>rfl) _ _ hp j4,hp⟩;rw[fW,hs]at k1;rw[<-oL,k1,j1,<-j2];simp
 |_,_,_,@bR.acX _ b sz off len blk l' hb hs hl hf h,hr=>by
   simp only[ao]at hr ⊢;have hll:=dP.len h;have hlp:=(dP.lay h).2;rw[eE,oe,jE aa]at hll;rcases hr with⟨hr,rfl⟩|⟨id,cap,c,T,fz,h1,h2,h3,h4,h5⟩
   ·exact⟨none,0,0,hr,hll.symm,bA _,.inl (List.length_eq_zero_iff.1 hll),hlp⟩
   obtain⟨blk',g1,c',T',part,rest,g2,g3,g4⟩:=hc.heap b id h2;rw[hb]at g1;cases g1;rw[h4]at g2;cases g2;refine⟨_,_,_,h1,hll.symm,h3,?_,hlp⟩;have hz:=hc.bo b id blk h2 hb hf;right;obtain⟨c1,c2,d1,d2,d3⟩:=aw.split (blk.vals.take off) (blk.vals.drop off) part yz;obtain⟨c3,c4,d4,d5,d6⟩:=aw.split ((blk.vals.drop off).take len) ((blk.vals.drop off).drop len) c2 (by rw[mP];exact d3);have jL:=aw.length _ _ d2;rw[eE,jE aa,hs]at jL;refine⟨id,off*sz,c,T,(0,0),c3,c4++rest,rfl,hz,h4,?_,?_⟩
   ·rw[g3,d1,d4,<-jL];simp
   rw[hs]at d5;exact dP.anj hc h d5
 |_,_,_,.agg h,hr=>by
   simp only[ao]at hr ⊢;exact dP.sound hc h hr
theorem dP.sound(hc:Core W X Z0 μ Z H w):∀{x y:List LV} {cs:List Value},dP H x y->a8 Z μ w x cs->a8 Z aF w y cs
 |_,_,_,.nil,hr=>by simpa[a8]using hr
 |_,_,_,.cons h t,hr=>by
   simp only[a8]at hr ⊢;obtain⟨c1,c2,rfl,h2,h3,h4⟩:=hr;exact⟨c1,c2,rfl,by rw[h2,(bR.lay h).2.1],bR.sound hc h h3,dP.sound hc t h4⟩
theorem dP.anj(hc:Core W X Z0 μ Z H w){sz:Nat}:∀{x y:List LV} {cs:List Value},dP H x y->aw Z μ w sz x cs->aw Z aF w sz y cs
 |_,_,_,.nil,hr=>by simpa[aw]using hr
 |_,_,_,.cons h t,hr=>by
   simp only[aw]at hr ⊢;obtain⟨c1,c2,rfl,h2,h3,h4⟩:=hr;exact⟨c1,c2,rfl,h2,bR.sound hc h h3,dP.anj hc t h4⟩
end
mutual
theorem bR.le(hle:H.le H'):∀{x y:LV},bR H x y->bR H' x y
 |_,_,.pure h=>.pure h
 |_,_,.nil sz=>.nil sz
 |_,_,.ref hb hs hp hl hf=>by
   obtain⟨m,g1,g2,_⟩:=hle _ _ hb;exact bR.ref (blk:=⟨_,_,m⟩) g1 hs hp hl (g2 hf)
 |_,_,.ax hb hs hi hx hy hp hf=>by
   obtain⟨m,g1,g2,_⟩:=hle _ _ hb;exact bR.ax (blk:=⟨_,_,m⟩) g1 hs hi hx hy hp (g2 hf)
 |_,_,.acX hb hs hl hf h=>by
   obtain⟨m,g1,g2,_⟩:=hle _ _ hb;exact bR.acX (blk:=⟨_,_,m⟩) g1 hs hl (g2 hf) (dP.le hle h)
 |_,_,.agg h=>.agg (dP.le hle h)
theorem dP.le(hle:H.le H'):∀{x y:List LV},dP H x y->dP H' x y
 |_,_,.nil=>.nil
 |_,_,.cons h t=>.cons (bR.le hle h) (dP.le hle t)
end
theorem bR.ne{x y:LV}(h:bR H x y):x≠.any/\∀l,x≠.aQ l:=by
 cases h with
 |pure h=>exact⟨LV.eg h,LV.dV h⟩
 |_=>exact⟨by simp,by simp⟩
theorem bR.aaK(hc:Core W X Z0 μ Z H w){x y:LV}{v:Value}(h:bR H x y)(hr:aC Z μ w x v):dD Z aF w y v:=by
 have h1:=aC.qY h.ne.2 h.ne.1 hr;obtain⟨e1,_,_⟩:=h.lay;exact⟨fun e=>let ⟨cs,g1,g2⟩:=h1.1 (e1▸e);⟨cs,g1,bR.sound hc h g2⟩,fun e=>bR.sound hc h (h1.2 (e1▸e))⟩
end
end Go.Lg
end
