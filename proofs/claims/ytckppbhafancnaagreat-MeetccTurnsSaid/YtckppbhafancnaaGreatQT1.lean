/- Texts LgE of this proof, joined. -/
import Derived.Orders
import Derived.Below
import Derived.Deep.MidRow
import Derived.Deep.AppendSrc
import Derived.Laws.MakeOwn
import Derived.WalkKit
import Derived.Laws.Externs
import Derived.Laws.BytesString
import Derived.Laws.Cells
set_option linter.unusedVariables false
set_option linter.unusedSimpArgs false
namespace Go.Lg
theorem ae {p:Prop} (h:p:=by omega):p:=h
theorem eB {p:Prop} (h:p:=by exact dT rfl (by first | exact .pure rfl | exact .pure (zG _) | exact .pure (kH _) | exact .pure (ar.pure _) | exact .pure (fc gv _ _) | exact .pure (fc ar _ _))):p:=h
theorem aLD {p:Prop} (h:p:=by first | exact .pure rfl | exact .pure (zG _) | exact .pure (kH _) | exact .pure (ar.pure _) | exact .pure (fc gv _ _) | exact .pure (fc ar _ _)):p:=h
theorem aq {p:Prop} (h:p:=by decide +kernel):p:=h
theorem aj {p:Prop} (h:p:=by decide):p:=h
theorem gy {p:Prop} (h:p:=by exact iG [] rfl rfl rfl (ar.aw _) (rh _) db (.pure (ar.pure _))):p:=h
theorem ti {p:Prop} (h:p:=by exact .iJ (d:=13) (news:=x.2.2.map fZ) rfl rfl rfl rfl (by simp) (.inl rfl) (by decide) Tryz.underlying22 Tryz.underlying22 (show dp _ _ (fZ 0) from Z3) T3 rfl B3 (.inr (.inl rfl)) (by simp;omega) (by simp;omega) (by decide)):p:=h
theorem cK {p:Prop} (h:p:=by simp [LV.aw,da,ar.aw]):p:=h
theorem cV {p:Prop} (h:p:=by exact .bin rfl rfl (agu (by omega))):p:=h
theorem bz {p:Prop} (h:p:=by simp;omega):p:=h
theorem abQ {p:Prop} (h:p:=by exact .iJ (d:=1) (news:=[.agg [.list 6 ((x.1.take na).map aE),.list 6 ((x.1.drop na).map aE),ai (lC (lk (x.1.take na) (x.1.drop na))),ai (kV (lk (x.1.take na) (x.1.drop na)))]]) rfl rfl rfl rfl (by simp) (.inl rfl) (by decide) Tryz.underlying43 Tryz.underlying43 yF mB rfl B51 (.inl ⟨143,0,_,rfl,by decide,rfl,rfl,by simp,rfl,aEr⟩) (by simp;omega) (by simp;omega) (by decide)):p:=h
theorem zf {p:Prop} (h:p:=by exact .iJ (d:=39) (news:=[aY (dpF l j)]) rfl rfl rfl rfl (by simp) (.inl rfl) (by decide) Tryz.underlying26 Tryz.underlying26 Z42 uF cs B42 (.inl ⟨38,0,_,rfl,by decide,rfl,rfl,by simp,rfl,by simp [aN,bF.pure]⟩) (by simp;omega) (by simp;omega) (by decide)):p:=h
theorem xO {p:Prop} (h:p:=by exact .iJ (d:=6) (news:=x.1.map aE) rfl rfl rfl rfl (by simp) (.inl rfl) (by decide) Tryz.underlying49 Tryz.underlying49 abK (by rw [ck.isAgg];exact oA) cs B54 (.inr (.inl rfl)) (by simp;omega) (by simp;omega) (by decide)):p:=h
theorem bU {p:Prop} (h:p:=by simp [Op.operands]):p:=h
theorem aM {p:Prop} (h:p:=by simp):p:=h
theorem tU {p:Prop} (h:p:=by exact ⟨_,trivial,((al (al (al (al (al (bK cl) cl) cl) cl) cl) cl)).symm⟩):p:=h
theorem lK {p:Prop} (h:p:=by exact .bin rfl rfl (afV (by omega) (by omega))):p:=h
theorem jf {p:Prop} (h:p:=by first | assumption | exact cT _):p:=h
theorem nc {p:Prop} (h:p:=by first | omega | (simp only [List.length_map];omega)):p:=h
theorem uy {p:Prop} (h:p:=by exact iG [] rfl rfl rfl (ck.aw _) (aaQ _) oA (.pure (ck.pure _))):p:=h
theorem lZ {p:Prop} (h:p:=by simp [Op.operands,Call.operands]):p:=h
theorem agb {p:Prop} (h:p:=by rw [show (uB (iK (nr (lQ u v)).a [(cI.getD 0 default).p] (cy.map aG.p)) (iK (nr (lQ u v)).a [(cI.getD (cI.length-1) default).p] (cy.map aG.p)))=false from axU];simp):p:=h
theorem tV {p:Prop} (h:p:=by exact iG [] rfl rfl rfl cs (dZ cs rfl) ju (.pure pu)):p:=h
theorem akM {p:Prop} (h:p:=by exact .iJ (d:=26) (news:=[ll (qL x),ll (qg x)]) rfl rfl rfl rfl (by simp) (.inl rfl) (by decide) Tryz.underlying148 Tryz.underlying148 anM zb rfl azf (.inl ⟨155,0,_,rfl,by decide,rfl,rfl,by simp,rfl,by simp [aN,vV]⟩) (by simp;omega) (by simp;omega) (by decide)):p:=h
theorem kR {p:Prop} (h:p:=by rw [List.length_map];omega):p:=h
theorem cj {p:Prop} (h:p:=by grind):p:=h
theorem l5 {p:Prop} (h:p:=by exact jL (i+1) (by omega)):p:=h
theorem acd {p:Prop} (h:p:=by first | exact azI (by omega) aeP | exact azs (by omega) (by simpa using aeC) | exact aoh (by omega)):p:=h
theorem abh {p:Prop} (h:p:=by first | omega | (simp only [rE,rR,sn,rY];omega)):p:=h
theorem adX {p:Prop} (h:p:=by first | exact .arw (h:=_) gv rfl Tryz.underlying29 sQ rfl om | exact .aiq rfl Tryz.underlying29 sQ rfl om om):p:=h
theorem aa3 {p:Prop} (h:p:=by exact ⟨[],cs,[],by simp,rfl,by rw [hl,hd,h2];rfl,by simpa using hy,by rw [h2];rfl⟩):p:=h
theorem rM {p:Prop} (h:p:=by first | rw [kY,hl] | rw [mC,hl]):p:=h
theorem afn {p:Prop} (h:p:=by exact iG [] rfl rfl rfl rfl rfl db (.agg (.cons (.pure rfl) (.cons (.pure (kH _)) (.cons (.pure (kH _)) .nil))))):p:=h
theorem n6 {p:Prop} (h:p:=by exact dT rfl (.pure rfl)):p:=h
theorem acM {p:Prop} (h:p:=by exact ⟨[],cs,[],by simp,rfl,by simpa [LV.aw] using hl,hr,rfl,rfl,by simp,by simp⟩):p:=h
theorem uj {p:Prop} (h:p:=by first | omega | (simp;done) | (simp;omega)):p:=h
theorem ajv {p:Prop} (h:p:=by exact ⟨_,rfl,by rw [h0];simp [lay,ar.aw,ar.isAgg],by rw [h0];exact LV.fp (ar.pure _),by rw [h0];exact LV.eW (ar.pure _)⟩):p:=h
theorem wC {p:Prop} (h:p:=by exact .bin rfl rfl (aaH (by omega) (by omega))):p:=h
theorem afq {p:Prop} (h:p:=by exact ⟨_,trivial,((al (al (al (al (al (al (bK cl) cl) cl) cl) cl) cl) cl)).symm⟩):p:=h
theorem abG {p:Prop} (h:p:=by simp only [List.length_append,List.length_cons,List.length_nil];omega):p:=h
theorem av4 {p:Prop} (h:p:=by exact .iJ (d:=8) (news:=[ah (p.getD k 0)]) rfl rfl rfl rfl (by simp;omega) (.inl rfl) (by decide) Tryz.underlying25 Tryz.underlying25 mq db rfl mY (.inl ⟨19,0,_,rfl,by decide,rfl,rfl,by simp,rfl,by simp [aN,ar.pure]⟩) (by simp;omega) (by simp;omega) (by decide)):p:=h
theorem ahc {p:Prop} (h:p:=by exact ⟨_,trivial,((al (al (al (al (al (al (al (bK cl) cl) cl) cl) cl) cl) cl) cl)).symm⟩):p:=h
theorem alP {p:Prop} (h:p:=by exact .wS (a:=i+1) (h:=k.length+1) rfl Tryz.underlying25 db (fun y hy=>by cases hy;exact⟨_,rfl⟩) (fun h=>by cases h) (fun y hy=>by cases hy) (fun _=>rfl) om om om):p:=h
theorem akj {p:Prop} (h:p:=by exact .wS (a:=i) (h:=k.length+1) rfl Tryz.underlying25 db (fun y hy=>by cases hy;exact⟨_,rfl⟩) (fun h=>by cases h) (fun y hy=>by cases hy) (fun _=>rfl) om om om):p:=h
theorem yi {p:Prop} (h:p:=by exact .bin rfl rfl (sW (by omega) (by omega))):p:=h
theorem adp {p:Prop} (h:p:=by exact .bin rfl rfl (acY (by first | omega | (simp only [rE,rR,sn,rY];omega)))):p:=h
theorem al3 {p:Prop} (h:p:=by exact .stE (e:=eG) (l:=[⟨⟨0,0,0⟩,⟨0,0,0⟩,⟨0,0,0⟩,⟨0,0,0⟩⟩]) (a:=(⟨⟨1,0,0⟩,⟨0,1,0⟩,⟨0,0,1⟩,⟨0,0,0⟩⟩:M3)) rfl rfl rfl (by simp)):p:=h
theorem agD {p:Prop} (h:p:=by exact vW [] rfl rfl rfl (ar.aw _) (rh _) db (.pure (ar.pure _)) rfl (.pure rfl)):p:=h
theorem anN {p:Prop} (h:p:=by exact aDI [] rfl rfl rfl (ar.aw _) (rh _) db (.pure (ar.pure _)) rfl rfl (ar.aw _) (rh _) db (.pure (ar.pure _)) rfl (.pure rfl)):p:=h
theorem aeS {p:Prop} (h:p:=by exact ⟨_,trivial,((al (al (al (al (bK cl) cl) cl) cl) cl)).symm⟩):p:=h
theorem aym {p:Prop} (h:p:=by exact .app rfl rfl rfl rfl rfl (Nat.zero_le _) (.inr rfl) (by decide) Tryz.underlying29 Tryz.underlying29 aca sQ rfl acF (.inr (.inl rfl)) (by first | (simp;done) | (simp;omega)) (by first | (simp;done) | (simp;omega)) (by decide)):p:=h
theorem yR {p:Prop} (h:p:=by first | omega | (simp only [cq];omega)):p:=h
theorem ym {p:Prop} (h:p:=by first | (simp;done) | (simp;omega) | omega):p:=h
theorem yI {p:Prop} (h:p:=by exact xm rfl (.pure rfl) rfl (.pure rfl)):p:=h
theorem ar8 {p:Prop} (h:p:=by exact aKm rfl rfl cs (dZ cs rfl) mj (by assumption) rfl rfl cs (dZ cs rfl) mj (by assumption) rfl rfl (ar.aw _) (rh _) db (ar.pure _) rfl rfl (ar.aw _) (rh _) db (ar.pure _) rfl rfl):p:=h
theorem aev {p:Prop} (h:p:=by exact acp [] rfl rfl (.pure (kH _)) rfl (.pure (kH _)) rfl (.pure rfl)):p:=h
theorem qY {p:Prop} (h:p:=by exact .aH8 aun mq):p:=h
theorem abq {p:Prop} (h:p:=by exact .gj rfl rfl rfl rfl cs (dZ cs rfl) mj):p:=h
theorem aum {p:Prop} (h:p:=by exact ack (hQ (x-1) _ ⟨hxd,ar9 hVe hRe sN (by omega) kD aec (Nat.le_of_lt lX.1) lX.2,lX.1⟩) (al (al (al (al (al (al (al (bK cl) cl) cl) cl) cl) cl) cl) cl)):p:=h
theorem zF {p:Prop} (h:p:=by rw [List.length_map,List.length_take];omega):p:=h
theorem aoV {p:Prop} (h:p:=by exact .kQ (n:=((jj:Nat):Int)) (r:=.agg [.list 6 ([s].map aE),.list 6 ([r].map aE),ai (cls.getD jj default).2.2.1,ai (cls.getD jj default).2.2.2]) rfl Tryz.underlying43 mB rfl (by omega) hcj rfl):p:=h
theorem vM {p:Prop} (h:p:=by first | rfl | (rw [au8];rfl)):p:=h
theorem aac {p:Prop} (h:p:=by exact .bin rfl rfl (xj (by omega))):p:=h
theorem nH {p:Prop} (h:p:=by simpa using h):p:=h
theorem aeR {p:Prop} (h:p:=by simpa [lay,LV.aw,da,ajJ,ar.aw,ar.isAgg] using ayk):p:=h
theorem awi {p:Prop} (h:p:=by rw [ck.isAgg];exact oA):p:=h
theorem ahV {p:Prop} (h:p:=by simp only [List.forall_mem_cons];exact⟨⟨_,rfl,rfl,nK⟩,fun _ h=>by cases h⟩):p:=h
theorem o6 {p:Prop} (h:p:=by rw [iD];omega):p:=h
theorem ai7 {p:Prop} (h:p:=by exact ahj rfl rfl cs (dZ cs rfl) uF (.pure pu) rfl rfl (dB l _)):p:=h
theorem adV {p:Prop} (h:p:=by simp only [List.length_cons,List.length_map];omega):p:=h
theorem adj {p:Prop} (h:p:=by exact iG [] rfl rfl rfl rfl rfl db (.pure rfl)):p:=h
theorem ah6 {p:Prop} (h:p:=by show rl (b9 p (l.getD i default))+rl (b9 p (l.getD i default))<=_;omega):p:=h
theorem ain {p:Prop} (h:p:=by exact .gj rfl rfl rfl rfl (dS.aw m) (dZ (dS.aw m) rfl) wb):p:=h
theorem y9 {p:Prop} (h:p:=by exact jL (j+1) (by omega)):p:=h
theorem ace {p:Prop} (h:p:=by rw [List.take_append_drop];exact g4):p:=h
theorem ah7 {p:Prop} (h:p:=by simp [LV.pure,aN,a7 ar,a7 bF,-List.map_map]):p:=h
theorem rB {p:Prop} (h:p:=by exact .inl h):p:=h
theorem agv {p:Prop} (h:p:=by exact .bin rfl rfl (ai6 (by omega) (by omega))):p:=h
end Go.Lg
open Array renaming ext'->vC,getElem?_eq_some_iff->nA,getElem?_toList->ach,length_toList->n9,map->afz,size_push->akl
open BitVec renaming ofInt->uq
open Bool renaming true_and->akO
open Decidable renaming not_not->aEC
open Int renaming ofNat->ai2
open List renaming cons_append->apV,drop_append->ayo,drop_drop->rm,drop_of_length_le->kg,eq_nil_of_length_eq_zero->nM,getElem?_append_left->aaM,getElem?_cons_zero->rj,getElem?_drop->tc,getElem?_eq_getElem->b7,getElem?_eq_none->yj,getElem?_eq_some_iff->pj,getElem?_map->g8,length->apR,length_append->lT,length_cons->rC,length_drop->lg,length_map->dL,length_take->eP,map_cons->nZ,mem_map->cQ,mem_of_getElem?->sR,mem_of_mem_drop->wg,mem_of_mem_take->wh,nil_append->afQ,replicate->ay,set_cons_succ->auK,take_append_drop->vS,take_succ_cons->yd
open List.cons renaming injEq->fP
open Nat renaming add_assoc->p8,add_mul->iA,add_zero->mS,le_refl->bq,lt_or_ge->gC,min_eq_left->mf,reduceAdd->afi,zero_add->fF
open Option renaming map_eq_some_iff->aab,map_none->ajc,map_some->qS
open Option.some renaming injEq->fB
open Prod.mk renaming injEq->af8
section
set_option linter.unusedVariables false
set_option linter.unusedSimpArgs false
namespace Go.Lg
inductive LV where
 | any
 | v (x:Value)
 | list (sz:Nat) (l:List LV)
 | agg (l:List LV)
 | ref (b sz off len:Nat)
 | kC (b sz off len cap:Nat)
 | aD (b sz i o:Nat)
 | cr (c:LV)
 | dq (f:FuncId) (cap:List LV)
 | bf (l:List LV)
instance:Inhabited LV:=⟨.any⟩
mutual
def LV.aw:LV->Nat
 | .agg l=>da l
 | _=>1
def da:List LV->Nat
 | []=>0
 | x :: xs=>x.aw+da xs
end
def LV.isAgg:LV->Bool
 | .agg _=>true
 | _=>false
mutual
def LV.pure:LV->Bool
 | .ref ..=>false
 | .kC ..=>false
 | .aD ..=>false
 | .bf _=>false
 | .any=>false
 | .v _=>true
 | .list _ l=>aN l
 | .agg l=>aN l
 | .cr c=>c.pure
 | .dq _ l=>aN l
def aN:List LV->Bool
 | []=>true
 | x :: xs=>x.pure && aN xs
end
theorem zp (l:List LV):aN l=true↔∀ x∈l,x.pure=true:=by
 induction l with
 | nil=>simp [aN]
 | cons x xs ih=>simp [aN,ih]
mutual
def aB (Z:Nat->Prop) (μ:Nat->Option Nat) (w:World):LV->List Value->Prop
 | .any,cs=>∀ u∈cs,u.oneCell'=true
 | .v x,cs=>cs=[x]/\x.oneCell'=true
 | .list sz l,cs=>∃ a len cap,cs=[.slice a len cap]/\len=l.length/\len<=cap /\
   (l=[]\/∃ blk off c T fz part rest,a=some ⟨blk,off,none⟩/\Z blk/\w.heap[blk]?=some (.cells c T fz) /\
    c.toList.drop off=part++rest/\aS Z μ w sz l part)/\aN l=true
 | .agg l,cs=>cC Z μ w l cs
 | .ref b sz off len,cs=>(cs=[.slice none 0 0]/\len=0)\/∃ id cap c T fz,cs=[.slice (some ⟨id,off*sz,none⟩) len cap]/\μ b=some id/\len<=cap /\
   w.heap[id]?=some (.cells c T fz)/\(off+cap)*sz<=c.size
 | .kC b sz off len cap,cs=>∃ id c T fz,cs=[.slice (some ⟨id,off*sz,none⟩) len cap]/\μ b=some id/\len<=cap /\
   w.heap[id]?=some (.cells c T fz)/\(off+cap)*sz<=c.size
 | .aD b sz i o,cs=>∃ id,cs=[.pointer (some ⟨id,i*sz+o,none⟩)]/\μ b=some id
 | .cr c,cs=>∃ blk off cc T fz part rest,cs=[.pointer (some ⟨blk,off,none⟩)]/\Z blk/\w.heap[blk]?=some (.cells cc T fz) /\
   cc.toList.drop off=part++rest/\part.length=c.aw/\aB Z μ w c part/\c.pure=true
 | .dq f cap,cs=>∃ vs,cs=[.func (.func f) #[] vs]/\aS Z μ w 1 cap vs.toList/\aN cap=true
 | .bf _,_=>False
def aS (Z:Nat->Prop) (μ:Nat->Option Nat) (w:World) (sz:Nat):List LV->List Value->Prop
 | [],cs=>cs=[]
 | x :: xs,cs=>∃ c1 c2,cs=c1++c2/\c1.length=sz/\aB Z μ w x c1/\aS Z μ w sz xs c2
def cC (Z:Nat->Prop) (μ:Nat->Option Nat) (w:World):List LV->List Value->Prop
 | [],cs=>cs=[]
 | x :: xs,cs=>∃ c1 c2,cs=c1++c2/\c1.length=x.aw/\aB Z μ w x c1/\cC Z μ w xs c2
end
def fS (Z:Nat->Prop) (μ:Nat->Option Nat) (w:World) (lv:LV) (v:Value):Prop :=
 (lv.isAgg=true->∃ cs,v=.agg cs/\aB Z μ w lv cs.toList)/\(lv.isAgg=false->aB Z μ w lv [v])
def gu (Z:Nat->Prop) (μ:Nat->Option Nat) (w:World):List LV->List Value->Prop
 | [],vs=>vs=[]
 | x :: xs,vs=>∃ v ks,vs=v :: ks/\fS Z μ w x v/\gu Z μ w xs ks
def bh (Z:Nat->Prop) (μ:Nat->Option Nat) (w:World):LV->Value->Prop
 | .bf l,v=>∃ vs,v=.tuple vs/\gu Z μ w l vs.toList
 | .any,_=>True
 | lv,v=>fS Z μ w lv v
structure Frame (Z:Nat->Prop) (μ:Nat->Option Nat) (w w':World):Prop where
 z:∀ id,Z id->w'.heap[id]?=w.heap[id]?
 m:∀ b id,μ b=some id->∀ c T fz,w.heap[id]?=some (.cells c T fz)->∃ c',w'.heap[id]?=some (.cells c' T fz)/\c'.size=c.size
theorem Frame.refl (Z:Nat->Prop) (μ:Nat->Option Nat) (w:World):Frame Z μ w w:=⟨fun _ _=>rfl,fun _ _ _ c _ _ h=>⟨c,h,rfl⟩⟩
section
variable {Z Z':Nat->Prop} {μ bm:Nat->Option Nat} {w w':World}
mutual
theorem aB.mono (hz:∀ id,Z id->Z' id) (hm:∀ b id,μ b=some id->bm b=some id) (hf:Frame Z μ w w') :
  ∀ (lv:LV) (cs:List Value),aB Z μ w lv cs->aB Z' bm w' lv cs
 | .any,_,h=>by simpa [aB] using h
 | .v x,cs,h=>by simpa [aB] using h
 | .list sz l,cs,h=>by
   simp only [aB] at h ⊢
   obtain⟨a,len,cap,h1,h2,h3,h4,h9⟩:=h
   refine⟨a,len,cap,h1,h2,h3,?_,h9⟩
   rcases h4 with h4 | ⟨blk,off,c,T,fz,part,rest,e1,e2,e3,e4,e5⟩
   ·exact .inl h4
   ·exact .inr ⟨blk,off,c,T,fz,part,rest,e1,hz _ e2,(hf.z _ e2).trans e3,e4,aS.mono hz hm hf sz l part e5⟩
 | .agg l,cs,h=>by
   simp only [aB] at h ⊢
   exact cC.mono hz hm hf l cs h
 | .ref b sz off len,cs,h=>by
   simp only [aB] at h ⊢
   rcases h with h | ⟨id,cap,c,T,fz,h1,h2,h3,h4,h5⟩
   ·exact rB
   obtain⟨c',h6,h7⟩:=hf.m b id h2 c T fz h4
   exact .inr ⟨id,cap,c',T,fz,h1,hm _ _ h2,h3,h6,ae⟩
 | .kC b sz off len cap,cs,h=>by
   simp only [aB] at h ⊢
   obtain⟨id,c,T,fz,h1,h2,h3,h4,h5⟩:=h
   obtain⟨c',h6,h7⟩:=hf.m b id h2 c T fz h4
   exact⟨id,c',T,fz,h1,hm _ _ h2,h3,h6,ae⟩
 | .aD b sz i o,cs,h=>by
   simp only [aB] at h ⊢
   obtain⟨id,h1,h2⟩:=h
   exact⟨id,h1,hm _ _ h2⟩
 | .cr c,cs,h=>by
   simp only [aB] at h ⊢
   obtain⟨blk,off,cc,T,fz,part,rest,h1,h2,h3,h4,h5,h6,h7⟩:=h
   exact⟨blk,off,cc,T,fz,part,rest,h1,hz _ h2,(hf.z _ h2).trans h3,h4,h5,aB.mono hz hm hf c part h6,h7⟩
 | .dq f cap,cs,h=>by
   simp only [aB] at h ⊢
   obtain⟨vs,h1,h2,h3⟩:=h
   exact⟨vs,h1,aS.mono hz hm hf 1 cap vs.toList h2,h3⟩
 | .bf _,_,h=>by simp [aB] at h
theorem aS.mono (hz:∀ id,Z id->Z' id) (hm:∀ b id,μ b=some id->bm b=some id) (hf:Frame Z μ w w') (sz:Nat) :
  ∀ (l:List LV) (cs:List Value),aS Z μ w sz l cs->aS Z' bm w' sz l cs
 | [],cs,h=>by simpa [aS] using h
 | x :: xs,cs,h=>by
   simp only [aS] at h ⊢
   obtain⟨c1,c2,h1,h2,h3,h4⟩:=h
   exact⟨c1,c2,h1,h2,aB.mono hz hm hf x c1 h3,aS.mono hz hm hf sz xs c2 h4⟩
theorem cC.mono (hz:∀ id,Z id->Z' id) (hm:∀ b id,μ b=some id->bm b=some id) (hf:Frame Z μ w w') :
  ∀ (l:List LV) (cs:List Value),cC Z μ w l cs->cC Z' bm w' l cs
 | [],cs,h=>by simpa [cC] using h
 | x :: xs,cs,h=>by
   simp only [cC] at h ⊢
   obtain⟨c1,c2,h1,h2,h3,h4⟩:=h
   exact⟨c1,c2,h1,h2,aB.mono hz hm hf x c1 h3,cC.mono hz hm hf xs c2 h4⟩
end
theorem pure_cons {x:LV} {xs:List LV} (h:aN (x :: xs)=true):x.pure=true/\aN xs=true:=by simpa [aN] using h
mutual
theorem aB.kW (hz:∀ id,Z id->Z' id) (hf:∀ id,Z id->w'.heap[id]?=w.heap[id]?) :
  ∀ (lv:LV) (cs:List Value),lv.pure=true->aB Z μ w lv cs->aB Z' bm w' lv cs
 | .any,_,_,h=>by simpa [aB] using h
 | .v x,cs,_,h=>by simpa [aB] using h
 | .list sz l,cs,hp,h=>by
   simp only [aB] at h ⊢
   obtain⟨a,len,cap,h1,h2,h3,h4,h9⟩:=h
   refine⟨a,len,cap,h1,h2,h3,?_,h9⟩
   rcases h4 with h4 | ⟨blk,off,c,T,fz,part,rest,e1,e2,e3,e4,e5⟩
   ·exact .inl h4
   ·exact .inr ⟨blk,off,c,T,fz,part,rest,e1,hz _ e2,(hf _ e2).trans e3,e4,aS.kW hz hf sz l part (by simpa [LV.pure] using hp) e5⟩
 | .agg l,cs,hp,h=>by
   simp only [aB] at h ⊢
   exact cC.kW hz hf l cs (by simpa [LV.pure] using hp) h
 | .ref b sz off len,cs,hp,_=>by simp [LV.pure] at hp
 | .kC b sz off len cap,cs,hp,_=>by simp [LV.pure] at hp
 | .aD b sz i o,cs,hp,_=>by simp [LV.pure] at hp
 | .cr c,cs,hp,h=>by
   simp only [aB] at h ⊢
   obtain⟨blk,off,cc,T,fz,part,rest,h1,h2,h3,h4,h5,h6,h7⟩:=h
   exact⟨blk,off,cc,T,fz,part,rest,h1,hz _ h2,(hf _ h2).trans h3,h4,h5,aB.kW hz hf c part (by simpa [LV.pure] using hp) h6,h7⟩
 | .dq f cap,cs,hp,h=>by
   simp only [aB] at h ⊢
   obtain⟨vs,h1,h2,h3⟩:=h
   exact⟨vs,h1,aS.kW hz hf 1 cap vs.toList (by simpa [LV.pure] using hp) h2,h3⟩
 | .bf _,_,_,h=>by simp [aB] at h
theorem aS.kW (hz:∀ id,Z id->Z' id) (hf:∀ id,Z id->w'.heap[id]?=w.heap[id]?) (sz:Nat) :
  ∀ (l:List LV) (cs:List Value),aN l=true->aS Z μ w sz l cs->aS Z' bm w' sz l cs
 | [],cs,_,h=>by simpa [aS] using h
 | x :: xs,cs,hp,h=>by
   simp only [aS] at h ⊢
   obtain⟨c1,c2,h1,h2,h3,h4⟩:=h
   exact⟨c1,c2,h1,h2,aB.kW hz hf x c1 (pure_cons hp).1 h3,aS.kW hz hf sz xs c2 (pure_cons hp).2 h4⟩
theorem cC.kW (hz:∀ id,Z id->Z' id) (hf:∀ id,Z id->w'.heap[id]?=w.heap[id]?) :
  ∀ (l:List LV) (cs:List Value),aN l=true->cC Z μ w l cs->cC Z' bm w' l cs
 | [],cs,_,h=>by simpa [cC] using h
 | x :: xs,cs,hp,h=>by
   simp only [cC] at h ⊢
   obtain⟨c1,c2,h1,h2,h3,h4⟩:=h
   exact⟨c1,c2,h1,h2,aB.kW hz hf x c1 (pure_cons hp).1 h3,cC.kW hz hf xs c2 (pure_cons hp).2 h4⟩
end
theorem fS.mono (hz:∀ id,Z id->Z' id) (hm:∀ b id,μ b=some id->bm b=some id) (hf:Frame Z μ w w') {lv:LV} {v:Value}
  (h:fS Z μ w lv v):fS Z' bm w' lv v :=
 ⟨fun e=>let ⟨cs,h1,h2⟩:=h.1 e;⟨cs,h1,aB.mono hz hm hf _ _ h2⟩,fun e=>aB.mono hz hm hf _ _ (h.2 e)⟩
theorem gu.mono (hz:∀ id,Z id->Z' id) (hm:∀ b id,μ b=some id->bm b=some id) (hf:Frame Z μ w w') :
  ∀ (l:List LV) (vs:List Value),gu Z μ w l vs->gu Z' bm w' l vs
 | [],_,h=>h
 | _ :: xs,_,⟨v,ks,h1,h2,h3⟩=>⟨v,ks,h1,h2.mono hz hm hf,gu.mono hz hm hf xs ks h3⟩
theorem bh.mono (hz:∀ id,Z id->Z' id) (hm:∀ b id,μ b=some id->bm b=some id) (hf:Frame Z μ w w') {lv:LV} {v:Value}
  (h:bh Z μ w lv v):bh Z' bm w' lv v:=by
 cases lv with
 | bf l=>obtain⟨vs,h1,h2⟩:=h;exact⟨vs,h1,h2.mono hz hm hf⟩
 | any=>trivial
 | _=>exact fS.mono hz hm hf h
theorem fS.kW (hz:∀ id,Z id->Z' id) (hf:∀ id,Z id->w'.heap[id]?=w.heap[id]?) {lv:LV} {v:Value} (hp:lv.pure=true)
  (h:fS Z μ w lv v):fS Z' bm w' lv v :=
 ⟨fun e=>let ⟨cs,h1,h2⟩:=h.1 e;⟨cs,h1,aB.kW hz hf _ _ hp h2⟩,fun e=>aB.kW hz hf _ _ hp (h.2 e)⟩
theorem bh.tw {lv:LV} {v:Value} (hn:∀ l,lv≠.bf l) (h:fS Z μ w lv v):bh Z μ w lv v:=by
 cases lv with
 | bf l=>exact absurd rfl (hn l)
 | any=>trivial
 | _=>exact h
theorem bh.zo {lv:LV} {v:Value} (hn:∀ l,lv≠.bf l) (ha:lv≠.any) (h:bh Z μ w lv v):fS Z μ w lv v:=by
 cases lv with
 | bf l=>exact absurd rfl (hn l)
 | any=>exact absurd rfl ha
 | _=>exact h
theorem LV.fp {lv:LV} (hp:lv.pure=true):lv≠.any:=by
 rintro rfl;simp [LV.pure] at hp
theorem LV.eW {lv:LV} (hp:lv.pure=true):∀ l,lv≠.bf l:=by
 rintro l rfl;simp [LV.pure] at hp
theorem aS.length {sz:Nat}:∀ (l:List LV) (cs:List Value),aS Z μ w sz l cs->cs.length=l.length*sz
 | [],cs,h=>by simp only [aS] at h;simp [h]
 | x :: xs,cs,h=>by
   simp only [aS] at h
   obtain⟨c1,c2,rfl,h2,_,h4⟩:=h
   have:=aS.length xs c2 h4
   simp only [lT,rC,iA,Nat.one_mul];omega
theorem cC.length:∀ (l:List LV) (cs:List Value),cC Z μ w l cs->cs.length=da l
 | [],cs,h=>by simp only [cC] at h;simp [h,da]
 | x :: xs,cs,h=>by
   simp only [cC] at h
   obtain⟨c1,c2,rfl,h2,_,h4⟩:=h
   have:=cC.length xs c2 h4
   simp only [lT,da];omega
theorem aS.get {sz:Nat}:∀ (l:List LV) (cs:List Value) (i:Nat) (x:LV),aS Z μ w sz l cs->l[i]?=some x ->
  ∃ pre ch post,cs=pre++(ch++post)/\pre.length=i*sz/\ch.length=sz/\aB Z μ w x ch /\
   ∀ y qZ,aB Z μ w y qZ->qZ.length=sz->aS Z μ w sz (l.set i y) (pre++(qZ++post))
 | [],_,_,_,_,h=>by simp at h
 | a :: xs,cs,0,x,h,hi=>by
   simp only [aS] at h
   obtain⟨c1,c2,rfl,h2,h3,h4⟩:=h
   simp only [rj,fB] at hi
   subst hi
   exact⟨[],c1,c2,by simp,by simp,h2,h3,fun y qZ hy hl=>by simpa [aS] using ⟨qZ,c2,rfl,hl,hy,h4⟩⟩
 | a :: xs,cs,i+1,x,h,hi=>by
   simp only [aS] at h
   obtain⟨c1,c2,rfl,h2,h3,h4⟩:=h
   obtain⟨pre,ch,post,rfl,e2,e3,e4,e5⟩:=aS.get xs c2 i x h4 (by simpa using hi)
   refine⟨c1++pre,ch,post,by simp,by simp [h2,e2,iA];omega,e3,e4,fun y qZ hy hl=>?_⟩
   have:=e5 y qZ hy hl
   simp only [auK,aS]
   exact⟨c1,pre++(qZ++post),by simp,h2,h3,this⟩
theorem cC.get:∀ (l:List LV) (cs:List Value) (i:Nat) (x:LV),cC Z μ w l cs->l[i]?=some x ->
  ∃ pre ch post,cs=pre++(ch++post)/\pre.length=da (l.take i)/\ch.length=x.aw/\aB Z μ w x ch /\
   ∀ y qZ,aB Z μ w y qZ->qZ.length=y.aw->cC Z μ w (l.set i y) (pre++(qZ++post))
 | [],_,_,_,_,h=>by simp at h
 | a :: xs,cs,0,x,h,hi=>by
   simp only [cC] at h
   obtain⟨c1,c2,rfl,h2,h3,h4⟩:=h
   simp only [rj,fB] at hi
   subst hi
   exact⟨[],c1,c2,by simp,by simp [da],h2,h3,fun y qZ hy hl=>by simpa [cC] using ⟨qZ,c2,rfl,hl,hy,h4⟩⟩
 | a :: xs,cs,i+1,x,h,hi=>by
   simp only [cC] at h
   obtain⟨c1,c2,rfl,h2,h3,h4⟩:=h
   obtain⟨pre,ch,post,rfl,e2,e3,e4,e5⟩:=cC.get xs c2 i x h4 (by simpa using hi)
   refine⟨c1++pre,ch,post,by simp,by simp [h2,e2,da],e3,e4,fun y qZ hy hl=>?_⟩
   have:=e5 y qZ hy hl
   simp only [auK,cC]
   exact⟨c1,pre++(qZ++post),by simp,h2,h3,this⟩
theorem aS.append {sz:Nat}:∀ (l m:List LV) (cs ds:List Value),aS Z μ w sz l cs->aS Z μ w sz m ds->aS Z μ w sz (l++m) (cs++ds)
 | [],m,cs,ds,h,h'=>by simp only [aS] at h;simpa [h] using h'
 | x :: xs,m,cs,ds,h,h'=>by
   simp only [aS] at h
   obtain⟨c1,c2,rfl,h2,h3,h4⟩:=h
   have:=aS.append xs m c2 ds h4 h'
   simp only [apV,aS]
   exact⟨c1,c2++ds,by simp,h2,h3,this⟩
theorem aS.split {sz:Nat}:∀ (l m:List LV) (cs:List Value),aS Z μ w sz (l++m) cs->∃ c1 c2,cs=c1++c2/\aS Z μ w sz l c1/\aS Z μ w sz m c2
 | [],m,cs,h=>⟨[],cs,rfl,by simp [aS],h⟩
 | x :: xs,m,cs,h=>by
   simp only [apV,aS] at h
   obtain⟨c1,c2,rfl,h2,h3,h4⟩:=h
   obtain⟨d1,d2,rfl,e1,e2⟩:=aS.split xs m c2 h4
   exact⟨c1++d1,d2,by simp,by simpa [aS] using ⟨c1,d1,rfl,h2,h3,e1⟩,e2⟩
theorem aS.replicate {sz:Nat} {x:LV} {ch:List Value} (h:aB Z μ w x ch) (hl:ch.length=sz):∀ n,aS Z μ w sz (ay n x) (ay n ch).flatten
 | 0=>by simp [aS]
 | n+1=>by
   simp only [List.replicate_succ,aS,List.flatten_cons]
   exact⟨ch,_,rfl,hl,h,aS.replicate h hl n⟩
end
mutual
def LV.at:LV->Nat->Nat->Bool->Option LV
 | .agg l,o,n,ag=>if o=0/\da l=n/\ag=true then some (.agg l) else uR l o n ag
 | .any,_,_,_=>none
 | x,o,n,ag=>if o=0/\n=1/\ag=false then some x else none
def uR:List LV->Nat->Nat->Bool->Option LV
 | [],_,_,_=>none
 | x :: xs,o,n,ag=>if o<x.aw then x.at o n ag else uR xs (o-x.aw) n ag
end
mutual
def LV.put:LV->Nat->LV->Option LV
 | .agg l,o,y=>if o=0/\da l=y.aw/\y.isAgg=true then some y else(zg l o y).map .agg
 | _,o,y=>if o=0/\y.aw=1/\y.isAgg=false then some y else none
def zg:List LV->Nat->LV->Option (List LV)
 | [],_,_=>none
 | x :: xs,o,y=>if o<x.aw then(x.put o y).map (· :: xs) else(zg xs (o-x.aw) y).map (x :: ·)
end
section
variable {Z:Nat->Prop} {μ:Nat->Option Nat} {w:World}
mutual
theorem LV.ako:∀ (x:LV) (o n:Nat) (ag:Bool) (y:LV) (cs:List Value),x.at o n ag=some y->aB Z μ w x cs->cs.length=x.aw ->
  ∃ pre ch post,cs=pre++(ch++post)/\pre.length=o/\ch.length=n/\aB Z μ w y ch/\y.isAgg=ag/\y.aw=n/\y≠.any/\∀ l,y≠.bf l
 | .agg l,o,n,ag,y,cs,h,hr,hl=>by
   simp only [LV.at] at h
   split at h
   ·rename_i hc
    obtain⟨rfl,h2,rfl⟩:=hc
    simp only [fB] at h;subst h
    exact⟨[],cs,[],by simp,rfl,by simpa [LV.aw,h2] using hl,hr,rfl,by simp [LV.aw,h2],by simp,by simp⟩
   ·exact arI l o n ag y cs h (by simpa [aB] using hr)
 | .any,_,_,_,_,_,h,_,_=>by simp [LV.at] at h
 | .v x,o,n,ag,y,cs,h,hr,hl=>by
   simp only [LV.at] at h;split at h
   ·rename_i hc;obtain⟨rfl,rfl,rfl⟩:=hc;simp only [fB] at h;subst h
    exact acM
   ·simp at h
 | .list sz l,o,n,ag,y,cs,h,hr,hl=>by
   simp only [LV.at] at h;split at h
   ·rename_i hc;obtain⟨rfl,rfl,rfl⟩:=hc;simp only [fB] at h;subst h
    exact acM
   ·simp at h
 | .ref b sz off len,o,n,ag,y,cs,h,hr,hl=>by
   simp only [LV.at] at h;split at h
   ·rename_i hc;obtain⟨rfl,rfl,rfl⟩:=hc;simp only [fB] at h;subst h
    exact acM
   ·simp at h
 | .kC b sz off len cap,o,n,ag,y,cs,h,hr,hl=>by
   simp only [LV.at] at h;split at h
   ·rename_i hc;obtain⟨rfl,rfl,rfl⟩:=hc;simp only [fB] at h;subst h
    exact acM
   ·simp at h
 | .aD b sz i o',o,n,ag,y,cs,h,hr,hl=>by
   simp only [LV.at] at h;split at h
   ·rename_i hc;obtain⟨rfl,rfl,rfl⟩:=hc;simp only [fB] at h;subst h
    exact acM
   ·simp at h
 | .cr c,o,n,ag,y,cs,h,hr,hl=>by
   simp only [LV.at] at h;split at h
   ·rename_i hc;obtain⟨rfl,rfl,rfl⟩:=hc;simp only [fB] at h;subst h
    exact acM
   ·simp at h
 | .dq f cap,o,n,ag,y,cs,h,hr,hl=>by
   simp only [LV.at] at h;split at h
   ·rename_i hc;obtain⟨rfl,rfl,rfl⟩:=hc;simp only [fB] at h;subst h
    exact acM
   ·simp at h
 | .bf _,_,_,_,_,_,_,hr,_=>by simp [aB] at hr
theorem arI:∀ (l:List LV) (o n:Nat) (ag:Bool) (y:LV) (cs:List Value),uR l o n ag=some y->cC Z μ w l cs ->
  ∃ pre ch post,cs=pre++(ch++post)/\pre.length=o/\ch.length=n/\aB Z μ w y ch/\y.isAgg=ag/\y.aw=n/\y≠.any/\∀ l,y≠.bf l
 | [],_,_,_,_,_,h,_=>by simp [uR] at h
 | x :: xs,o,n,ag,y,cs,h,hr=>by
   simp only [cC] at hr
   obtain⟨c1,c2,rfl,h2,h3,h4⟩:=hr
   simp only [uR] at h
   split at h
   ·obtain⟨pre,ch,post,rfl,e2,e3,e4⟩:=LV.ako x o n ag y c1 h h3 h2
    exact⟨pre,ch,post++c2,by simp,e2,e3,e4⟩
   ·obtain⟨pre,ch,post,rfl,e2,e3,e4⟩:=arI xs (o-x.aw) n ag y c2 h h4
    exact⟨c1++pre,ch,post,by simp,by simp;omega,e3,e4⟩
end
mutual
theorem LV.atH (y:LV) (dh:List Value) (hy:aB Z μ w y dh) (hd:dh.length=y.aw):∀ (x:LV) (o:Nat) (x':LV) (cs:List Value),x.put o y=some x' ->
  aB Z μ w x cs->cs.length=x.aw->∃ pre ch post,cs=pre++(ch++post)/\pre.length=o/\ch.length=dh.length/\aB Z μ w x' (pre++(dh++post))/\x'.aw=x.aw
 | .agg l,o,x',cs,h,hr,hl=>by
   simp only [LV.put] at h
   split at h
   ·rename_i hc
    obtain⟨rfl,h2,_⟩:=hc
    simp only [fB] at h;subst h
    exact⟨[],cs,[],by simp,rfl,by rw [hl,hd];simp [LV.aw,h2],by simpa using hy,by simp [LV.aw,h2]⟩
   ·simp only [aab] at h
    obtain⟨l',h1,rfl⟩:=h
    obtain⟨pre,ch,post,e1,e2,e3,e4,e5⟩:=arY y dh hy hd l o l' cs h1 (by simpa [aB] using hr)
    exact⟨pre,ch,post,e1,e2,e3,by simpa [aB] using e4,by simpa [LV.aw] using e5⟩
 | .any,o,x',cs,h,hr,hl=>by
   simp only [LV.put] at h;split at h
   ·rename_i hc;obtain⟨rfl,h2,_⟩:=hc;simp only [fB] at h;subst h
    exact aa3
   ·simp at h
 | .v x,o,x',cs,h,hr,hl=>by
   simp only [LV.put] at h;split at h
   ·rename_i hc;obtain⟨rfl,h2,_⟩:=hc;simp only [fB] at h;subst h
    exact aa3
   ·simp at h
 | .list sz l,o,x',cs,h,hr,hl=>by
   simp only [LV.put] at h;split at h
   ·rename_i hc;obtain⟨rfl,h2,_⟩:=hc;simp only [fB] at h;subst h
    exact aa3
   ·simp at h
 | .ref b sz off len,o,x',cs,h,hr,hl=>by
   simp only [LV.put] at h;split at h
   ·rename_i hc;obtain⟨rfl,h2,_⟩:=hc;simp only [fB] at h;subst h
    exact aa3
   ·simp at h
 | .kC b sz off len cap,o,x',cs,h,hr,hl=>by
   simp only [LV.put] at h;split at h
   ·rename_i hc;obtain⟨rfl,h2,_⟩:=hc;simp only [fB] at h;subst h
    exact aa3
   ·simp at h
 | .aD b sz i o',o,x',cs,h,hr,hl=>by
   simp only [LV.put] at h;split at h
   ·rename_i hc;obtain⟨rfl,h2,_⟩:=hc;simp only [fB] at h;subst h
    exact aa3
   ·simp at h
 | .cr c,o,x',cs,h,hr,hl=>by
   simp only [LV.put] at h;split at h
   ·rename_i hc;obtain⟨rfl,h2,_⟩:=hc;simp only [fB] at h;subst h
    exact aa3
   ·simp at h
 | .dq f cap,o,x',cs,h,hr,hl=>by
   simp only [LV.put] at h;split at h
   ·rename_i hc;obtain⟨rfl,h2,_⟩:=hc;simp only [fB] at h;subst h
    exact aa3
   ·simp at h
 | .bf _,_,_,_,_,hr,_=>by simp [aB] at hr
theorem arY (y:LV) (dh:List Value) (hy:aB Z μ w y dh) (hd:dh.length=y.aw):∀ (l:List LV) (o:Nat) (l':List LV) (cs:List Value),zg l o y=some l' ->
  cC Z μ w l cs->∃ pre ch post,cs=pre++(ch++post)/\pre.length=o/\ch.length=dh.length/\cC Z μ w l' (pre++(dh++post))/\da l'=da l
 | [],_,_,_,h,_=>by simp [zg] at h
 | x :: xs,o,l',cs,h,hr=>by
   simp only [cC] at hr
   obtain⟨c1,c2,rfl,h2,h3,h4⟩:=hr
   simp only [zg] at h
   split at h
   ·simp only [aab] at h
    obtain⟨x',h1,rfl⟩:=h
    obtain⟨pre,ch,post,rfl,e2,e3,e4,e5⟩:=LV.atH y dh hy hd x o x' c1 h1 h3 h2
    refine⟨pre,ch,post++c2,by simp,e2,e3,?_,by simp [da,e5]⟩
    simp only [cC]
    exact⟨pre++(dh++post),c2,by simp,by simp at h2 ⊢;omega,e4,h4⟩
   ·simp only [aab] at h
    obtain⟨xs',h1,rfl⟩:=h
    obtain⟨pre,ch,post,rfl,e2,e3,e4,e5⟩:=arY y dh hy hd xs (o-x.aw) xs' c2 h1 h4
    refine⟨c1++pre,ch,post,by simp,by simp;omega,e3,?_,by simp [da,e5]⟩
    simp only [cC]
    exact⟨c1,pre++(dh++post),by simp,h2,h3,e4⟩
end
theorem LV.ahK {x:LV} (h:x.isAgg=false):x.aw=1:=by cases x<;>simp_all [LV.isAgg,LV.aw]
mutual
theorem aB.one:∀ (lv:LV) (cs:List Value),aB Z μ w lv cs->∀ u∈cs,u.oneCell'=true
 | .any,_,h=>by simpa [aB] using h
 | .v x,cs,h=>by simp only [aB] at h;obtain⟨rfl,h⟩:=h;simpa using h
 | .list sz l,cs,h=>by simp only [aB] at h;obtain⟨a,len,cap,rfl,_⟩:=h;simp [Value.oneCell']
 | .agg l,cs,h=>by simp only [aB] at h;exact cC.one l cs h
 | .ref b sz off len,cs,h=>by simp only [aB] at h;rcases h with⟨rfl,_⟩ | ⟨id,cap,c,T,fz,rfl,_⟩<;>simp [Value.oneCell']
 | .kC b sz off len cap,cs,h=>by simp only [aB] at h;obtain⟨id,c,T,fz,rfl,_⟩:=h;simp [Value.oneCell']
 | .aD b sz i o,cs,h=>by simp only [aB] at h;obtain⟨id,rfl,_⟩:=h;simp [Value.oneCell']
 | .cr c,cs,h=>by simp only [aB] at h;obtain⟨blk,off,cc,T,fz,part,rest,rfl,_⟩:=h;simp [Value.oneCell']
 | .dq f cap,cs,h=>by simp only [aB] at h;obtain⟨vs,rfl,_⟩:=h;simp [Value.oneCell']
 | .bf _,_,h=>by simp [aB] at h
theorem cC.one:∀ (l:List LV) (cs:List Value),cC Z μ w l cs->∀ u∈cs,u.oneCell'=true
 | [],cs,h=>by simp only [cC] at h;simp [h]
 | x :: xs,cs,h=>by
   simp only [cC] at h
   obtain⟨c1,c2,rfl,h2,h3,h4⟩:=h
   intro u hu
   rcases List.mem_append.1 hu with hu | hu
   ·exact aB.one x c1 h3 u hu
   ·exact cC.one xs c2 h4 u hu
end
theorem aB.len {lv:LV} {cs:List Value} (h:aB Z μ w lv cs) (aX:lv≠.any):cs.length=lv.aw:=by
 cases lv with
 | any=>exact absurd rfl aX
 | agg l=>simp only [aB] at h;exact cC.length l cs h
 | v x=>simp only [aB] at h;simp [h.1,LV.aw]
 | list sz l=>simp only [aB] at h;obtain⟨a,len,cap,rfl,_⟩:=h;rfl
 | ref b sz off len=>simp only [aB] at h;rcases h with⟨rfl,_⟩ | ⟨id,cap,c,T,fz,rfl,_⟩<;>rfl
 | kC b sz off len cap=>simp only [aB] at h;obtain⟨id,c,T,fz,rfl,_⟩:=h;rfl
 | aD b sz i o=>simp only [aB] at h;obtain⟨id,rfl,_⟩:=h;rfl
 | cr c=>simp only [aB] at h;obtain⟨blk,off,cc,T,fz,part,rest,rfl,_⟩:=h;rfl
 | dq f cap=>simp only [aB] at h;obtain⟨vs,rfl,_⟩:=h;rfl
 | bf l=>simp [aB] at h
theorem fS.cells {lv:LV} {v:Value} (h:fS Z μ w lv v) (aX:lv≠.any):aB Z μ w lv v.cells.toList/\v.cells.size=lv.aw /\
  (∀ u∈v.cells.toList,u.oneCell'=true)/\((lv.isAgg=true/\v=.agg v.cells)\/(lv.isAgg=false/\v.cells=#[v]/\v.oneCell'=true)):=by
 cases ha:lv.isAgg with
 | true =>
  obtain⟨cs,rfl,h2⟩:=h.1 ha
  refine⟨h2,?_,aB.one _ _ h2,.inl ⟨rfl,rfl⟩⟩
  have:=aB.len h2 aX
  simpa [Value.cells] using this
 | false =>
  have h2:=h.2 ha
  have h3:=aB.one _ _ h2 v aM
  have hc:v.cells=#[v]:=by cases v<;>simp_all [Value.cells,Value.oneCell']
  rw [hc]
  exact⟨h2,by simp [LV.ahK ha],by simpa using h3,.inr ⟨rfl,rfl,h3⟩⟩
theorem fS.aph {lv:LV} {cs:List Value} (h:aB Z μ w lv cs) (aX:lv≠.any):fS Z μ w lv (if lv.isAgg then .agg cs.toArray else cs.headD default):=by
 refine⟨fun e=>⟨cs.toArray,by simp [e],h⟩,fun e=>?_⟩
 have hl:=aB.len h aX
 rw [LV.ahK e] at hl
 match cs,hl with
 | [x],_=>simpa [e] using h
end
end Go.Lg
namespace Go.Lg
structure bg where
 sz:Nat
 vals:List LV
 mt:Bool
abbrev bW:=Nat->Option bg
structure XS where
 x:Nat->Prop
 y:Nat->Prop
def XS.any (X:XS) (id:Nat):Prop:=X.x id\/X.y id
instance:CoeFun XS (fun _=>Nat->Prop):=⟨XS.any⟩
def XS.no:XS:=⟨fun _=>False,fun _=>False⟩
def XS.one (i0:Nat):XS:=⟨fun k=>k=i0,fun _=>False⟩
theorem XS.ae2 {id:Nat}:¬ XS.no.any id:=fun h=>h.elim (fun e=>e) (fun e=>e)
theorem XS.ayx {i0 id:Nat} (h:(XS.one i0).any id):id=i0:=h.elim (fun e=>e) False.elim
structure Kept (X:XS) (W w:World):Prop where
 os:w.os=W.os
 tape:w.tape=W.tape
 output:w.output=W.output
 size:W.heap.size<=w.heap.size
 block:∀ k,k<W.heap.size->¬ X k->w.heap[k]?=W.heap[k]?
 vT:∀ k,X k->∀ c T fz,W.heap[k]?=some (.cells c T fz)->∃ c',w.heap[k]?=some (.cells c' T fz)/\c'.size=c.size
theorem Kept.refl (X:XS) (W:World):Kept X W W:=⟨rfl,rfl,rfl,bq _,fun _ _ _=>rfl,fun _ _ c _ _ h=>⟨c,h,rfl⟩⟩
theorem Kept.below {W w:World} (h:Kept XS.no W w):RowKit.Below W.heap.size W w :=
 ⟨h.os,h.tape,h.output,h.size,fun k hk=>h.block k hk XS.ae2⟩
def u7 (Z:Nat->Prop) (μ:Nat->Option Nat) (w:World) (blk:bg) (id:Nat):Prop :=
 ∃ c T part rest,w.heap[id]?=some (.cells c T (0,0))/\c.toList=part++rest/\aS Z μ w blk.sz blk.vals part
structure Core (W:World) (X:XS) (Z0:Nat->Prop) (μ:Nat->Option Nat) (Z:Nat->Prop) (H:bW) (w:World):Prop where
 cE:Kept X W w
 mc:∀ id,Z id->id<w.heap.size
 jS:∀ id,Z0 id->Z id
 me:∀ id,Z id->Z0 id\/W.heap.size<=id\/X.y id
 inj:∀ b b' id,μ b=some id->μ b'=some id->b=b'
 own:∀ b id,μ b=some id->W.heap.size<=id\/X id
 x0:∀ b id,μ b=some id->X.x id->b=0
 oZ:∀ id,X id->id<W.heap.size
 x1:∀ id,X.x id->μ 0=some id
 jD:∀ b id blk,μ b=some id->H b=some blk->blk.mt=true->¬ Z id
 cd:∀ b id blk,μ b=some id->H b=some blk->blk.mt=false->Z id
 heap:∀ b id,μ b=some id->∃ blk,H b=some blk/\u7 Z μ w blk id
def bE (P:Program) (T:TypeId) (n:Nat) (ag:Bool):Prop :=
 (P.info? T).map (·.size)=some n/\∃ d,P.underlying T=some d/\d.isRow=ag
def sa (P:Program):Nat->List Field->List (Nat × Bool)->Prop
 | _,[],[]=>True
 | off,f :: fs,(n,ag) :: r=>f.offset=off/\bE P f.type n ag/\sa P (off+n) fs r
 | _,_,_=>False
def mo (P:Program) (T:TypeId) (lay:List (Nat × Bool)):Prop :=
 ∃ fields,P.underlying T=some (.struct fields)/\sa P 0 fields.toList lay/\∀ n∈lay,0<n.1
def lay (x:LV):Nat × Bool:=(x.aw,x.isAgg)
section
variable {P:Program} {Z:Nat->Prop} {μ:Nat->Option Nat} {w:World}
theorem adD {blk off:Nat} {c:Array Value} {T:TypeId} {fz:Nat × Nat} {part rest:List Value}
  (h:w.heap[blk]?=some (.cells c T fz)) (hd:c.toList.drop off=part++rest):w.rangeAt blk off part:=by
 intro j v hj
 rw [cell_of_row w blk (off+j) c T fz h]
 have h1:(c.toList.drop off)[j]?=some v:=by
  rw [hd,aaM (pj.1 hj).1];exact hj
 rw [tc] at h1
 simpa using h1
theorem asy {T:TypeId} {y:LV} {blk off:Nat} {c:Array Value} {U:TypeId} {fz:Nat × Nat} {part rest:List Value}
  (ht:bE P T y.aw y.isAgg) (h:w.heap[blk]?=some (.cells c U fz)) (hd:c.toList.drop off=part++rest)
  (hy:aB Z μ w y part) (aX:y≠.any) :
  ∃ v,(Instr.loadAt T (.pointer (some ⟨blk,off,none⟩))).run P w=.ok v w/\fS Z μ w y v:=by
 have hr:=adD h hd
 have hl:=aB.len hy aX
 obtain⟨hi,d,hu,im⟩:=ht
 refine⟨_,?_,fS.aph hy aX⟩
 cases ha:y.isAgg with
 | true =>
  have:=run_loadAt_mid (P:=P) w blk off T part d hr hu (by rw [im,ha]) (by rw [hi,hl])
  simpa using this
 | false =>
  rw [LV.ahK ha] at hl
  match part,hl,hr with
  | [x],_,hr =>
   have hx:=hr 0 x rfl
   have hag:(isAgg T).run P w=.ok false w:=by
    unfold isAgg
    rw [Sem.run_bind,run_underlying hu w]
    rw [ha] at im
    cases d<;>simp_all [TypeDesc.isRow]
   simp [Instr.loadAt,Instr.sureAddr,loadVar,Sem.run_bind,hag,mS] at hx ⊢
   simp [hx]
theorem ayR:∀ (fs:List Field) (ls:List LV) (off k:Nat) (f:Field) (x:LV),sa P off fs (ls.map lay)->fs[k]?=some f->ls[k]?=some x ->
  f.offset=off+da (ls.take k)/\bE P f.type x.aw x.isAgg
 | [],_,_,_,_,_,_,h,_=>by simp at h
 | _ :: _,[],_,_,_,_,_,_,h=>by simp at h
 | f :: fs,y :: ys,off,0,g,x,h,h1,h2=>by
   simp only [nZ,lay,sa] at h
   simp only [rj,fB] at h1 h2
   subst h1 h2
   exact⟨by simp [da,h.1],h.2.1⟩
 | f :: fs,y :: ys,off,k+1,g,x,h,h1,h2=>by
   simp only [nZ,lay,sa] at h
   have:=ayR fs ys (off+y.aw) k g x h.2.2 (by simpa using h1) (by simpa using h2)
   refine⟨?_,this.2⟩
   rw [this.1];simp [da];omega
theorem amS:∀ (fs:List Field) (ls:List (Nat × Bool)) (off:Nat),sa P off fs ls->fs.length=ls.length
 | [],[],_,_=>rfl
 | [],_ :: _,_,h=>by simp [sa] at h
 | _ :: _,[],_,h=>by simp [sa] at h
 | f :: fs,(n,ag) :: r,off,h=>by
   simp only [sa] at h
   simp [amS fs r _ h.2.2]
theorem aJr {T:TypeId} {n:Nat} {ag:Bool} (ht:bE P T n ag):(isAgg T).run P w=.ok ag w:=by
 obtain⟨hi,d,hd,rfl⟩:=ht
 unfold isAgg
 rw [Sem.run_bind,run_underlying hd w]
 cases d<;>simp [TypeDesc.isRow]
theorem run_sizeOf {T:TypeId} {n:Nat} {ag:Bool} (ht:bE P T n ag):(sizeOf T).run P w=.ok n w:=by
 obtain⟨hi,_⟩:=ht
 cases hq:P.info? T with
 | none=>simp [hq] at hi
 | some i =>
  simp only [hq,qS,fB] at hi
  subst hi
  simp [sizeOf,typeInfo,hq]
theorem auW {T:TypeId} {x:LV} (ht:bE P T x.aw x.isAgg) {cs:Array Value} {pre ch post:List Value} (e1:cs.toList=pre++(ch++post))
  (h:aB Z μ w x ch) (aX:x≠.any):∃ u,(part T cs pre.length).run P w=.ok u w/\fS Z μ w x u:=by
 have e3:=aB.len h aX
 have hcs:cs=(pre++(ch++post)).toArray:=by apply vC;simp [e1]
 refine⟨_,?_,fS.aph h aX⟩
 unfold part
 rw [Sem.run_bind,aJr ht]
 cases ha:x.isAgg with
 | true =>
  simp only [Result.andThen_ok,if_true,Sem.run_bind,run_sizeOf ht,Sem.run_pure]
  congr 2
  apply vC
  rw [hcs,<-e3]
  simp
 | false =>
  rw [LV.ahK ha] at e3
  match ch,e3 with
  | [y],_ =>
   have:cs[pre.length]?=some y:=by rw [hcs];simp
   simp [this]
theorem aA9 {T:TypeId} {fs:List LV} {k:Nat} {x:LV} {v:Value} (ht:mo P T (fs.map lay)) (hx:fs[k]?=some x) (aX:x≠.any)
  (h:fS Z μ w (.agg fs) v):∃ u,(Instr.field T v k).run P w=.ok u w/\fS Z μ w x u:=by
 obtain⟨fields,hu,hl,_⟩:=ht
 obtain⟨cs,rfl,hc⟩:=h.1 rfl
 simp only [aB] at hc
 obtain⟨pre,ch,post,e1,e2,e3,e4,_⟩:=cC.get fs cs.toList k x hc hx
 have hk:k<fields.toList.length:=by
  rw [amS _ _ _ hl,dL];exact(pj.1 hx).1
 obtain⟨f,hfk⟩:∃ f,fields.toList[k]?=some f:=⟨_,b7 hk⟩
 obtain⟨g1,hty⟩:=ayR fields.toList fs 0 k f x hl hfk hx
 have anm:fields[k]?=some f:=by rw [<-ach];exact hfk
 obtain⟨u,w9,hu3⟩:=auW (T:=f.type) hty e1 e4 aX
 refine⟨u,?_,hu3⟩
 have:f.offset=pre.length:=by omega
 simp only [Instr.field,Sem.run_bind,run_underlying hu,Result.andThen_ok,anm,asAgg,Sem.run_pure,this,w9]
def oq:List (Nat × Bool)->Nat
 | []=>0
 | x :: xs=>x.1+oq xs
theorem aik:∀ (fs:List LV) (k:Nat),oq ((fs.map lay).take k)=da (fs.take k)
 | [],k=>by simp [oq,da]
 | x :: xs,0=>by simp [oq,da]
 | x :: xs,k+1=>by simp [oq,da,lay,<-aik xs k]
theorem aqx:∀ (fs:List Field) (ls:List (Nat × Bool)) (off k:Nat) (f:Field) (x:Nat × Bool),sa P off fs ls->fs[k]?=some f->ls[k]?=some x ->
  f.offset=off+oq (ls.take k)/\bE P f.type x.1 x.2
 | [],_,_,_,_,_,_,h,_=>by simp at h
 | _ :: _,[],_,_,_,_,_,_,h=>by simp at h
 | f :: fs,(n,ag) :: ys,off,0,g,x,h,h1,h2=>by
   simp only [sa] at h
   simp only [rj,fB] at h1 h2
   subst h1 h2
   exact⟨by simp [oq,h.1],h.2.1⟩
 | f :: fs,(n,ag) :: ys,off,k+1,g,x,h,h1,h2=>by
   simp only [sa] at h
   have:=aqx fs ys (off+n) k g x h.2.2 (by simpa using h1) (by simpa using h2)
   refine⟨?_,this.2⟩
   rw [this.1];simp [oq];omega
theorem avc {T:TypeId} {ls:List (Nat × Bool)} {k:Nat} (ht:mo P T ls) (nu:k<ls.length) (b o:Nat) :
  (Instr.fieldAt T (.pointer (some ⟨b,o,none⟩)) k).run P w=.ok (.pointer (some ⟨b,o+oq (ls.take k),none⟩)) w:=by
 obtain⟨fields,hu,hl,ni⟩:=ht
 have hk:k<fields.toList.length:=by rw [amS _ _ _ hl];exact nu
 obtain⟨f,hfk⟩:∃ f,fields.toList[k]?=some f:=⟨_,b7 hk⟩
 have hx:ls[k]?=some ls[k]:=b7 nu
 obtain⟨g1,hty⟩:=aqx fields.toList ls 0 k f _ hl hfk hx
 have anm:fields[k]?=some f:=by rw [<-ach];exact hfk
 have hp:0<ls[k].1:=ni _ (sR hx)
 have aX:¬ ls[k].1=0:=by omega
 simp only [Instr.fieldAt,Sem.run_bind,run_underlying hu,Result.andThen_ok,anm,Instr.sureAddr,Sem.run_pure,fieldPlace,run_sizeOf hty,Sem.run_ite,if_neg aX,g1,fF,Addr.add_mid]
end
end Go.Lg
namespace Go.Lg
def dN (op:BinOp) (k:IntKind) (a b:Int):Option Value :=
 match op with
 | .add=>some (.int k (k.wrap (a+b)))
 | .sub=>some (.int k (k.wrap (a-b)))
 | .mul=>some (.int k (k.wrap (a*b)))
 | .quo=>if b=0 then none else some (.int k (k.wrap (a.tdiv b)))
 | .rem=>if b=0 then none else some (.int k (a.tmod b))
 | .and=>some (.int k (k.wrap (uq k.bits a &&& uq k.bits b).toNat))
 | .or=>some (.int k (k.wrap (uq k.bits a ||| uq k.bits b).toNat))
 | .eql=>some (.bool (a==b))
 | .neq=>some (.bool (a != b))
 | .lss=>some (.bool (a<b))
 | .leq=>some (.bool (a<=b))
 | .gtr=>some (.bool (a > b))
 | .geq=>some (.bool (a>=b))
 | _=>none
def qo (op:BinOp) (k:IntKind) (a b:Int):Option Value :=
 if b<0 then none else
 match op with
 | .shl=>some (.int k (k.wrap (a*2 ^ min b.toNat k.bits)))
 | .shr=>some (.int k (a.fdiv (2 ^ min b.toNat k.bits)))
 | _=>none
def dp (P:Program) (T:TypeId) (z:LV):Prop :=
 ∃ i zv,P.info? T=some i/\i.zero=some zv/\z.pure=true/\∀ (Z:Nat->Prop) (μ:Nat->Option Nat) (w:World),aB Z μ w z zv.cells.toList
def kh (zs:List LV) (ps:List (Nat × LV)):List LV:=ps.foldl (fun acc p=>acc.set p.1 p.2) zs
inductive aF (P:Program) (H:bW) (ρ:Operand->LV):Op->LV->Prop
 | move (x):aF P H ρ (.move x) (ρ x)
 | assign (x):aF P H ρ (.assign x) (ρ x)
 | pick {c x y t} (h:ρ c=.v (.bool t)):aF P H ρ (.pick c x y) (if t then ρ x else ρ y)
 | bin {op T x y U k a b r} (hx:ρ x=.v (.int k a)) (hy:ρ y=.v (.int k b)) (h:dN op k a b=some r):aF P H ρ (.binOp op T x y U) (.v r)
 | sh {op T x y U k k' a b r} (hx:ρ x=.v (.int k a)) (hy:ρ y=.v (.int k' b)) (h:qo op k a b=some r):aF P H ρ (.binOp op T x y U) (.v r)
 | beq {T x y U a b} (hx:ρ x=.v (.bool a)) (hy:ρ y=.v (.bool b)) (hT:P.underlying T=some .bool):aF P H ρ (.binOp .eql T x y U) (.v (.bool (a==b)))
 | bne {T x y U a b} (hx:ρ x=.v (.bool a)) (hy:ρ y=.v (.bool b)) (hT:P.underlying T=some .bool):aF P H ρ (.binOp .neq T x y U) (.v (.bool (!(a==b))))
 | not {T x a} (hx:ρ x=.v (.bool a)):aF P H ρ (.unOp .not T x) (.v (.bool !a))
 | neg {T x k a} (hx:ρ x=.v (.int k a)):aF P H ρ (.unOp .neg T x) (.v (.int k (k.wrap (0-a))))
 | conv {S D x k k' n d} (hS:P.underlying S=some d) (hD:P.underlying D=some (.int k)) (hx:ρ x=.v (.int k' n)):aF P H ρ (.convert S D x) (.v (.int k (k.wrap n)))
 | extract {t i l r} (ht:ρ t=.bf l) (hr:l[i]?=some r) (aX:∀ m,r≠.bf m):aF P H ρ (.extract t i) r
 | field {T x k fs r} (hx:ρ x=.agg fs) (hT:mo P T (fs.map lay)) (hr:fs[k]?=some r) (aX:r.pure=true):aF P H ρ (.field T x k) r
 | zV {T p k fs r} (hp:ρ p=.cr (.agg fs)) (hT:mo P T (fs.map lay)) (hr:fs[k]?=some r):aF P H ρ (.fieldAddr T p k) (.cr r)
 | abp {T p k b sz i o ls} (hp:ρ p=.aD b sz i o) (hT:mo P T ls) (hk:k<ls.length):aF P H ρ (.fieldAddr T p k) (.aD b sz i (o+oq (ls.take k)))
 | z5 {T p c} (hp:ρ p=.cr c) (hT:bE P T c.aw c.isAgg) (hc:c.pure=true):aF P H ρ (.load T p) c
 | gj {T p b sz i o blk x r n ag} (hp:ρ p=.aD b sz i o) (hb:H b=some blk) (hs:blk.sz=sz) (hi:blk.vals[i]?=some x) (hx:x.aw=sz) (hr:x.at o n ag=some r)
   (hT:bE P T n ag):aF P H ρ (.load T p) r
 | afx {x b sz i o} (hx:ρ x=.aD b sz i o):aF P H ρ (.nilCheck x) (.aD b sz i o)
 | aaX {T E x i n fs k m r sz ag} (hx:ρ x=.agg fs) (hT:P.underlying T=some (.array n E)) (hE:bE P E sz ag) (hf:fs.map lay=ay n (sz,ag)) (hi:ρ i=.v (.int k m)) (h0:0<=m)
   (hr:fs[m.toNat]?=some r) (hp:r.pure=true):aF P H ρ (.index T x i) r
 | abL {T E x j n b sz i o k m es ag} (hx:ρ x=.aD b sz i o) (hT:P.underlying T=some (.array n E)) (hE:bE P E es ag) (hi:ρ j=.v (.int k m)) (h0:0<=m) (hm:m<n) :
   aF P H ρ (.indexAddr T x j) (.aD b sz i (o+m.toNat*es))
 | abx {T E x i n fs k m r sz ag} (hx:ρ x=.cr (.agg fs)) (hT:P.underlying T=some (.array n E)) (hE:bE P E sz ag) (hf:fs.map lay=ay n (sz,ag)) (hi:ρ i=.v (.int k m)) (h0:0<=m)
   (hr:fs[m.toNat]?=some r):aF P H ρ (.indexAddr T x i) (.cr r)
 | aaW {T E zs ps n sz ag} (hT:P.underlying T=some (.array n E)) (hE:bE P E sz ag) (hf:∀ z∈zs,lay z=(sz,ag)) (hz:dp P T (.agg zs))
   (hp:∀ p∈ps.toList,∃ z,zs[p.1]?=some z/\lay (ρ p.2)=lay z/\ρ p.2≠.any/\∀ m,ρ p.2≠.bf m) :
   aF P H ρ (.build T ps) (.agg (kh zs (ps.toList.map fun p=>(p.1,ρ p.2))))
 | ae6 {x c} (hx:ρ x=.cr c):aF P H ρ (.nilCheck x) (.cr c)
 | kQ {T E x i sz l k n r ag} (hx:ρ x=.list sz l) (hT:P.underlying T=some (.slice E)) (hE:bE P E sz ag) (hi:ρ i=.v (.int k n)) (h0:0<=n)
   (hr:l[n.toNat]?=some r) (hc:r.aw=sz):aF P H ρ (.indexAddr T x i) (.cr r)
 | xe {T E x i b sz off len k n ag} (hx:ρ x=.ref b sz off len) (hT:P.underlying T=some (.slice E)) (hE:bE P E sz ag) (hi:ρ i=.v (.int k n)) (h0:0<=n)
   (hn:n<len):aF P H ρ (.indexAddr T x i) (.aD b sz (off+n.toNat) 0)
 | ad0 {T E x sz ag l a h la ha} (hx:ρ x=.list sz l) (hT:P.underlying T=some (.slice E)) (hE:bE P E sz ag) (cg:∀ y,la=some y->∃ k,ρ y=.v (.int k (a:Nat)))
   (rA:la=none->a=0) (iT:∀ y,ha=some y->∃ k,ρ y=.v (.int k (h:Nat))) (uZ:ha=none->h=l.length) (h1:a<=h) (h2:h<=l.length) :
   aF P H ρ (.slice T x la ha none) (.list sz ((l.take h).drop a))
 | wS {T E x b sz off len ag a h la ha} (hx:ρ x=.ref b sz off len) (hT:P.underlying T=some (.slice E)) (hE:bE P E sz ag) (cg:∀ y,la=some y->∃ k,ρ y=.v (.int k (a:Nat)))
   (rA:la=none->a=0) (iT:∀ y,ha=some y->∃ k,ρ y=.v (.int k (h:Nat))) (uZ:ha=none->h=len) (h1:a<=h) (h2:h<=len) (ni:a<len) :
   aF P H ρ (.slice T x la ha none) (.ref b sz (off+a) (h-a))
 | af1 {T E x b sz off len ag a h mx la z zm k k'} (hx:ρ x=.ref b sz off len) (hT:P.underlying T=some (.slice E)) (hE:bE P E sz ag) (cg:∀ y,la=some y->∃ k,ρ y=.v (.int k (a:Nat)))
   (rA:la=none->a=0) (iT:ρ z=.v (.int k (h:Nat))) (hmx:ρ zm=.v (.int k' (mx:Nat))) (h1:a<=h) (h2:h<=mx) (h3:mx<=len) (ni:a<mx) :
   aF P H ρ (.slice T x la (some z) (some zm)) (.ref b sz (off+a) (h-a))
 | aaj {T x sz l d as} (hx:ρ x=.list sz l) (has:as=#[T]) (hT:P.underlying T=some (.slice d)):aF P H ρ (.call ⟨.builtin .len,#[x],as⟩) (.v (.int .i64 (l.length:Nat)))
 | aa8 {T x b sz off len d as} (hx:ρ x=.ref b sz off len) (has:as=#[T]) (hT:P.underlying T=some (.slice d)):aF P H ρ (.call ⟨.builtin .len,#[x],as⟩) (.v (.int .i64 (len:Nat)))
 | aaO {T x d as} (hx:ρ x=.v (.slice none 0 0)) (has:as=#[T]) (hT:P.underlying T=some (.slice d)):aF P H ρ (.call ⟨.builtin .len,#[x],as⟩) (.v (.int .i64 (0:Nat)))
 | alX {T x d as} (hx:ρ x=.v (.slice none 0 0)) (has:as=#[T]) (hT:P.underlying T=some (.slice d)):aF P H ρ (.call ⟨.builtin .cap,#[x],as⟩) (.v (.int .i64 (0:Nat)))
 | aj1 {T E x ha k sz ag} (hx:ρ x=.v (.slice none 0 0)) (hT:P.underlying T=some (.slice E)) (hE:bE P E sz ag) (hh:ρ ha=.v (.int k (0:Nat))):aF P H ρ (.slice T x none (some ha) none) (.v (.slice none 0 0))
 | abf {T x b sz off len cp d as} (hx:ρ x=.kC b sz off len cp) (has:as=#[T]) (hT:P.underlying T=some (.slice d)):aF P H ρ (.call ⟨.builtin .len,#[x],as⟩) (.v (.int .i64 (len:Nat)))
 | aes {T x b sz off len cp d as} (hx:ρ x=.kC b sz off len cp) (has:as=#[T]) (hT:P.underlying T=some (.slice d)):aF P H ρ (.call ⟨.builtin .cap,#[x],as⟩) (.v (.int .i64 (cp:Nat)))
 | aed {T E x b sz off len cp ag a h la ha} (hx:ρ x=.kC b sz off len cp) (hT:P.underlying T=some (.slice E)) (hE:bE P E sz ag) (cg:∀ y,la=some y->∃ k,ρ y=.v (.int k (a:Nat)))
   (rA:la=none->a=0) (iT:∀ y,ha=some y->∃ k,ρ y=.v (.int k (h:Nat))) (uZ:ha=none->h=len) (h1:a<=h) (h2:h<=cp) (ni:a<cp) :
   aF P H ρ (.slice T x la ha none) (.kC b sz (off+a) (h-a) (cp-a))
 | min2 {x y k a b as} (hx:ρ x=.v (.int k a)) (hy:ρ y=.v (.int k b)):aF P H ρ (.call ⟨.builtin .min,#[x,y],as⟩) (.v (.int k (if b<a then b else a)))
 | max2 {x y k a b as} (hx:ρ x=.v (.int k a)) (hy:ρ y=.v (.int k b)):aF P H ρ (.call ⟨.builtin .max,#[x,y],as⟩) (.v (.int k (if b > a then b else a)))
 | ahZ {T x i s k n b} (hx:ρ x=.v (.string s)) (hT:P.underlying T=some .string) (hi:ρ i=.v (.int k n)) (h0:0<=n) (hb:s[n.toNat]?=some b):aF P H ρ (.index T x i) (.v (.int .u8 b.toNat))
 | abj {f xs as fn e} {vs:List Value} {r1 r2} (hf:P.funcs[f]?=some fn) (ry:(fn.name== "runtime.NumGoroutine")=false) (hb:fn.body.isNone=true) (hn:Extern.findNext fn=none) (he:Extern.find fn=some e)
   (hx:xs.toList.map ρ=vs.map LV.v) (hr:∀ w:World,(e vs.toArray).run P w=.ok (.tuple #[r1,r2]) w) (h1:r1.oneCell'=true) (h2:r2.oneCell'=true) :
   aF P H ρ (.call ⟨.value (.func f),xs,as⟩) (.bf [.v r1,.v r2])
 | zR {T x y U s t} (hx:ρ x=.v (.string s)) (hy:ρ y=.v (.string t)) (h:s.size+t.size<=9223372036854775807):aF P H ρ (.binOp .add T x y U) (.v (.string (s++t)))
 | eqS {T x y U s t} (hx:ρ x=.v (.string s)) (hy:ρ y=.v (.string t)):aF P H ρ (.binOp .eql T x y U) (.v (.bool (s.toList==t.toList)))
 | eqN {T x y U d} (hx:ρ x=.v (.slice none 0 0)) (hy:ρ y=.v (.slice none 0 0)) (hT:P.underlying T=some (.slice d)):aF P H ρ (.binOp .eql T x y U) (.v (.bool true))
 | zJ {T x y U E a0 a1 a2 a3 b0 b1 b2 b3} (hx:ρ x=.agg [.v (.bool a0),.v (.bool a1),.v (.bool a2),.v (.bool a3)]) (hy:ρ y=.agg [.v (.bool b0),.v (.bool b1),.v (.bool b2),.v (.bool b3)]) (hT:P.underlying T=some (.array 4 E))
   (hE:P.underlying E=some .bool) (hs:bE P E 1 false) (hd:2<=P.depth):aF P H ρ (.binOp .eql T x y U) (.v (.bool (a0==b0 && (a1==b1 && (a2==b2 && a3==b3)))))
 | aao {T x y U sz v l d} (hx:ρ x=.list sz (v :: l)) (hy:ρ y=.v (.slice none 0 0)) (hT:P.underlying T=some (.slice d)):aF P H ρ (.binOp .eql T x y U) (.v (.bool false))
 | amX {S D E x b off len blk} {ns:List Nat} (hS:P.underlying S=some (.slice E)) (hE:P.underlying E=some (.int .u8)) (hD:P.underlying D=some .string) (hx:ρ x=.ref b 1 off len) (hb:H b=some blk) (hs:blk.sz=1)
   (hv:(blk.vals.drop off).take len=ns.map (fun n=>LV.v (.int .u8 (n:Nat)))) (hl:off+len<=blk.vals.length) :
   aF P H ρ (.convert S D x) (.v (.string ((ns.map ai2).foldl (fun r n=>r.push (UInt8.ofNat n.toNat)) ByteArray.empty)))
 | build {T zs ps} (hT:mo P T (zs.map lay)) (hz:dp P T (.agg zs)) (hp:∀ p∈ps.toList,∃ z,zs[p.1]?=some z/\lay (ρ p.2)=lay z/\ρ p.2≠.any/\∀ m,ρ p.2≠.bf m) :
   aF P H ρ (.build T ps) (.agg (kh zs (ps.toList.map fun p=>(p.1,ρ p.2))))
section
variable {P:Program} {Z:Nat->Prop} {μ:Nat->Option Nat} {w:World}
theorem bh.int {k:IntKind} {n:Int}:bh Z μ w (.v (.int k n)) (.int k n):=⟨by simp [LV.isAgg],fun _=>by simp [aB,Value.oneCell']⟩
theorem bh.bool {b:Bool}:bh Z μ w (.v (.bool b)) (.bool b):=⟨by simp [LV.isAgg],fun _=>by simp [aB,Value.oneCell']⟩
theorem bh.eI {x v:Value} (h:bh Z μ w (.v x) v):v=x:=by
 have:=h.2 rfl
 simp only [aB] at this
 simpa using this.1
theorem bh.v {x:Value} (h:x.oneCell'=true):bh Z μ w (.v x) x:=⟨by simp [LV.isAgg],fun _=>by simp [aB,h]⟩
theorem aIu {op:BinOp} {k:IntKind} {a b:Int} {r:Value} (h:dN op k a b=some r):r.oneCell'=true:=by
 cases op<;>simp [dN] at h<;>first | (subst h;rfl) | (obtain⟨_,rfl⟩:=h;rfl)
theorem azX {op:BinOp} {k:IntKind} {a b:Int} {r:Value} (h:qo op k a b=some r):r.oneCell'=true:=by
 unfold qo at h
 split at h
 ·simp at h
 ·cases op<;>simp at h<;>(subst h;rfl)
theorem aF7 {op:BinOp} {T:TypeId} {x y:Operand} {k:IntKind} {a b:Int} {r:Value} (h:dN op k a b=some r) :
  (do eqGuard op T x y (.int k a) (.int k b);binOp op T (.int k a) (.int k b):Sem Value).run P w=.ok r w:=by
 cases op<;>simp [dN] at h<;>simp [eqGuard,binOp,Op.intArith,Op.intDiv,Op.intBits,Op.intCmp] <;>
  first
   | (subst h;rfl)
   | (obtain⟨h1,rfl⟩:=h;simp [h1])
   | skip
theorem aAZ {op:BinOp} {T:TypeId} {x y:Operand} {k k':IntKind} {a b:Int} {r:Value} (h:qo op k a b=some r) :
  (do eqGuard op T x y (.int k a) (.int k' b);binOp op T (.int k a) (.int k' b):Sem Value).run P w=.ok r w:=by
 unfold qo at h
 split at h
 ·simp at h
 ·rename_i hb
  cases op<;>simp at h<;>subst h<;>simp [eqGuard,binOp,Op.shift,hb]
theorem atL (off:Nat):∀ (vs:List Value) (i:Nat) (cells:Array Value),off+i+vs.length<=cells.size ->
  ((vs.zipIdx i).foldl (fun cs p=>cs.setIfInBounds (off+p.2) p.1) cells).toList=cells.toList.take (off+i)++(vs++cells.toList.drop (off+i+vs.length))
 | [],i,cells,h=>by simp
 | v :: vs,i,cells,h=>by
   simp only [rC] at h
   simp only [List.zipIdx_cons,List.foldl_cons]
   rw [atL off vs (i+1) _ (by rw [Array.size_setIfInBounds];omega)]
   have e:off+(i+1)=(off+i)+1:=by omega
   rw [e,Array.toList_setIfInBounds,List.take_succ_eq_append_getElem bz,List.getElem_set_self,List.take_set_of_le ae,List.drop_set_of_lt ae]
   have e2:off+i+1+vs.length=off+i+(vs.length+1):=by omega
   rw [e2]
   simp
theorem aiP {ls:List (Nat × Bool)} (place:Nat->Option (Nat × Nat)) (gO:∀ k n,ls[k]?=some n->place k=some (oq (ls.take k),n.1)) :
  ∀ (ps:List (Nat × Value)) (qs:List (Nat × LV)) (zs:List LV) (cells:Array Value),zs.map lay=ls->cC Z μ w zs cells.toList ->
   ps.map (·.1)=qs.map (·.1)->(∀ (j:Nat) (p:Nat × Value) (q:Nat × LV),ps[j]?=some p->qs[j]?=some q->fS Z μ w q.2 p.2/\q.2≠LV.any) ->
   (∀ q∈qs,∃ n,ls[q.1]?=some n/\lay q.2=n) ->
   ∃ cs,Instr.fill place cells ps=some cs/\cC Z μ w (kh zs qs) cs.toList
 | [],[],zs,cells,_,hr,_,_,_=>⟨cells,rfl,hr⟩
 | [],_ :: _,_,_,_,_,h,_,_=>by simp at h
 | _ :: _,[],_,_,_,_,h,_,_=>by simp at h
 | (k,v) :: ps,(k',x) :: qs,zs,cells,hz,hr,hk,hv,hq=>by
   simp only [nZ,fP] at hk
   obtain⟨rfl,hk⟩:=hk
   obtain⟨n,hn,hxn⟩:=hq (k,x) aM
   obtain⟨hxv,hxa⟩:=hv 0 (k,v) (k,x) rfl rfl
   obtain⟨c1,c2,c3,_⟩:=hxv.cells hxa
   have hn':=hn
   simp only at hn hxn
   rw [<-hz,g8] at hn
   obtain⟨z,hzk,hzn⟩:∃ z,zs[k]?=some z/\lay z=n:=by
    cases h:zs[k]? with
    | none=>simp [h] at hn
    | some z=>exact⟨z,rfl,by simpa [h] using hn⟩
   obtain⟨pre,ch,post,e1,e2,e3,e4,e5⟩:=cC.get zs cells.toList k z hr hzk
   have bI:v.cells.size=n.1:=by rw [c2,<-hxn];rfl
   have aLQ:ch.length=n.1:=by rw [e3,<-hzn];rfl
   have tx:oq (ls.take k)=pre.length:=by rw [<-hz,aik,e2]
   have hcs:cells.size=pre.length+(ch.length+post.length):=by
    rw [<-n9,e1];simp
   simp only [Instr.fill,gO k n hn',tx]
   have aFj:¬ ((decide (v.cells.size≠n.1) || decide (pre.length+v.cells.size > cells.size))=true):=by
    simp only [Bool.or_eq_true,decide_eq_true_eq,not_or,aEC]
    omega
   rw [if_neg aFj]
   have hf:=atL pre.length v.cells.toList 0 cells bz
   have mP:(v.cells.zipIdx.foldl (fun cs p=>cs.setIfInBounds (pre.length+p.2) p.1) cells).toList=pre++(v.cells.toList++post):=by
    rw [<-Array.foldl_toList,Array.toList_zipIdx]
    rw [hf,e1]
    simp only [mS,n9,List.take_left]
    rw [ayo,kg ae,afQ]
    congr 2
    rw [ayo,kg ae,afQ]
    have:pre.length+v.cells.size-pre.length-ch.length=0:=by omega
    rw [this];rfl
   have tB:=e5 x v.cells.toList c1 (by simp [c2])
   rw [<-mP] at tB
   refine aiP place gO ps qs (zs.set k x) _ ?_ tB hk (fun j p q hp hq=>hv (j+1) p q (by simpa using hp) (by simpa using hq)) (fun q h=>hq q (by simp [h]))
   rw [List.map_set,hz,hxn]
   refine List.ext_getElem? fun j=>?_
   by_cases hj:k=j
   ·subst hj;rw [List.getElem?_set_self (pj.1 hn').1,hn']
   ·rw [List.getElem?_set_ne hj]
end
end Go.Lg
namespace Go.Lg
section
variable {P:Program} {Z:Nat->Prop} {μ:Nat->Option Nat} {w:World} {H:bW} {ρ:Operand->LV} {a:Act}
theorem gu.get:∀ (l:List LV) (vs:List Value) (i:Nat) (x:LV),gu Z μ w l vs->l[i]?=some x->∃ v,vs[i]?=some v/\fS Z μ w x v
 | [],_,_,_,_,h=>by simp at h
 | y :: ys,_,0,x,⟨v,ks,e,h1,h2⟩,hi=>by
   simp only [rj,fB] at hi
   subst hi e
   exact⟨v,by simp,h1⟩
 | y :: ys,_,i+1,x,⟨v,ks,e,h1,h2⟩,hi=>by
   subst e
   have:=gu.get ys ks i x h2 (by simpa using hi)
   simpa using this
theorem anA {sz:Nat} {l:List LV} {i:Nat} {r:LV} {off:Nat} {c:Array Value} {part rest:List Value}
  (hd:c.toList.drop off=part++rest) (hr:aS Z μ w sz l part) (hi:l[i]?=some r) :
  ∃ ch post,c.toList.drop (off+i*sz)=ch++post/\ch.length=sz/\aB Z μ w r ch:=by
 obtain⟨pre,ch,post,e1,e2,e3,e4,_⟩:=aS.get l part i r hr hi
 refine⟨ch,post++rest,?_,e3,e4⟩
 rw [<-rm,hd,e1,<-e2]
 simp
theorem run_indexAt_slice {T E:TypeId} {sz:Nat} {ag:Bool} (hT:P.underlying T=some (.slice E)) (hE:bE P E sz ag) (k:IntKind) (n:Int) (len cap b off:Nat) (h0:0<=n) (h1:n<len) :
  (Instr.indexAt T (.slice (some ⟨b,off,none⟩) len cap) (.int k n)).run P w=.ok (.pointer (some ⟨b,off+n.toNat*sz,none⟩)) w:=by
 have h2:(0<=n/\n<(len:Int)):=⟨h0,h1⟩
 simp [Instr.indexAt,asIntOf,run_underlying hT,run_sizeOf hE,h2,Addr.add_mid]
theorem run_equal_bool {T:TypeId} (hT:P.underlying T=some .bool) (i j:Bool):(Op.equal T (.bool i) (.bool j)).run P w=.ok (i==j) w:=by
 have h:∀ d,(Op.equalIn (d+1) T (.bool i) (.bool j)).run P w=.ok (i==j) w:=fun d=>by
  simp only [Op.equalIn,Sem.run_bind,run_underlying hT,Result.andThen_ok,Sem.run_pure]
 exact h 9999
theorem aFd {T:TypeId} (hT:P.underlying T=some .bool) {x y:Operand} (i j:Bool) :
  (do eqGuard .eql T x y (.bool i) (.bool j);binOp .eql T (.bool i) (.bool j):Sem Value).run P w=.ok (.bool (i==j)) w:=by
 have h1:(eqGuard .eql T x y (.bool i) (.bool j)).run P w=.ok () w:=by simp [eqGuard]
 have h2:(binOp .eql T (.bool i) (.bool j)).run P w=.ok (.bool (i==j)) w:=by
  simp only [binOp]
  rw [Sem.run_bind,run_equal_bool hT];rfl
 rw [Sem.run_bind,h1];exact h2
theorem aDL {T:TypeId} (hT:P.underlying T=some .bool) {x y:Operand} (i j:Bool) :
  (do eqGuard .neq T x y (.bool i) (.bool j);binOp .neq T (.bool i) (.bool j):Sem Value).run P w=.ok (.bool (!(i==j))) w:=by
 have h1:(eqGuard .neq T x y (.bool i) (.bool j)).run P w=.ok () w:=by simp [eqGuard]
 have h2:(binOp .neq T (.bool i) (.bool j)).run P w=.ok (.bool (!(i==j))) w:=by
  simp only [binOp]
  rw [Sem.run_bind,run_equal_bool hT];rfl
 rw [Sem.run_bind,h1];exact h2
theorem aCk {T d:TypeId} (hT:P.underlying T=some (.slice d)) (a:Option Addr) (n c:Nat):(Op.equal T (.slice a n c) (.slice none 0 0)).run P w=.ok (a.isNone) w:=by
 have h:∀ k,(Op.equalIn (k+1) T (.slice a n c) (.slice none 0 0)).run P w=.ok (a.isNone) w:=fun k=>by
  cases a<;>simp only [Op.equalIn,Sem.run_bind,run_underlying hT,Result.andThen_ok,Sem.run_pure]<;>rfl
 exact h 9999
theorem atk {T d:TypeId} (hT:P.underlying T=some (.slice d)) {x y:Operand} (a:Option Addr) (n c:Nat) :
  (do eqGuard .eql T x y (.slice a n c) (.slice none 0 0);binOp .eql T (.slice a n c) (.slice none 0 0):Sem Value).run P w=.ok (.bool a.isNone) w:=by
 have h1:(eqGuard .eql T x y (.slice a n c) (.slice none 0 0)).run P w=.ok () w:=by simp [eqGuard]
 have h2:(binOp .eql T (.slice a n c) (.slice none 0 0)).run P w=.ok (.bool a.isNone) w:=by
  simp only [binOp]
  rw [Sem.run_bind,aCk hT];rfl
 rw [Sem.run_bind,h1];exact h2
theorem aDh {E:TypeId} {d:TypeDesc} (h1:P.underlying E=some d) (h2:d.isRow=false) (cs:Array Value) (i:Nat) (v:Value) (h:cs[i]?=some v):(part E cs i).run P w=.ok v w:=by
 cases d<;>first | (exfalso;simp [TypeDesc.isRow] at h2;done) | (simp [part,isAgg,run_underlying h1,h])
theorem aC1 {T E:TypeId} (d:Nat) (hT:P.underlying T=some (.array 4 E)) (hE:P.underlying E=some .bool) (hs:(sizeOf E).run P w=.ok 1 w) (a b:Fin 4->Bool) :
  (Op.equalIn (d+2) T (.agg #[.bool (a 0),.bool (a 1),.bool (a 2),.bool (a 3)]) (.agg #[.bool (b 0),.bool (b 1),.bool (b 2),.bool (b 3)])).run P w=.ok (a 0==b 0 && (a 1==b 1 && (a 2==b 2 && a 3==b 3))) w:=by
 have hb:∀ x y:Bool,(Op.equalIn (d+1) E (.bool x) (.bool y)).run P w=.ok (x==y) w:=fun x y=>by
  simp only [Op.equalIn,Sem.run_bind,run_underlying hE,Result.andThen_ok,Sem.run_pure]
 have hp:=fun(cs:Array Value) (i:Nat) (v:Value) (h:cs[i]?=some v)=>aDh (w:=w) hE (by rfl) cs i v h
 have tB:∀ (i:Nat) (x y:Bool) (hx:(#[Value.bool (a 0),Value.bool (a 1),Value.bool (a 2),Value.bool (a 3)])[i]?=some (.bool x)) (hy:(#[Value.bool (b 0),Value.bool (b 1),Value.bool (b 2),Value.bool (b 3)])[i]?=some (.bool y)),
   (do
    let doA <-part E #[Value.bool (a 0),Value.bool (a 1),Value.bool (a 2),Value.bool (a 3)] i
    let doB <-part E #[Value.bool (b 0),Value.bool (b 1),Value.bool (b 2),Value.bool (b 3)] i
    let doA <-Op.equalIn (d+1) E doA doB
    if (!doA)=true then pure (ForInStep.done (some false,())) else pure (ForInStep.yield (none,())):Sem (ForInStep (Option Bool × Unit))).run P w=.ok (if x==y then ForInStep.yield (none,()) else ForInStep.done (some false,())) w:=fun i x y hx hy=>by
  rw [Sem.run_bind,hp _ _ _ hx]
  simp only [Result.andThen_ok]
  rw [Sem.run_bind,hp _ _ _ hy]
  simp only [Result.andThen_ok]
  rw [Sem.run_bind,hb]
  simp only [Result.andThen_ok]
  cases x==y<;>simp
 rw [Op.equalIn,Sem.run_bind,run_underlying hT]
 simp only [Result.andThen_ok]
 rw [Sem.run_bind,hs]
 simp only [Result.andThen_ok]
 rw [Sem.run_bind]
 simp only [Std.Legacy.Range.forIn_eq_forIn_range',Std.Legacy.Range.size,Nat.sub_zero,Nat.div_one,List.range',List.forIn_cons,List.forIn_nil,afi,Nat.mul_one,fF]
 rw [Sem.run_bind,tB 0 (a 0) (b 0) rfl rfl]
 cases a 0==b 0
 ·simp
 simp only [Result.andThen_ok,if_true,akO]
 rw [Sem.run_bind,tB 1 (a 1) (b 1) rfl rfl]
 cases a 1==b 1
 ·simp
 simp only [Result.andThen_ok,if_true,akO]
 rw [Sem.run_bind,tB 2 (a 2) (b 2) rfl rfl]
 cases a 2==b 2
 ·simp
 simp only [Result.andThen_ok,if_true,akO]
 rw [Sem.run_bind,tB 3 (a 3) (b 3) rfl rfl]
 cases a 3==b 3
 ·simp
 simp
theorem aAM {T E:TypeId} (hT:P.underlying T=some (.array 4 E)) (hE:P.underlying E=some .bool) (hs:bE P E 1 false) (hd:2<=P.depth) {x y:Operand} (a b:Fin 4->Bool) :
  (do eqGuard .eql T x y (.agg #[.bool (a 0),.bool (a 1),.bool (a 2),.bool (a 3)]) (.agg #[.bool (b 0),.bool (b 1),.bool (b 2),.bool (b 3)]);binOp .eql T (.agg #[.bool (a 0),.bool (a 1),.bool (a 2),.bool (a 3)]) (.agg #[.bool (b 0),.bool (b 1),.bool (b 2),.bool (b 3)]):Sem Value).run P w=.ok (.bool (a 0==b 0 && (a 1==b 1 && (a 2==b 2 && a 3==b 3)))) w:=by
 obtain⟨n,hn⟩:∃ n,P.depth=n+2:=⟨P.depth-2,ae⟩
 have hg:P.eqGuardType P.depth T=false:=by rw [hn];simp [Program.eqGuardType,hT,hE]
 have h1:(eqGuard .eql T x y (.agg #[.bool (a 0),.bool (a 1),.bool (a 2),.bool (a 3)]) (.agg #[.bool (b 0),.bool (b 1),.bool (b 2),.bool (b 3)])).run P w=.ok () w:=by simp [eqGuard,hg]
 have h2:(binOp .eql T (.agg #[.bool (a 0),.bool (a 1),.bool (a 2),.bool (a 3)]) (.agg #[.bool (b 0),.bool (b 1),.bool (b 2),.bool (b 3)])).run P w=.ok (.bool (a 0==b 0 && (a 1==b 1 && (a 2==b 2 && a 3==b 3)))) w:=by
  simp only [binOp]
  have e:=aC1 9998 hT hE (run_sizeOf (w:=w) hs) a b
  simp only [afi] at e
  rw [Sem.run_bind,Op.equal,Op.maxDepth,e];rfl
 rw [Sem.run_bind,h1];exact h2
theorem av0 {Z:Nat->Prop} {μ:Nat->Option Nat} {a0 a1 a2 a3:Bool} {v:Value} (h:bh Z μ w (.agg [.v (.bool a0),.v (.bool a1),.v (.bool a2),.v (.bool a3)]) v):v=.agg #[.bool a0,.bool a1,.bool a2,.bool a3]:=by
 obtain⟨cs,rfl,hr⟩:=h.1 rfl
 simp only [aB,cC] at hr
 obtain⟨c1,d1,e1,_,⟨r1,_⟩,c2,d2,e2,_,⟨r2,_⟩,c3,d3,e3,_,⟨r3,_⟩,c4,d4,e4,_,⟨r4,_⟩,r5⟩:=hr
 subst r1 r2 r3 r4 r5 e4 e3 e2
 congr 1
 exact vC e1
theorem aDr {T E:TypeId} (hT:P.underlying T=some (.array 4 E)) (hE:P.underlying E=some .bool) (hs:bE P E 1 false) (hd:2<=P.depth) {x y:Operand} (a0 a1 a2 a3 b0 b1 b2 b3:Bool) :
  (do eqGuard .eql T x y (.agg #[.bool a0,.bool a1,.bool a2,.bool a3]) (.agg #[.bool b0,.bool b1,.bool b2,.bool b3]);binOp .eql T (.agg #[.bool a0,.bool a1,.bool a2,.bool a3]) (.agg #[.bool b0,.bool b1,.bool b2,.bool b3]):Sem Value).run P w=.ok (.bool (a0==b0 && (a1==b1 && (a2==b2 && a3==b3)))) w :=
 aAM hT hE hs hd (fun i=>[a0,a1,a2,a3][i]) (fun i=>[b0,b1,b2,b3][i])
theorem ajB (isS:Bool) (len cap:Nat) (la ha:Option Value) (a h:Nat) (cg:∀ y,la=some y->∃ k,y=.int k (a:Nat)) (rA:la=none->a=0)
  (iT:∀ y,ha=some y->∃ k,y=.int k (h:Nat)) (uZ:ha=none->h=len) (h1:a<=h) (h2:h<=cap) :
  (Instr.sliceBounds isS len cap la ha none).run P w=.ok (a,h,cap) w:=by
 have e1:∀ (k:IntKind) (c:BoundsCode),(Instr.sliceBound (.int k (h:Nat)) cap c).run P w=.ok h w:=fun k c=>by
  have:=run_sliceBound (P:=P) w k (h:Int) cap c ae ae
  simpa using this
 have e2:∀ (k:IntKind) (c:BoundsCode),(Instr.sliceBound (.int k (a:Nat)) h c).run P w=.ok a w:=fun k c=>by
  have:=run_sliceBound (P:=P) w k (a:Int) h c ae ae
  simpa using this
 cases la with
 | none =>
  have:=rA rfl
  subst this
  cases ha with
  | none=>have:=uZ rfl;subst this;simp [Instr.sliceBounds]
  | some y=>obtain⟨k,rfl⟩:=iT y rfl;simp [Instr.sliceBounds,e1]
 | some x =>
  obtain⟨k',rfl⟩:=cg x rfl
  cases ha with
  | none=>have:=uZ rfl;subst this;simp [Instr.sliceBounds,e2]
  | some y=>obtain⟨k,rfl⟩:=iT y rfl;simp [Instr.sliceBounds,e1,e2]
theorem aEy (len cap:Nat) (la:Option Value) (a h m:Nat) (k k':IntKind) (cg:∀ y,la=some y->∃ k,y=.int k (a:Nat)) (rA:la=none->a=0) (h1:a<=h) (h2:h<=m) (h3:m<=cap) :
  (Instr.sliceBounds true len cap la (some (.int k (h:Nat))) (some (.int k' (m:Nat)))).run P w=.ok (a,h,m) w:=by
 have e0:∀ (c:BoundsCode),(Instr.sliceBound (.int k' (m:Nat)) cap c).run P w=.ok m w:=fun c=>by
  have:=run_sliceBound (P:=P) w k' (m:Int) cap c ae ae
  simpa using this
 have e1:∀ (c:BoundsCode),(Instr.sliceBound (.int k (h:Nat)) m c).run P w=.ok h w:=fun c=>by
  have:=run_sliceBound (P:=P) w k (h:Int) m c ae ae
  simpa using this
 have e2:∀ (k:IntKind) (c:BoundsCode),(Instr.sliceBound (.int k (a:Nat)) h c).run P w=.ok a w:=fun k c=>by
  have:=run_sliceBound (P:=P) w k (a:Int) h c ae ae
  simpa using this
 cases la with
 | none =>
  have:=rA rfl
  subst this
  simp [Instr.sliceBounds,e0,e1]
 | some x =>
  obtain⟨k',rfl⟩:=cg x rfl
  simp [Instr.sliceBounds,e0,e1,e2]
theorem ax4:∀ (fs:List Field) (ls:List (Nat × Bool)) (off:Nat),sa P off fs ls ->
  ∃ pl:List (Nat × Nat),(fs.mapM fun f=>do pure (f.offset,<-sizeOf f.type):Sem (List (Nat × Nat))).run P w=.ok pl w/\∀ k n,ls[k]?=some n->pl[k]?=some (off+oq (ls.take k),n.1)
 | [],[],_,_=>⟨[],rfl,fun k n h=>by simp at h⟩
 | [],_ :: _,_,h=>by simp [sa] at h
 | _ :: _,[],_,h=>by simp [sa] at h
 | f :: fs,(n,ag) :: r,off,h=>by
   simp only [sa] at h
   obtain⟨h1,h2,h3⟩:=h
   obtain⟨pl,e1,e2⟩:=ax4 fs r (off+n) h3
   refine⟨(off,n) :: pl,?_,?_⟩
   ·simp only [List.mapM_cons,Sem.run_bind,run_sizeOf h2,Result.andThen_ok,Sem.run_pure,e1,h1]
   ·intro k m hk
    cases k with
    | zero=>simp at hk;subst hk;simp [oq]
    | succ k =>
     have:=e2 k m (by simpa using hk)
     simp only [List.getElem?_cons_succ,this,yd,oq]
     congr 2;omega
theorem ah9 {n sz:Nat} {ag:Bool}:∀ (fs:List LV) (k:Nat),(∀ z∈fs,lay z=(sz,ag))->k<=fs.length->da (fs.take k)=k*sz
 | _,0,_,_=>by simp [da]
 | [],k+1,_,h=>by simp at h
 | x :: xs,k+1,h,hk=>by
  have h1:x.aw=sz:=by have:=h x aM;simp only [lay,af8] at this;exact this.1
  rw [yd,da,h1,ah9 (n:=n) xs k (fun z hz=>h z (by simp [hz])) (by simpa using hk),Nat.succ_mul,Nat.add_comm]
theorem ayE {fs:List LV} {n sz:Nat} {ag:Bool} (h:fs.map lay=ay n (sz,ag)):fs.length=n/\∀ z∈fs,lay z=(sz,ag):=by
 refine⟨by have:=congrArg apR h;simpa using this,fun z hz=>?_⟩
 have:lay z∈fs.map lay:=List.mem_map_of_mem hz
 rw [h] at this
 exact(List.mem_replicate.1 this).2
theorem run_indexAt_array {T E:TypeId} {n sz:Nat} {ag:Bool} (hT:P.underlying T=some (.array n E)) (hE:bE P E sz ag) (k:IntKind) (m:Int) (b off:Nat) (h0:0<=m) (h1:m<n) :
  (Instr.indexAt T (.pointer (some ⟨b,off,none⟩)) (.int k m)).run P w=.ok (.pointer (some ⟨b,off+m.toNat*sz,none⟩)) w:=by
 have h2:(0<=m/\m<(n:Int)):=⟨h0,h1⟩
 simp [Instr.indexAt,Instr.sureAddr,asIntOf,run_underlying hT,run_sizeOf hE,h2,Addr.add_mid]
theorem aAB {T E:TypeId} {n sz:Nat} {ag:Bool} {fs:List LV} {x:LV} {v:Value} {k:IntKind} {m:Int} (hT:P.underlying T=some (.array n E)) (hE:bE P E sz ag) (hf:fs.map lay=ay n (sz,ag)) (h0:0<=m)
  (hx:fs[m.toNat]?=some x) (aX:x≠.any) (h:fS Z μ w (.agg fs) v):∃ u,(Instr.index T v (.int k m)).run P w=.ok u w/\fS Z μ w x u:=by
 obtain⟨hl,hly⟩:=ayE hf
 obtain⟨cs,rfl,hc⟩:=h.1 rfl
 simp only [aB] at hc
 obtain⟨pre,ch,post,e1,e2,e3,e4,_⟩:=cC.get fs cs.toList m.toNat x hc hx
 have hk:=(pj.1 hx).1
 have hxl:=hly x (sR hx)
 simp only [lay,af8] at hxl
 obtain⟨u,w9,hu3⟩:=auW (T:=E) (by rw [hxl.1,hxl.2];exact hE) e1 e4 aX
 refine⟨u,?_,hu3⟩
 have tx:m.toNat*sz=pre.length:=by rw [e2,ah9 (n:=n) fs m.toNat hly ae]
 have h2:(0<=m/\m<(n:Int)):=⟨h0,ae⟩
 simp only [Instr.index,asIntOf,Sem.run_bind,Sem.run_pure,Result.andThen_ok,run_underlying hT,if_pos h2,run_sizeOf hE,tx]
 simpa using w9
theorem aAD {T E:TypeId} {zs:List LV} {ps:Array (Nat × Operand)} {n sz:Nat} {ag:Bool} (hT:P.underlying T=some (.array n E)) (hE:bE P E sz ag) (hf:∀ z∈zs,lay z=(sz,ag)) (hz:dp P T (.agg zs))
  (hp:∀ p∈ps.toList,∃ z,zs[p.1]?=some z/\lay (ρ p.2)=lay z/\ρ p.2≠.any/\∀ m,ρ p.2≠.bf m) (cx:∀ p∈ps.toList,bh Z μ w (ρ p.2) (a.eval p.2)) :
  ∃ v,(Instr.build T (ps.map fun(i,x)=>(i,a.eval x))).run P w=.ok v w/\bh Z μ w (.agg (kh zs (ps.toList.map fun p=>(p.1,ρ p.2)))) v:=by
 obtain⟨i,zv,z1,z2,_,z3⟩:=hz
 have xf:=z3 Z μ w
 simp only [aB] at xf
 obtain⟨cs,f1,f2⟩:=aiP (Z:=Z) (μ:=μ) (w:=w) (ls:=zs.map lay) (fun k=>some (k*sz,sz)) (fun k n hk=>by
   rw [g8,aab] at hk
   obtain⟨z,hz,rfl⟩:=hk
   have hk:=(pj.1 hz).1
   have o5:=hf z (sR hz)
   rw [o5,aik,ah9 (n:=0) zs k hf ae])
  (ps.toList.map fun p=>(p.1,a.eval p.2)) (ps.toList.map fun p=>(p.1,ρ p.2)) zs zv.cells rfl xf aM
  (fun j p q kE rX=>by
   simp only [g8,aab] at kE rX
   obtain⟨x,hx,rfl⟩:=kE
   obtain⟨y,hy,rfl⟩:=rX
   rw [hx] at hy;cases hy
   have hm:=sR hx
   obtain⟨z,_,_,h3,h4⟩:=hp x hm
   exact⟨bh.zo h4 h3 (cx x hm),h3⟩)
  (fun q hq=>by
   simp only [cQ] at hq
   obtain⟨x,hx,rfl⟩:=hq
   obtain⟨z,h1,h2,_⟩:=hp x hx
   exact⟨lay z,by simp [g8,h1],h2⟩)
 refine⟨.agg cs,?_,⟨fun _=>⟨cs,rfl,by simpa [aB] using f2⟩,by simp [LV.isAgg]⟩⟩
 have z9:(zeroValue T).run P w=.ok zv w:=by simp [zeroValue,typeInfo,z1,z2]
 simp only [Instr.build,Sem.run_bind,z9,Result.andThen_ok,run_underlying hT,run_sizeOf hE]
 have:(afz (fun x=>match x with | (i,x)=>(i,a.eval x)) ps).toList=ps.toList.map fun p=>(p.1,a.eval p.2):=by simp
 rw [this,f1];rfl
theorem aGV {T:TypeId} {zs:List LV} {ps:Array (Nat × Operand)} (hT:mo P T (zs.map lay)) (hz:dp P T (.agg zs))
  (hp:∀ p∈ps.toList,∃ z,zs[p.1]?=some z/\lay (ρ p.2)=lay z/\ρ p.2≠.any/\∀ m,ρ p.2≠.bf m) (cx:∀ p∈ps.toList,bh Z μ w (ρ p.2) (a.eval p.2)) :
  ∃ v,(Instr.build T (ps.map fun(i,x)=>(i,a.eval x))).run P w=.ok v w/\bh Z μ w (.agg (kh zs (ps.toList.map fun p=>(p.1,ρ p.2)))) v:=by
 obtain⟨i,zv,z1,z2,_,z3⟩:=hz
 obtain⟨fields,hu,hl,ni⟩:=hT
 have xf:=z3 Z μ w
 simp only [aB] at xf
 obtain⟨pl,e1,e2⟩:=ax4 (P:=P) (w:=w) fields.toList _ 0 hl
 obtain⟨cs,f1,f2⟩:=aiP (Z:=Z) (μ:=μ) (w:=w) (ls:=zs.map lay) (fun k=>pl.toArray[k]?) (fun k n hk=>by simpa using e2 k n hk)
  (ps.toList.map fun p=>(p.1,a.eval p.2)) (ps.toList.map fun p=>(p.1,ρ p.2)) zs zv.cells rfl xf aM
  (fun j p q kE rX=>by
   simp only [g8,aab] at kE rX
   obtain⟨x,hx,rfl⟩:=kE
   obtain⟨y,hy,rfl⟩:=rX
   rw [hx] at hy;cases hy
   have hm:=sR hx
   obtain⟨z,_,_,h3,h4⟩:=hp x hm
   exact⟨bh.zo h4 h3 (cx x hm),h3⟩)
  (fun q hq=>by
   simp only [cQ] at hq
   obtain⟨x,hx,rfl⟩:=hq
   obtain⟨z,h1,h2,_⟩:=hp x hx
   exact⟨lay z,by simp [g8,h1],h2⟩)
 refine⟨.agg cs,?_,⟨fun _=>⟨cs,rfl,by simpa [aB] using f2⟩,by simp [LV.isAgg]⟩⟩
 have gO:(fields.mapM fun f=>do pure (f.offset,<-sizeOf f.type):Sem (Array (Nat × Nat))).run P w=.ok pl.toArray w:=by
  rw [Array.mapM_eq_mapM_toList,Sem.run_map,e1];rfl
 have z9:(zeroValue T).run P w=.ok zv w:=by simp [zeroValue,typeInfo,z1,z2]
 simp only [Instr.build,Sem.run_bind,z9,Result.andThen_ok,run_underlying hu,gO]
 have:(afz (fun x=>match x with | (i,x)=>(i,a.eval x)) ps).toList=ps.toList.map fun p=>(p.1,a.eval p.2):=by simp
 rw [this,f1];rfl
set_option maxHeartbeats 2000000 in
theorem aF.sound {op:Op} {r:LV} (ho:aF P H ρ op r) (cx:∀ x∈op.operands,bh Z μ w (ρ x) (a.eval x))
  (hh:∀ b id,μ b=some id->∃ blk,H b=some blk/\u7 Z μ w blk id) (dst:Option Tmp) (ty:TypeId) (pos:String) (after:Array Edge) (g:Option (Nat × Bool)) :
  ∃ v,(execOp a.eval ⟨dst,op,ty,pos,after,g⟩).run P w=.ok (.value v) w/\bh Z μ w r v:=by
 cases ho with
 | move x=>exact⟨a.eval x,rfl,cx x bU⟩
 | assign x=>exact⟨a.eval x,rfl,cx x bU⟩
 | @pick c x y t h =>
  have hc:=cx c bU;rw [h] at hc
  have hc:=hc.eI
  refine⟨if t then a.eval x else a.eval y,by cases t<;>simp [execOp,hc,asBool],?_⟩
  cases t
  ·simpa using cx y bU
  ·simpa using cx x bU
 | @bin op T x y U k i j r hx hy h =>
  have e1:=cx x bU;rw [hx] at e1;have e1:=e1.eI
  have e2:=cx y bU;rw [hy] at e2;have e2:=e2.eI
  refine⟨r,?_,bh.v (aIu h)⟩
  have:=aF7 (P:=P) (w:=w) (T:=T) (x:=x) (y:=y) h
  simp only [execOp,e1,e2]
  rw [Sem.run_bind,this];rfl
 | @sh op T x y U k k' i j r hx hy h =>
  have e1:=cx x bU;rw [hx] at e1;have e1:=e1.eI
  have e2:=cx y bU;rw [hy] at e2;have e2:=e2.eI
  refine⟨r,?_,bh.v (azX h)⟩
  have:=aAZ (P:=P) (w:=w) (T:=T) (x:=x) (y:=y) (k':=k') h
  simp only [execOp,e1,e2]
  rw [Sem.run_bind,this];rfl
 | @beq T x y U i j hx hy hT =>
  have e1:=cx x bU;rw [hx] at e1;have e1:=e1.eI
  have e2:=cx y bU;rw [hy] at e2;have e2:=e2.eI
  exact⟨.bool (i==j),by simp only [execOp,e1,e2];rw [Sem.run_bind,aFd hT];rfl,bh.bool⟩
 | @eqN T x y U d hx hy hT =>
  have e1:=cx x bU;rw [hx] at e1;have e1:=e1.eI
  have e2:=cx y bU;rw [hy] at e2;have e2:=e2.eI
  exact⟨.bool true,by simp only [execOp,e1,e2];rw [Sem.run_bind,atk hT];rfl,bh.bool⟩
 | @zJ T x y U E a0 a1 a2 a3 b0 b1 b2 b3 hx hy hT hE hs hd =>
  have e1:=cx x bU;rw [hx] at e1;have e1:=av0 e1
  have e2:=cx y bU;rw [hy] at e2;have e2:=av0 e2
  exact⟨.bool _,by simp only [execOp,e1,e2];rw [Sem.run_bind,aDr hT hE hs hd];rfl,bh.bool⟩
 | @aao T x y U sz v l d hx hy hT =>
  have e1:=cx x bU;rw [hx] at e1
  have e2:=cx y bU;rw [hy] at e2;have e2:=e2.eI
  have e3:=e1.2 rfl
  simp only [aB] at e3
  obtain⟨ad,len,cap,q1,q2,q3,q4,_⟩:=e3
  simp only [fP,and_true] at q1
  rcases q4 with q4 | ⟨blk,off,c,T',fz,part,rest,q5,_⟩
  ·cases q4
  ·subst q5
   exact⟨.bool false,by simp only [execOp,q1,e2];rw [Sem.run_bind,atk hT];rfl,bh.bool⟩
 | @bne T x y U i j hx hy hT =>
  have e1:=cx x bU;rw [hx] at e1;have e1:=e1.eI
  have e2:=cx y bU;rw [hy] at e2;have e2:=e2.eI
  exact⟨.bool (!(i==j)),by simp only [execOp,e1,e2];rw [Sem.run_bind,aDL hT];rfl,bh.bool⟩
 | @not T x i hx =>
  have e1:=cx x bU;rw [hx] at e1;have e1:=e1.eI
  exact⟨.bool (!i),by simp [execOp,e1,Op.unary],bh.bool⟩
 | @neg T x k i hx =>
  have e1:=cx x bU;rw [hx] at e1;have e1:=e1.eI
  exact⟨.int k (k.wrap (0-i)),by simp [execOp,e1,Op.unary,Op.intArith],bh.int⟩
 | @conv S D x k k' n d hS hD hx =>
  have e1:=cx x bU;rw [hx] at e1;have e1:=e1.eI
  exact⟨.int k (k.wrap n),by simp [execOp,e1,convert,run_underlying hS,run_underlying hD,Conv.intToInt],bh.int⟩
 | @extract t i l r ht hr aX =>
  have e1:=cx t bU;rw [ht] at e1
  obtain⟨vs,e2,e3⟩:=e1
  obtain⟨v,h1,h2⟩:=gu.get _ _ _ _ e3 hr
  refine⟨v,?_,bh.tw aX h2⟩
  have:vs[i]?=some v:=by rw [<-ach];exact h1
  simp [execOp,e2,Instr.extract,this]
 | @field T x k fs r hx hT hr aX =>
  have e1:=cx x bU;rw [hx] at e1
  obtain⟨u,h1,h2⟩:=aA9 (P:=P) (w:=w) hT hr (LV.fp aX) (bh.zo aM aM e1)
  exact⟨u,by simp [execOp,h1],bh.tw (LV.eW aX) h2⟩
 | @zV T p k fs r hp hT hr =>
  have e1:=cx p bU;rw [hp] at e1
  have e2:=e1.2 rfl
  simp only [aB] at e2
  obtain⟨blk,off,cc,U,fz,part,rest,h1,h2,h3,h4,h5,h6,h7⟩:=e2
  obtain⟨pre,ch,post,g1,g2,g3,g4,_⟩:=cC.get fs part k r h6 hr
  have hk:k<(fs.map lay).length:=by rw [dL];exact(pj.1 hr).1
  have hf:=avc (P:=P) (w:=w) hT hk blk off
  rw [aik] at hf
  refine⟨.pointer (some ⟨blk,off+da (fs.take k),none⟩),?_,⟨by simp [LV.isAgg],fun _=>?_⟩⟩
  ·simp only [fP,and_true] at h1
   simp [execOp,h1,hf]
  ·simp only [aB]
   refine⟨blk,_,cc,U,fz,ch,post++rest,rfl,h2,h3,?_,g3,g4,(zp _).1 (by simpa [LV.pure] using h7) _ (sR hr)⟩
   rw [<-rm,h4,g1,<-g2]
   simp
 | @abp T p k b sz i o ls hp hT hk =>
  have e1:=cx p bU;rw [hp] at e1
  have e2:=e1.2 rfl
  simp only [aB] at e2
  obtain⟨id,h1,h2⟩:=e2
  simp only [fP,and_true] at h1
  have hf:=avc (P:=P) (w:=w) hT hk id (i*sz+o)
  refine⟨.pointer (some ⟨id,i*sz+o+oq (ls.take k),none⟩),by simp [execOp,h1,hf],⟨by simp [LV.isAgg],fun _=>?_⟩⟩
  simp only [aB]
  exact⟨id,by rw [p8],h2⟩
 | @aaX T E x i n fs k m r sz ag hx hT hE hf hi h0 hr hp =>
  have e1:=cx x bU;rw [hx] at e1
  have e2:=cx i bU;rw [hi] at e2;have e2:=e2.eI
  obtain⟨u,h1,h2⟩:=aAB (P:=P) (w:=w) (k:=k) hT hE hf h0 hr (LV.fp hp) (bh.zo aM aM e1)
  exact⟨u,by simp [execOp,e2,h1],bh.tw (LV.eW hp) h2⟩
 | @abL T E x j n b sz i o k m es ag hx hT hE hi h0 hm =>
  have e1:=cx x bU;rw [hx] at e1
  have e3:=cx j bU;rw [hi] at e3;have e3:=e3.eI
  have e2:=e1.2 rfl
  simp only [aB] at e2
  obtain⟨id,h1,h2⟩:=e2
  simp only [fP,and_true] at h1
  have hf:=run_indexAt_array (P:=P) (w:=w) hT hE k m id (i*sz+o) h0 hm
  refine⟨.pointer (some ⟨id,i*sz+o+m.toNat*es,none⟩),by simp [execOp,h1,e3,hf],⟨by simp [LV.isAgg],fun _=>?_⟩⟩
  simp only [aB]
  exact⟨id,by rw [p8],h2⟩
 | @abx T E x i n fs k m r sz ag hx hT hE hf hi h0 hr =>
  have e1:=cx x bU;rw [hx] at e1
  have e3:=cx i bU;rw [hi] at e3;have e3:=e3.eI
  have e2:=e1.2 rfl
  simp only [aB] at e2
  obtain⟨blk,off,cc,U,fz,part,rest,h1,h2,h3,h4,h5,h6,h7⟩:=e2
  obtain⟨hl,hly⟩:=ayE hf
  have hk:=(pj.1 hr).1
  obtain⟨pre,ch,post,g1,g2,g3,g4,_⟩:=cC.get fs part m.toNat r h6 hr
  have rO:=run_indexAt_array (P:=P) (w:=w) hT hE k m blk off h0 ae
  rw [<-ah9 (n:=n) fs m.toNat hly ae] at rO
  refine⟨.pointer (some ⟨blk,off+da (fs.take m.toNat),none⟩),?_,⟨by simp [LV.isAgg],fun _=>?_⟩⟩
  ·simp only [fP,and_true] at h1
   simp [execOp,h1,e3,rO]
  ·simp only [aB]
   refine⟨blk,_,cc,U,fz,ch,post++rest,rfl,h2,h3,?_,g3,g4,(zp _).1 (by simpa [LV.pure] using h7) _ (sR hr)⟩
   rw [<-rm,h4,g1,<-g2]
   simp
 | @z5 T p c hp hT hc =>
  have e1:=cx p bU;rw [hp] at e1
  have e2:=e1.2 rfl
  simp only [aB] at e2
  obtain⟨blk,off,cc,U,fz,part,rest,h1,h2,h3,h4,h5,h6,h7⟩:=e2
  simp only [fP,and_true] at h1
  obtain⟨v,g1,g2⟩:=asy (P:=P) hT h3 h4 h6 (LV.fp hc)
  exact⟨v,by simp [execOp,h1,g1],bh.tw (LV.eW hc) g2⟩
 | @gj T p b sz i o blk x r n ag hp hb hs hi hx hr hT =>
  have e1:=cx p bU;rw [hp] at e1
  have e2:=e1.2 rfl
  simp only [aB] at e2
  obtain⟨id,h1,h2⟩:=e2
  simp only [fP,and_true] at h1
  obtain⟨blk',qm,c,U,part,rest,q1,q2,q3⟩:=hh b id h2
  rw [hb] at qm;cases qm
  obtain⟨ch,post,k1,k2,k3⟩:=anA (off:=0) (by simpa using q2) q3 hi
  obtain⟨pre,vX,wq,j1,j2,j3,j4,j5,j6,j7,j8⟩:=LV.ako x o n ag r ch hr k3 (by rw [k2,hs,hx])
  have hd:c.toList.drop (i*sz+o)=vX++(wq++post):=by
   rw [fF,hs] at k1
   rw [<-rm,k1,j1,<-j2];simp
  obtain⟨v,g1,g2⟩:=asy (P:=P) (y:=r) (by rw [j5,j6];exact hT) q1 hd j4 j7
  exact⟨v,by simp [execOp,h1,g1],bh.tw j8 g2⟩
 | @afx x b sz i o hx =>
  have e1:=cx x bU;rw [hx] at e1
  have e2:=e1.2 rfl
  simp only [aB] at e2
  obtain⟨id,h1,h2⟩:=e2
  simp only [fP,and_true] at h1
  exact⟨a.eval x,by simp [execOp,h1],e1⟩
 | @ae6 x c hx =>
  have e1:=cx x bU;rw [hx] at e1
  have e2:=e1.2 rfl
  simp only [aB] at e2
  obtain⟨blk,off,cc,U,fz,part,rest,h1,h2⟩:=e2
  simp only [fP,and_true] at h1
  exact⟨a.eval x,by simp [execOp,h1],e1⟩
 | @kQ T E x i sz l k n r ag hx hT hE hi h0 hr hc =>
  have e1:=cx x bU;rw [hx] at e1
  have e2:=cx i bU;rw [hi] at e2;have e2:=e2.eI
  have e3:=e1.2 rfl
  simp only [aB] at e3
  obtain⟨ad,len,cap,h1,h2,h3,h4,h9⟩:=e3
  simp only [fP,and_true] at h1
  have bH:=(pj.1 hr).1
  rcases h4 with h4 | ⟨blk,off,c,U,fz,part,rest,g1,g2,g3,g4,g5⟩
  ·subst h4;simp at bH
  ·subst g1
   have hn:n<(len:Int):=by omega
   have:=run_indexAt_slice (P:=P) (w:=w) hT hE k n len cap blk off h0 hn
   obtain⟨ch,post,k1,k2,k3⟩:=anA g4 g5 hr
   refine⟨_,by simp only [execOp,h1,e2,Sem.run_bind,this];rfl,⟨by simp [LV.isAgg],fun _=>?_⟩⟩
   simp only [aB]
   exact⟨blk,_,c,U,fz,ch,post,rfl,g2,g3,k1,by rw [k2,hc],k3,(zp _).1 h9 _ (sR hr)⟩
 | @xe T E x i b sz off len k n ag hx hT hE hi h0 hn =>
  have e1:=cx x bU;rw [hx] at e1
  have e2:=cx i bU;rw [hi] at e2;have e2:=e2.eI
  have e3:=e1.2 rfl
  simp only [aB] at e3
  rcases e3 with⟨_,e3⟩ | ⟨id,cap,c,U,fz,h1,h2,h3,h4,h5⟩
  ·omega
  simp only [fP,and_true] at h1
  have:=run_indexAt_slice (P:=P) (w:=w) hT hE k n len cap id (off*sz) h0 hn
  refine⟨_,by simp only [execOp,h1,e2,Sem.run_bind,this];rfl,⟨by simp [LV.isAgg],fun _=>?_⟩⟩
  simp only [aB]
  exact⟨id,by rw [iA];rfl,h2⟩
 | @ad0 T E x sz ag l lo hi la ha hx hT hE cg rA iT uZ h1 h2 =>
  have e1:=cx x bU;rw [hx] at e1
  have e3:=e1.2 rfl
  simp only [aB] at e3
  obtain⟨ad,len,cap,q1,q2,q3,q4,q9⟩:=e3
  simp only [fP,and_true] at q1
  have hb:=ajB (P:=P) (w:=w) true len cap (la.map a.eval) (ha.map a.eval) lo hi
   (fun y hy=>by
    cases la with
    | none=>simp at hy
    | some z =>
     simp only [qS,fB] at hy
     obtain⟨k,hk⟩:=cg z rfl
     have:=cx z bU;rw [hk] at this
     exact⟨k,by rw [<-hy];exact this.eI⟩)
   (fun h=>rA nH)
   (fun y hy=>by
    cases ha with
    | none=>simp at hy
    | some z =>
     simp only [qS,fB] at hy
     obtain⟨k,hk⟩:=iT z rfl
     have:=cx z bU;rw [hk] at this
     exact⟨k,by rw [<-hy];exact this.eI⟩)
   (fun h=>by rw [q2];exact uZ nH) h1 ae
  have fw:(Instr.sliceAt T (.slice ad len cap) (la.map a.eval) (ha.map a.eval) none).run P w=.ok (.slice (if cap=lo then ad else ad.map (·.add (lo*sz))) (hi-lo) (cap-lo)) w:=by
   simp only [Instr.sliceAt,Sem.run_bind,run_underlying hT,Result.andThen_ok,Instr.slice,hb,run_sizeOf hE,Sem.run_pure]
  refine⟨_,by simp only [execOp,q1,ajc,Sem.run_bind,fw];rfl,⟨by simp [LV.isAgg],fun _=>?_⟩⟩
  simp only [aB]
  refine⟨_,_,_,rfl,by simp;omega,ae,?_,(zp _).2 fun x hx=>(zp _).1 q9 x (wh (wg hx))⟩
  by_cases bH:lo<hi
  ·right
   rcases q4 with q4 | ⟨blk,off,c,U,fz,part,rest,g1,g2,g3,g4,g5⟩
   ·subst q4;simp at h2;omega
   ·subst g1
    have jH:¬ cap=lo:=by omega
    obtain⟨c1,c2,d1,d2,d3⟩:=aS.split (l.take hi) (l.drop hi) part (by rw [vS];exact g5)
    obtain⟨c3,c4,d4,d5,d6⟩:=aS.split ((l.take hi).take lo) ((l.take hi).drop lo) c1 (by rw [vS];exact d2)
    have nS:=aS.length _ _ d5
    simp only [eP] at nS
    refine⟨blk,off+lo*sz,c,U,fz,c4,c2++rest,by simp [jH,Addr.add_mid],g2,g3,?_,d6⟩
    rw [<-rm,g4,d1,d4]
    have:lo*sz=c3.length:=by rw [nS];congr 1;omega
    rw [this];simp
  ·left
   have:lo=hi:=by omega
   subst this
   apply nM
   simp
 | @wS T E x b sz off len ag lo hi la ha hx hT hE cg rA iT uZ h1 h2 ni =>
  have e1:=cx x bU;rw [hx] at e1
  have e3:=e1.2 rfl
  simp only [aB] at e3
  rcases e3 with⟨_,e3⟩ | ⟨id,cap,c,U,fz,q1,q2,q3,q4,q5⟩
  ·omega
  simp only [fP,and_true] at q1
  have hb:=ajB (P:=P) (w:=w) true len cap (la.map a.eval) (ha.map a.eval) lo hi
   (fun y hy=>by
    cases la with
    | none=>simp at hy
    | some z =>
     simp only [qS,fB] at hy
     obtain⟨k,hk⟩:=cg z rfl
     have:=cx z bU;rw [hk] at this
     exact⟨k,by rw [<-hy];exact this.eI⟩)
   (fun h=>rA nH)
   (fun y hy=>by
    cases ha with
    | none=>simp at hy
    | some z =>
     simp only [qS,fB] at hy
     obtain⟨k,hk⟩:=iT z rfl
     have:=cx z bU;rw [hk] at this
     exact⟨k,by rw [<-hy];exact this.eI⟩)
   (fun h=>uZ nH) h1 ae
  have fw:(Instr.sliceAt T (.slice (some ⟨id,off*sz,none⟩) len cap) (la.map a.eval) (ha.map a.eval) none).run P w =
    .ok (.slice (if cap=lo then some ⟨id,off*sz,none⟩ else some ⟨id,off*sz+lo*sz,none⟩) (hi-lo) (cap-lo)) w:=by
   simp only [Instr.sliceAt,Sem.run_bind,run_underlying hT,Result.andThen_ok,Instr.slice,hb,run_sizeOf hE,Sem.run_pure,qS,Addr.add_mid]
  refine⟨_,by simp only [execOp,q1,ajc,Sem.run_bind,fw];rfl,⟨by simp [LV.isAgg],fun _=>?_⟩⟩
  simp only [aB]
  have jH:¬ cap=lo:=by omega
  refine .inr ⟨id,cap-lo,c,U,fz,by simp [jH,iA],q2,ae,q4,?_⟩
  have:off+lo+(cap-lo)=off+cap:=by omega
  rw [this];exact q5
 | @af1 T E x b sz off len ag lo hi mx la z zm k k' hx hT hE cg rA iT hmx h1 h2 h3 ni =>
  have e1:=cx x bU;rw [hx] at e1
  have e3:=e1.2 rfl
  simp only [aB] at e3
  rcases e3 with⟨_,e3⟩ | ⟨id,cap,c,U,fz,q1,q2,q3,q4,q5⟩
  ·omega
  simp only [fP,and_true] at q1
  have g1:=cx z bU;rw [iT] at g1
  have g2:=cx zm bU;rw [hmx] at g2
  have hb:=aEy (P:=P) (w:=w) len cap (la.map a.eval) lo hi mx k k'
   (fun y hy=>by
    cases la with
    | none=>simp at hy
    | some z =>
     simp only [qS,fB] at hy
     obtain⟨k,hk⟩:=cg z rfl
     have:=cx z bU;rw [hk] at this
     exact⟨k,by rw [<-hy];exact this.eI⟩)
   (fun h=>rA nH) h1 h2 ae
  have fw:(Instr.sliceAt T (.slice (some ⟨id,off*sz,none⟩) len cap) (la.map a.eval) (some (a.eval z)) (some (a.eval zm))).run P w =
    .ok (.slice (if mx=lo then some ⟨id,off*sz,none⟩ else some ⟨id,off*sz+lo*sz,none⟩) (hi-lo) (mx-lo)) w:=by
   rw [g1.eI,g2.eI]
   simp only [Instr.sliceAt,Sem.run_bind,run_underlying hT,Result.andThen_ok,Instr.slice,hb,run_sizeOf hE,Sem.run_pure,qS,Addr.add_mid]
  refine⟨_,by simp only [execOp,q1,qS,Sem.run_bind,fw];rfl,⟨by simp [LV.isAgg],fun _=>?_⟩⟩
  simp only [aB]
  have jH:¬ mx=lo:=by omega
  refine .inr ⟨id,mx-lo,c,U,fz,by simp [jH,iA],q2,ae,q4,?_⟩
  have:off+lo+(mx-lo)=off+mx:=by omega
  rw [this]
  exact Nat.le_trans (Nat.mul_le_mul_right _ ae) q5
 | @aaj T x sz l d as hx has hT =>
  have e1:=cx x lZ;rw [hx] at e1
  have e3:=e1.2 rfl
  simp only [aB] at e3
  obtain⟨ad,len,cap,q1,q2,_⟩:=e3
  simp only [fP,and_true] at q1
  subst has
  exact⟨.int .i64 (l.length:Nat),by simp [execOp,resolve,invoke,builtin,q1,Builtin.len_,run_underlying hT,goInt,q2],bh.int⟩
 | @aa8 T x b sz off len d as hx has hT =>
  have e1:=cx x lZ;rw [hx] at e1
  have e3:=e1.2 rfl
  simp only [aB] at e3
  subst has
  rcases e3 with⟨q1,rfl⟩ | ⟨id,cap,c,U,fz,q1,_⟩
  ·simp only [fP,and_true] at q1
   exact⟨.int .i64 (0:Nat),by simp [execOp,resolve,invoke,builtin,q1,Builtin.len_,run_underlying hT,goInt],bh.int⟩
  simp only [fP,and_true] at q1
  exact⟨.int .i64 (len:Nat),by simp [execOp,resolve,invoke,builtin,q1,Builtin.len_,run_underlying hT,goInt],bh.int⟩
 | @abf T x b sz off len cp d as hx has hT =>
  have e1:=cx x lZ;rw [hx] at e1
  have e3:=e1.2 rfl
  simp only [aB] at e3
  subst has
  obtain⟨id,c,U,fz,q1,_⟩:=e3
  simp only [fP,and_true] at q1
  exact⟨.int .i64 (len:Nat),by simp [execOp,resolve,invoke,builtin,q1,Builtin.len_,run_underlying hT,goInt],bh.int⟩
 | @aes T x b sz off len cp d as hx has hT =>
  have e1:=cx x lZ;rw [hx] at e1
  have e3:=e1.2 rfl
  simp only [aB] at e3
  subst has
  obtain⟨id,c,U,fz,q1,_⟩:=e3
  simp only [fP,and_true] at q1
  exact⟨.int .i64 (cp:Nat),by simp [execOp,resolve,invoke,builtin,q1,Builtin.cap_,run_underlying hT,goInt],bh.int⟩
 | @aed T E x b sz off len cp ag lo hi la ha hx hT hE cg rA iT uZ h1 h2 ni =>
  have e1:=cx x bU;rw [hx] at e1
  have e3:=e1.2 rfl
  simp only [aB] at e3
  obtain⟨id,c,U,fz,q1,q2,q3,q4,q5⟩:=e3
  simp only [fP,and_true] at q1
  have hb:=ajB (P:=P) (w:=w) true len cp (la.map a.eval) (ha.map a.eval) lo hi
   (fun y hy=>by
    cases la with
    | none=>simp at hy
    | some z =>
     simp only [qS,fB] at hy
     obtain⟨k,hk⟩:=cg z rfl
     have:=cx z bU;rw [hk] at this
     exact⟨k,by rw [<-hy];exact this.eI⟩)
   (fun h=>rA nH)
   (fun y hy=>by
    cases ha with
    | none=>simp at hy
    | some z =>
     simp only [qS,fB] at hy
     obtain⟨k,hk⟩:=iT z rfl
     have:=cx z bU;rw [hk] at this
     exact⟨k,by rw [<-hy];exact this.eI⟩)
   (fun h=>uZ nH) h1 h2
  have fw:(Instr.sliceAt T (.slice (some ⟨id,off*sz,none⟩) len cp) (la.map a.eval) (ha.map a.eval) none).run P w =
    .ok (.slice (if cp=lo then some ⟨id,off*sz,none⟩ else some ⟨id,off*sz+lo*sz,none⟩) (hi-lo) (cp-lo)) w:=by
   simp only [Instr.sliceAt,Sem.run_bind,run_underlying hT,Result.andThen_ok,Instr.slice,hb,run_sizeOf hE,Sem.run_pure,qS,Addr.add_mid]
  refine⟨_,by simp only [execOp,q1,ajc,Sem.run_bind,fw];rfl,⟨by simp [LV.isAgg],fun _=>?_⟩⟩
  simp only [aB]
  have jH:¬ cp=lo:=by omega
  refine⟨id,c,U,fz,by simp [jH,iA],q2,ae,q4,?_⟩
  have:off+lo+(cp-lo)=off+cp:=by omega
  rw [this];exact q5
 | @aaO T x d as hx has hT =>
  have e1:=cx x lZ;rw [hx] at e1;have e1:=e1.eI
  subst has
  exact⟨.int .i64 (0:Nat),by simp [execOp,resolve,invoke,builtin,e1,Builtin.len_,run_underlying hT,goInt],bh.int⟩
 | @alX T x d as hx has hT =>
  have e1:=cx x lZ;rw [hx] at e1;have e1:=e1.eI
  subst has
  exact⟨.int .i64 (0:Nat),by simp [execOp,resolve,invoke,builtin,e1,Builtin.cap_,run_underlying hT,goInt],bh.int⟩
 | @aj1 T E x ha k sz ag hx hT hE hh =>
  have e1:=cx x bU;rw [hx] at e1;have e1:=e1.eI
  have e2:=cx ha bU;rw [hh] at e2;have e2:=e2.eI
  have hb:=ajB (P:=P) (w:=w) true 0 0 none (some (a.eval ha)) 0 0 (fun y hy=>by cases hy) (fun _=>rfl) (fun y hy=>by cases hy;exact⟨k,e2⟩) (fun h=>by cases h) (bq _) (bq _)
  have fw:(Instr.sliceAt T (.slice none 0 0) none (some (a.eval ha)) none).run P w=.ok (.slice none 0 0) w:=by
   simp only [Instr.sliceAt,Sem.run_bind,run_underlying hT,Result.andThen_ok,Instr.slice,hb,run_sizeOf hE,Sem.run_pure]
   rfl
  refine⟨_,by simp only [execOp,e1,ajc,qS,Sem.run_bind,fw];rfl,bh.v rfl⟩
 | @min2 x y k i j as hx hy =>
  have e1:=cx x lZ;rw [hx] at e1;have e1:=e1.eI
  have e2:=cx y lZ;rw [hy] at e2;have e2:=e2.eI
  exact⟨.int k (if j<i then j else i),by simp [execOp,resolve,invoke,builtin,e1,e2,Builtin.min_,Builtin.min2],bh.int⟩
 | @max2 x y k i j as hx hy =>
  have e1:=cx x lZ;rw [hx] at e1;have e1:=e1.eI
  have e2:=cx y lZ;rw [hy] at e2;have e2:=e2.eI
  exact⟨.int k (if j > i then j else i),by simp [execOp,resolve,invoke,builtin,e1,e2,Builtin.max_,Builtin.max2],bh.int⟩
 | @ahZ T x i s k n b hx hT hi h0 hb =>
  have e1:=cx x bU;rw [hx] at e1;have e1:=e1.eI
  have e2:=cx i bU;rw [hi] at e2;have e2:=e2.eI
  exact⟨.int .u8 b.toNat,by simp [execOp,e1,e2,Instr.index,asIntOf,run_underlying hT,h0,hb],bh.int⟩
 | @abj f xs as fn e vs r1 r2 hf ry hb hn he hx hr h1 h2 =>
  have hargs:xs.map a.eval=vs.toArray:=by
   apply vC
   rw [Array.toList_map]
   have:∀ (l:List Operand) (vs:List Value),l.map ρ=vs.map LV.v->(∀ x∈l,bh Z μ w (ρ x) (a.eval x))->l.map a.eval=vs:=by
    intro l
    induction l with
    | nil =>
         intro vs h _;cases vs with
         | nil=>rfl
         | cons=>simp at h
    | cons y ys ih =>
     intro vs h hr
     cases vs with
     | nil=>simp at h
     | cons v vs =>
      simp only [nZ,fP] at h ⊢
      have h3:=hr y aM
      rw [h.1] at h3
      exact⟨h3.eI,ih vs h.2 (fun z hz=>hr z (by simp [hz]))⟩
   exact this xs.toList vs hx (fun x hx=>cx x (by simp [Op.operands,Call.operands];right;simpa using hx))
  have hc:=run_callFunc_extern (P:=P) (args:=vs.toArray) hf ry hb hn he w
  refine⟨.tuple #[r1,r2],?_,⟨#[r1,r2],rfl,?_⟩⟩
  ·rw [hr w] at hc
   simp only [execOp,resolve,Act.eval,Deferred.ofValue,Sem.run_bind,Sem.run_pure,Result.andThen_ok,invoke]
   rw [hargs]
   simp only [Array.append_empty,Array.empty_append]
   rw [hc];rfl
  ·exact⟨r1,[r2],rfl,⟨by simp [LV.isAgg],fun _=>by simp [aB,h1]⟩,r2,[],rfl,⟨by simp [LV.isAgg],fun _=>by simp [aB,h2]⟩,rfl⟩
 | @zR T x y U s t hx hy h =>
  have e1:=cx x bU;rw [hx] at e1;have e1:=e1.eI
  have e2:=cx y bU;rw [hy] at e2;have e2:=e2.eI
  refine⟨.string (s++t),?_,⟨by simp [LV.isAgg],fun _=>by simp [aB,Value.oneCell']⟩⟩
  have h1:(binOp .add T (.string s) (.string t)).run P w=.ok (.string (s++t)) w:=by
   simp only [binOp,Op.stringOp]
   rw [if_neg (by have:IntKind.i64.max=9223372036854775807:=rfl;rw [this];omega)];rfl
  simp only [execOp,e1,e2,eqGuard]
  simp [h1]
 | @eqS T x y U s t hx hy =>
  have e1:=cx x bU;rw [hx] at e1;have e1:=e1.eI
  have e2:=cx y bU;rw [hy] at e2;have e2:=e2.eI
  refine⟨.bool (s.toList==t.toList),?_,bh.bool⟩
  have h1:(binOp .eql T (.string s) (.string t)).run P w=.ok (.bool (s.toList==t.toList)) w:=by
   simp only [binOp,Op.stringOp];rfl
  simp only [execOp,e1,e2,eqGuard]
  simp [h1]
 | @amX S D E x b off len blk ns hS hE hD hx hb hs hv hl =>
  have e1:=cx x bU;rw [hx] at e1
  have e3:=e1.2 rfl
  simp only [aB] at e3
  refine⟨_,?_,⟨by simp [LV.isAgg],fun _=>by simp only [aB];exact⟨rfl,by simp [Value.oneCell']⟩⟩⟩
  have hlen:len=ns.length:=by
   have:=congrArg apR hv
   simp only [eP,lg,dL] at this;omega
  have vN:∀ v:Value,(∀ k n,v≠.int k n)->(∀ a b,v≠.float a b)->True:=fun _ _ _=>trivial
  rcases e3 with⟨e3,hl0⟩ | ⟨id,cap,c,U,fz,q1,q2,q3,q4,q5⟩
  ·simp only [fP,and_true] at e3
   have:ns=[]:=nM ae
   subst this
   simp [execOp,e3,convert,run_underlying hS,run_underlying hD,run_underlying hE,Conv.bytesToString]
  ·simp only [fP,and_true] at q1
   obtain⟨blk',g1,cc,T',part,rest,g2,g3,g4⟩:=hh b id q2
   rw [hb] at g1;cases g1
   rw [hs] at g4
   have hcell:∀ (l:List LV) (ps:List Value),aS Z μ w 1 l ps->∀ (j n:Nat),l[j]?=some (.v (.int .u8 (n:Nat)))->ps[j]?=some (.int .u8 (n:Nat)):=by
    intro l
    induction l with
    | nil=>intro ps _ j n h;simp at h
    | cons y ys ih =>
     intro ps hr j n h
     simp only [aS] at hr
     obtain⟨ch,ps',rfl,k1,k2,k3⟩:=hr
     match ch,k1 with
     | [u],_ =>
      cases j with
      | zero =>
       simp only [rj,fB] at h
       subst h
       simp only [aB] at k2
       obtain⟨k2,_⟩:=k2
       simp only [fP,and_true] at k2
       simp [k2]
      | succ j =>
       have:=ih ps' k3 j n nH
       simpa using this
   have hld:(loadCells ⟨id,off*1,none⟩ len).run P w=.ok ((ns.map ai2).map (Value.int .u8)).toArray w:=by
    have hL:len=((ns.map ai2).map (Value.int .u8)).length:=by simp [hlen]
    rw [hL]
    refine run_loadCells_list w _ _ (fun j v hv'=>?_)
    have hj:j<ns.length:=by
     rcases gC j ns.length with h | h
     ·exact h
     ·rw [yj nH] at hv';cases hv'
    have hv2:v=.int .u8 ((ns[j]:Nat):Int):=by
     rw [b7 (by simpa using hj)] at hv'
     simp at hv';exact hv'.symm
    have hvj:blk.vals[off+j]?=some (.v (.int .u8 ((ns[j]:Nat):Int))):=by
     have:=congrArg (fun l=>l[j]?) hv
     simp only [List.getElem?_take,if_pos (show j<len by omega),tc,g8,b7 hj,qS] at this
     exact this
    have hp:=hcell _ _ g4 (off+j) _ hvj
    have ahq:(⟨id,off*1,none⟩:Addr).add j=⟨id,off+j,none⟩:=by unfold Addr.add;split<;>simp_all
    rw [ahq,cell_of_row w id (off+j) cc T' (0,0) g2,hv2]
    rw [<-ach,g3,aaM (by rcases gC (off+j) part.length with h | h;exact h;rw [yj h] at hp;cases hp)]
    exact hp
   have sB:=run_bytesToString w _ len cap _ hld
   simp only [execOp,q1]
   rw [Sem.run_bind]
   have:(convert S D (.slice (some ⟨id,off*1,none⟩) len cap)).run P w=.ok (.string ((ns.map ai2).foldl (fun r n=>r.push (UInt8.ofNat n.toNat)) ByteArray.empty)) w:=by
    simp only [convert,Sem.run_bind,run_underlying hS,run_underlying hD,Result.andThen_ok,run_underlying hE]
    exact sB
   rw [this];rfl
 | @aaW T E zs ps n sz ag hT hE hf hz hp =>
  have hm:∀ p∈ps.toList,bh Z μ w (ρ p.2) (a.eval p.2):=fun p hp=>cx p.2 (by simp [Op.operands];exact⟨p.1,by simpa using hp⟩)
  obtain⟨v,h1,h2⟩:=aAD (P:=P) (Z:=Z) (μ:=μ) (w:=w) (a:=a) hT hE hf hz hp hm
  exact⟨v,by simp only [execOp];rw [Sem.run_bind,h1];rfl,h2⟩
 | @build T zs ps hT hz hp =>
  have hm:∀ p∈ps.toList,bh Z μ w (ρ p.2) (a.eval p.2):=fun p hp=>cx p.2 (by simp [Op.operands];exact⟨p.1,by simpa using hp⟩)
  obtain⟨v,h1,h2⟩:=aGV (P:=P) (Z:=Z) (μ:=μ) (w:=w) (a:=a) hT hz hp hm
  exact⟨v,by simp only [execOp];rw [Sem.run_bind,h1];rfl,h2⟩
end
end Go.Lg
namespace Go.Lg
def bW.le (H H':bW):Prop:=∀ b blk,H b=some blk->∃ m,H' b=some ⟨blk.sz,blk.vals,m⟩/\(blk.mt=false->m=false)/\(blk.mt=true->m=false->b≠0)
def q7 (μ:Nat->Option Nat) (d id:Nat):Nat->Option Nat:=fun b=>if b=d then some id else μ b
section
variable {P:Program} {W w w':World} {X:XS} {Z0 Z:Nat->Prop} {μ:Nat->Option Nat} {H:bW}
theorem u7.mono {Z':Nat->Prop} {bm:Nat->Option Nat} {blk:bg} {id:Nat} (hz:∀ id,Z id->Z' id) (hm:∀ b id,μ b=some id->bm b=some id) (hf:Frame Z μ w w')
  (hid:w'.heap[id]?=w.heap[id]?) (h:u7 Z μ w blk id):u7 Z' bm w' blk id:=by
 obtain⟨c,T,part,rest,h1,h2,h3⟩:=h
 exact⟨c,T,part,rest,hid.trans h1,h2,h3.mono hz hm hf⟩
theorem Core.lt (hc:Core W X Z0 μ Z H w) {b id:Nat} (h:μ b=some id):id<w.heap.size:=by
 obtain⟨blk,_,c,T,part,rest,h1,_⟩:=hc.heap b id h
 exact(nA.1 h1).1
theorem Core.xW {H':bW} (hc:Core W X Z0 μ Z H w) (hle:H.le H'):∃ Z',Core W X Z0 μ Z' H' w/\(∀ id,Z id->Z' id):=by
 refine⟨fun id=>Z id\/∃ b blk,μ b=some id/\H' b=some blk/\blk.mt=false,⟨hc.cE,?_,fun id h=>.inl (hc.jS id h),?_,hc.inj,hc.own,hc.x0,hc.oZ,hc.x1,?_,fun b id blk h1 h2 h3=>.inr ⟨b,blk,h1,h2,h3⟩,?_⟩,fun id h=>.inl h⟩
 ·rintro id (h | ⟨b,blk,h,_⟩)
  ·exact hc.mc id h
  ·exact hc.lt h
 ·rintro id (h | ⟨b,blk,h,h2,h3⟩)
  ·exact hc.me id h
  ·obtain⟨vc,g1,_⟩:=hc.heap b id h
   obtain⟨m,g2,g3,g4⟩:=hle b vc g1
   rw [g2] at h2;cases h2
   simp only at h3;subst h3
   cases hm:vc.mt with
   | false=>exact hc.me id (hc.cd b id vc h g1 hm)
   | true =>
    rcases hc.own b id h with h | h' | h'
    ·exact .inr (.inl h)
    ·exact absurd (hc.x0 b id h h') (g4 hm rfl)
    ·exact .inr (.inr h')
 ·rintro b id blk h1 h2 h3 (h | ⟨b',blk',h4,h5,h6⟩)
  ·obtain⟨vc,g1,_⟩:=hc.heap b id h1
   obtain⟨m,g2,g3,_⟩:=hle b vc g1
   rw [g2] at h2;cases h2
   cases hm:vc.mt with
   | false=>have:=g3 hm;subst this;simp at h3
   | true=>exact hc.jD b id vc h1 g1 hm h
  ·have:=hc.inj b b' id h1 h4
   subst this
   rw [h2] at h5;cases h5
   simp [h3] at h6
 ·intro b id h
  obtain⟨blk,g1,g2⟩:=hc.heap b id h
  obtain⟨m,g3,_⟩:=hle b blk g1
  refine⟨_,g3,?_⟩
  obtain⟨c,T,part,rest,h1,h2,h3⟩:=g2
  exact⟨c,T,part,rest,h1,h2,h3.mono (fun id h=>.inl h) (fun _ _ h=>h) (Frame.refl _ _ _) |>.mono (fun _ h=>h) (fun _ _ h=>h) ⟨fun _ _=>rfl,(Frame.refl Z μ w).m⟩⟩
structure tf (w w':World) (o:Obj):Prop where
 os:w'.os=w.os
 tape:w'.tape=w.tape
 output:w'.output=w.output
 heap:w'.heap=w.heap.push o
theorem tf.old {o:Obj} (h:tf w w' o) {k:Nat} (hk:k<w.heap.size):w'.heap[k]?=w.heap[k]?:=by
 rw [h.heap,Array.getElem?_push,if_neg ae]
theorem tf.new {o:Obj} (h:tf w w' o):w'.heap[w.heap.size]?=some o:=by
 rw [h.heap];simp
theorem tf.alloc (w:World) (o:Obj):tf w (w.alloc o) o:=⟨rfl,rfl,rfl,rfl⟩
theorem Core.awD (hc:Core W X Z0 μ Z H w) (hold:∀ k,k<w.heap.size->w'.heap[k]?=w.heap[k]?):Frame Z μ w w' :=
 ⟨fun id h=>hold id (hc.mc id h),fun _ id h c _ _ hh=>⟨c,(hold id (hc.lt h)).trans hh,rfl⟩⟩
theorem Core.push {d:Nat} {blk:bg} {c:Array Value} {T:TypeId} {part rest:List Value} (hc:Core W X Z0 μ Z H w) (hd:H d=some blk) (uh:μ d=none)
  (hp:tf w w' (.cells c T (0,0))) (h1:c.toList=part++rest) (h2:aS Z μ w blk.sz blk.vals part) :
  ∃ Z',Core W X Z0 (q7 μ d w.heap.size) Z' H w'/\(∀ id,Z id->Z' id)/\(∀ b id,μ b=some id->q7 μ d w.heap.size b=some id)/\Frame Z μ w w' /\
   q7 μ d w.heap.size d=some w.heap.size/\w'.heap[w.heap.size]?=some (.cells c T (0,0)):=by
 have hup:∀ b id,μ b=some id->q7 μ d w.heap.size b=some id:=fun b id h=>by
  unfold q7;split
  ·subst_vars;rw [uh] at h;cases h
  ·exact h
 have dQ:=hc.awD (fun k hk=>hp.old hk)
 have hinv:∀ b id,q7 μ d w.heap.size b=some id->(b=d/\id=w.heap.size)\/(b≠d/\μ b=some id):=fun b id h=>by
  unfold q7 at h;split at h
  ·cases h;exact .inl ⟨by assumption,rfl⟩
  ·exact .inr ⟨by assumption,h⟩
 have hzz:∀ id,Z id->(Z id\/(blk.mt=false/\id=w.heap.size)):=fun id h=>.inl h
 refine⟨fun id=>Z id\/(blk.mt=false/\id=w.heap.size),⟨?_,?_,fun id h=>.inl (hc.jS id h),?_,?_,?_,?_,hc.oZ,fun id h=>hup 0 id (hc.x1 id h),?_,?_,?_⟩,hzz,hup,dQ,by simp [q7],hp.new⟩
 ·exact⟨hp.os.trans hc.cE.os,hp.tape.trans hc.cE.tape,hp.output.trans hc.cE.output,by rw [hp.heap,akl];have:=hc.cE.size;omega,
   fun k hk hx=>(hp.old (by have:=hc.cE.size;omega)).trans (hc.cE.block k hk hx),
   fun k hx c T fz h=>let ⟨c',g1,g2⟩:=hc.cE.vT k hx c T fz h;⟨c',(hp.old (nA.1 g1).1).trans g1,g2⟩⟩
 ·rintro id (h | ⟨_,rfl⟩)
  ·have:=hc.mc id h;rw [hp.heap,akl];omega
  ·rw [hp.heap,akl];omega
 ·rintro id (h | ⟨_,rfl⟩)
  ·exact hc.me id h
  ·exact .inr (.inl hc.cE.size)
 ·intro b b' id h h'
  rcases hinv b id h with⟨rfl,rfl⟩ | ⟨n1,h1⟩<;>rcases hinv b' _ h' with⟨rfl,e⟩ | ⟨n2,h2⟩
  ·rfl
  ·have:=hc.lt h2;omega
  ·have:=hc.lt h1;omega
  ·exact hc.inj b b' id h1 h2
 ·intro b id h
  rcases hinv b id h with⟨rfl,rfl⟩ | ⟨n1,h1⟩
  ·exact .inl hc.cE.size
  ·exact hc.own b id h1
 ·intro b id h hx
  rcases hinv b id h with⟨rfl,rfl⟩ | ⟨n1,h1⟩
  ·have:=hc.oZ _ (.inl hx);have:=hc.cE.size;omega
  ·exact hc.x0 b id h1 hx
 ·rintro b id bk h hb hm (hz | ⟨yG,rfl⟩)
  ·rcases hinv b id h with⟨rfl,rfl⟩ | ⟨n1,h1⟩
   ·have:=hc.mc _ hz;omega
   ·exact hc.jD b id bk h1 hb hm hz
  ·rcases hinv b _ h with⟨rfl,_⟩ | ⟨n1,h1⟩
   ·rw [hd] at hb;cases hb;simp [hm] at yG
   ·have:=hc.lt h1;omega
 ·intro b id bk h hb hm
  rcases hinv b id h with⟨rfl,rfl⟩ | ⟨n1,h1⟩
  ·rw [hd] at hb;cases hb;exact .inr ⟨hm,rfl⟩
  ·exact .inl (hc.cd b id bk h1 hb hm)
 ·intro b id h
  rcases hinv b id h with⟨rfl,rfl⟩ | ⟨n1,h3⟩
  ·exact⟨blk,hd,c,T,part,rest,hp.new,h1,h2.mono hzz hup dQ⟩
  ·obtain⟨bk,g1,g2⟩:=hc.heap b id h3
   exact⟨bk,g1,g2.mono hzz hup dQ (hp.old (hc.lt h3))⟩
end
mutual
inductive cY (H:bW):LV->LV->Prop
 | pure {x} (h:x.pure=true):cY H x x
 | nil (sz):cY H (.v (.slice none 0 0)) (.list sz [])
 | ref {b sz off len blk} (hb:H b=some blk) (hs:blk.sz=sz) (hp:aN blk.vals=true) (hl:off+len<=blk.vals.length) (hf:blk.mt=false) :
   cY H (.ref b sz off len) (.list sz ((blk.vals.drop off).take len))
 | aD {b sz i o blk x y n ag} (hb:H b=some blk) (hs:blk.sz=sz) (hi:blk.vals[i]?=some x) (hx:x.aw=sz) (hy:x.at o n ag=some y) (hp:y.pure=true) (hf:blk.mt=false) :
   cY H (.aD b sz i o) (.cr y)
 | ahA {b sz off len blk l'} (hb:H b=some blk) (hs:blk.sz=sz) (hl:off+len<=blk.vals.length) (hf:blk.mt=false) (h:fY H ((blk.vals.drop off).take len) l'):cY H (.ref b sz off len) (.list sz l')
 | agg {l l'} (h:fY H l l'):cY H (.agg l) (.agg l')
inductive fY (H:bW):List LV->List LV->Prop
 | nil:fY H [] []
 | cons {x y xs ys} (h:cY H x y) (t:fY H xs ys):fY H (x :: xs) (y :: ys)
end
section
variable {W w:World} {X:XS} {Z0 Z:Nat->Prop} {μ bm:Nat->Option Nat} {H H':bW}
mutual
theorem cY.lay:∀ {x y:LV},cY H x y->y.isAgg=x.isAgg/\y.aw=x.aw/\y.pure=true
 | _,_,.pure h=>⟨rfl,rfl,h⟩
 | _,_,.nil _=>⟨rfl,rfl,rfl⟩
 | _,_,.ref hb hs hp hl hf=>⟨rfl,rfl,by
   simp only [LV.pure]
   rw [zp] at hp ⊢
   exact fun x hx=>hp x (wg (wh hx))⟩
 | _,_,.aD hb hs hi hx hy hp hf=>⟨rfl,rfl,by simpa [LV.pure] using hp⟩
 | _,_,.ahA hb hs hl hf h=>⟨rfl,rfl,by simpa [LV.pure] using (fY.lay h).2⟩
 | _,_,.agg h=>by
   have:=fY.lay h
   exact⟨rfl,by simp [LV.aw,this.1],by simp [LV.pure,this.2]⟩
theorem fY.lay:∀ {x y:List LV},fY H x y->da y=da x/\aN y=true
 | _,_,.nil=>⟨rfl,rfl⟩
 | _,_,.cons h t=>by
   have h1:=cY.lay h
   have h2:=fY.lay t
   exact⟨by simp [da,h1.2.1,h2.1],by simp [aN,h1.2.2,h2.2]⟩
end
theorem fY.len:∀ {x y:List LV},fY H x y->y.length=x.length
 | _,_,.nil=>rfl
 | _,_,.cons _ t=>by simp [fY.len t]
mutual
theorem cY.sound (hc:Core W X Z0 μ Z H w):∀ {x y:LV} {cs:List Value},cY H x y->aB Z μ w x cs->aB Z bm w y cs
 | _,_,_,.pure h,hr=>aB.kW (fun _ h=>h) (fun _ _=>rfl) _ _ h hr
 | _,_,_,.nil sz,hr=>by
   simp only [aB] at hr ⊢
   exact⟨none,0,0,hr.1,rfl,bq _,.inl trivial,rfl⟩
 | _,_,_,@cY.ref _ b sz off len blk hb hs hp hl hf,hr=>by
   simp only [aB] at hr ⊢
   rcases hr with⟨hr,rfl⟩ | ⟨id,cap,c,T,fz,h1,h2,h3,h4,h5⟩
   ·exact⟨none,0,0,hr,by simp,bq _,.inl aM,by simp [aN]⟩
   obtain⟨blk',g1,c',T',part,rest,g2,g3,g4⟩:=hc.heap b id h2
   rw [hb] at g1;cases g1
   rw [h4] at g2;cases g2
   refine⟨_,_,_,h1,by simp;omega,h3,?_,(zp _).2 fun x hx=>(zp _).1 hp x (wg (wh hx))⟩
   have hz:=hc.cd b id blk h2 hb hf
   right
   obtain⟨c1,c2,d1,d2,d3⟩:=aS.split (blk.vals.take off) (blk.vals.drop off) part ace
   obtain⟨c3,c4,d4,d5,d6⟩:=aS.split ((blk.vals.drop off).take len) ((blk.vals.drop off).drop len) c2 (by rw [vS];exact d3)
   have lY:=aS.length _ _ d2
   rw [eP,mf ae,hs] at lY
   refine⟨id,off*sz,c,T,(0,0),c3,c4++rest,rfl,hz,h4,?_,?_⟩
   ·rw [g3,d1,d4,<-lY];simp
   ·rw [hs] at d5
    refine aS.kW (fun _ h=>h) (fun _ _=>rfl) _ _ _ ?_ d5
    rw [zp] at hp ⊢
    exact fun x hx=>hp x (wg (wh hx))
 | _,_,_,@cY.aD _ b sz i o blk x y n ag hb hs hi hx hy hp hf,hr=>by
   simp only [aB] at hr ⊢
   obtain⟨id,h1,h2⟩:=hr
   obtain⟨blk',g1,c,T,part,rest,g2,g3,g4⟩:=hc.heap b id h2
   rw [hb] at g1;cases g1
   have hz:=hc.cd b id blk h2 hb hf
   obtain⟨ch,post,k1,k2,k3⟩:=anA (off:=0) (by simpa using g3) g4 hi
   obtain⟨pre,vX,wq,j1,j2,j3,j4,j5,j6,j7,j8⟩:=LV.ako x o n ag y ch hy k3 (by rw [k2,hs,hx])
   refine⟨id,_,c,T,(0,0),vX,wq++post,h1,hz,g2,?_,by rw [j3,j6],aB.kW (fun _ h=>h) (fun _ _=>rfl) _ _ hp j4,hp⟩
   rw [fF,hs] at k1
   rw [<-rm,k1,j1,<-j2];simp
 | _,_,_,@cY.ahA _ b sz off len blk l' hb hs hl hf h,hr=>by
   simp only [aB] at hr ⊢
   have hll:=fY.len h
   have hlp:=(fY.lay h).2
   rw [eP,lg,mf ae] at hll
   rcases hr with⟨hr,rfl⟩ | ⟨id,cap,c,T,fz,h1,h2,h3,h4,h5⟩
   ·exact⟨none,0,0,hr,hll.symm,bq _,.inl (List.length_eq_zero_iff.1 hll),hlp⟩
   obtain⟨blk',g1,c',T',part,rest,g2,g3,g4⟩:=hc.heap b id h2
   rw [hb] at g1;cases g1
   rw [h4] at g2;cases g2
   refine⟨_,_,_,h1,hll.symm,h3,?_,hlp⟩
   have hz:=hc.cd b id blk h2 hb hf
   right
   obtain⟨c1,c2,d1,d2,d3⟩:=aS.split (blk.vals.take off) (blk.vals.drop off) part ace
   obtain⟨c3,c4,d4,d5,d6⟩:=aS.split ((blk.vals.drop off).take len) ((blk.vals.drop off).drop len) c2 (by rw [vS];exact d3)
   have lY:=aS.length _ _ d2
   rw [eP,mf ae,hs] at lY
   refine⟨id,off*sz,c,T,(0,0),c3,c4++rest,rfl,hz,h4,?_,?_⟩
   ·rw [g3,d1,d4,<-lY];simp
   ·rw [hs] at d5
    exact fY.atP hc h d5
 | _,_,_,.agg h,hr=>by
   simp only [aB] at hr ⊢
   exact fY.sound hc h hr
theorem fY.sound (hc:Core W X Z0 μ Z H w):∀ {x y:List LV} {cs:List Value},fY H x y->cC Z μ w x cs->cC Z bm w y cs
 | _,_,_,.nil,hr=>by simpa [cC] using hr
 | _,_,_,.cons h t,hr=>by
   simp only [cC] at hr ⊢
   obtain⟨c1,c2,rfl,h2,h3,h4⟩:=hr
   exact⟨c1,c2,rfl,by rw [h2,(cY.lay h).2.1],cY.sound hc h h3,fY.sound hc t h4⟩
theorem fY.atP (hc:Core W X Z0 μ Z H w) {sz:Nat}:∀ {x y:List LV} {cs:List Value},fY H x y->aS Z μ w sz x cs->aS Z bm w sz y cs
 | _,_,_,.nil,hr=>by simpa [aS] using hr
 | _,_,_,.cons h t,hr=>by
   simp only [aS] at hr ⊢
   obtain⟨c1,c2,rfl,h2,h3,h4⟩:=hr
   exact⟨c1,c2,rfl,h2,cY.sound hc h h3,fY.atP hc t h4⟩
end
mutual
theorem cY.le (hle:H.le H'):∀ {x y:LV},cY H x y->cY H' x y
 | _,_,.pure h=>.pure h
 | _,_,.nil sz=>.nil sz
 | _,_,.ref hb hs hp hl hf=>by
   obtain⟨m,g1,g2,_⟩:=hle _ _ hb
   exact cY.ref (blk:=⟨_,_,m⟩) g1 hs hp hl (g2 hf)
 | _,_,.aD hb hs hi hx hy hp hf=>by
   obtain⟨m,g1,g2,_⟩:=hle _ _ hb
   exact cY.aD (blk:=⟨_,_,m⟩) g1 hs hi hx hy hp (g2 hf)
 | _,_,.ahA hb hs hl hf h=>by
   obtain⟨m,g1,g2,_⟩:=hle _ _ hb
   exact cY.ahA (blk:=⟨_,_,m⟩) g1 hs hl (g2 hf) (fY.le hle h)
 | _,_,.agg h=>.agg (fY.le hle h)
theorem fY.le (hle:H.le H'):∀ {x y:List LV},fY H x y->fY H' x y
 | _,_,.nil=>.nil
 | _,_,.cons h t=>.cons (cY.le hle h) (fY.le hle t)
end
theorem cY.ne {x y:LV} (h:cY H x y):x≠.any/\∀ l,x≠.bf l:=by
 cases h with
 | pure h=>exact⟨LV.fp h,LV.eW h⟩
 | _=>exact⟨by simp,by simp⟩
theorem cY.abT (hc:Core W X Z0 μ Z H w) {x y:LV} {v:Value} (h:cY H x y) (hr:bh Z μ w x v):fS Z bm w y v:=by
 have h1:=bh.zo h.ne.2 h.ne.1 hr
 obtain⟨e1,_,_⟩:=h.lay
 exact⟨fun e=>let ⟨cs,g1,g2⟩:=h1.1 (e1 ▸ e);⟨cs,g1,cY.sound hc h g2⟩,fun e=>cY.sound hc h (h1.2 (e1 ▸ e))⟩
end
end Go.Lg
end
